/- Lemmas towards the law: what of the text DkQ5 it needs. -/
import Derived.Test.YtgcgnhcjjlnloaaDoorDkQ1q
import Derived.Test.YtgcgnhcjjlnloaaDoorDkQ2q
import Derived.Test.YtgcgnhcjjlnloaaDoorDkQ3q
import Derived.Test.YtgcgnhcjjlnloaaDoorDkQ4q
namespace Go.Proofs.YtgcgnhcjjlnloaaDoor.Dk
open Go.RowKit Go.Proofs.YtgcgnhcjjlnloaaDoorW.PrintWords Go.Proofs.YtgcgnhcjjlnloaaDoor.Sl
set_option linter.unusedVariables false
set_option linter.unusedSimpArgs false
theorem do_any {w0 w : World} {G : HP} (gD gM gX Bd : Nat) (left : Int) (armed off : Bool) (m : FM) (L : List (Option Addr × List Int)) (S : Nat → Prop) (x : RDk) (A : Option Addr) (c : Nat) (SR : Nat → Prop) (dd on : Int) (name b : ByteArray) (K : Option Addr) (nk ck : Nat) (ks : List Int) (hd : DOk Bd left armed m L) (hx : XOk Bd x) (hBd : Bd ≤ 70368744000000) (hb : b.size ≤ 10000) (hnz : name.size ≤ 9223372036854775807) (hon : on ≤ 9223372036854775807) (hK : ∀ w, Below w0.heap.size w0 w → G.ok w → Rd (ints .i64) 1 w K nk ks) (hck : nk ≤ ck) (HS0 : SH w0 w [blk gD [.map (some gM), .int .i64 left, .bool armed, .bool off] 52, mpF gM m, poolI L S, blk gX [.slice A x.F.length c, .int .i64 x.arm, .bool x.off] 60, row rfK 65 (.slice A x.F.length c) x.F SR, G]) :
    Calls Tryd.prog 12 #[.pointer (some ⟨gD, 0, none⟩), .pointer (some ⟨gX, 0, none⟩), .agg #[.int .i64 dd, .int .i64 on, .string name, .string b, .slice K nk ck]] w (DoPost w0 gX Bd dd gD gM left armed off m x G) := by
  by_cases h0 : dd = 0
  · subst h0; exact do_0 gD gM gX Bd left armed off m L S x A c SR on name b K nk ck ks hd hx hBd hb hnz hon hK hck HS0
  by_cases h1 : dd = 1
  · subst h1; exact do_1 gD gM gX Bd left armed off m L S x A c SR on name b K nk ck ks hd hx hBd hb hnz hon hK hck HS0
  by_cases h2 : dd = 2
  · subst h2; exact do_2 gD gM gX Bd left armed off m L S x A c SR on name b K nk ck ks hd hx hBd hb hnz hon hK hck HS0
  by_cases h3 : dd = 3
  · subst h3; exact do_3 gD gM gX Bd left armed off m L S x A c SR on name b K nk ck ks hd hx hBd hb hnz hon hK hck HS0
  by_cases h4 : dd = 4
  · subst h4; exact do_4 gD gM gX Bd left armed off m L S x A c SR on name b K nk ck ks hd hx hBd hb hnz hon hK hck HS0
  by_cases h5 : dd = 5
  · subst h5; exact do_5 gD gM gX Bd left armed off m L S x A c SR on name b K nk ck ks hd hx hBd hb hnz hon hK hck HS0
  by_cases h6 : dd = 6
  · subst h6; exact do_6 gD gM gX Bd left armed off m L S x A c SR on name b K nk ck ks hd hx hBd hb hnz hon hK hck HS0
  by_cases h7 : dd = 7
  · subst h7; exact do_7 gD gM gX Bd left armed off m L S x A c SR on name b K nk ck ks hd hx hBd hb hnz hon hK hck HS0
  exact do_other gD gM gX Bd left armed off m L S x A c SR dd (by omega) on name b K nk ck ks hd hx hBd hb hnz hon hK hck HS0
end Go.Proofs.YtgcgnhcjjlnloaaDoor.Dk
