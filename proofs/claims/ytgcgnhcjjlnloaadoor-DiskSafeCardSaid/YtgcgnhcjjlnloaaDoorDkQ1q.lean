/- Lemmas towards the law: what of the text DkQ1 it needs. -/
import Derived.Test.YtgcgnhcjjlnloaaDoorDkQ0q
namespace Go.Proofs.YtgcgnhcjjlnloaaDoor.Dk
open Go.RowKit Go.Proofs.YtgcgnhcjjlnloaaDoorW.PrintWords Go.Proofs.YtgcgnhcjjlnloaaDoor.Sl
set_option linter.unusedVariables false
set_option linter.unusedSimpArgs false
set_option maxHeartbeats 6400000 in
set_option maxRecDepth 100000 in
theorem do_other {w0 w : World} {G : HP} (gD gM gX Bd : Nat) (left : Int) (armed off : Bool) (m : FM) (L : List (Option Addr × List Int)) (S : Nat → Prop) (x : RDk) (A : Option Addr) (c : Nat) (SR : Nat → Prop) (dd : Int) (hdd : dd < 0 ∨ 7 < dd) (on : Int) (name b : ByteArray) (K : Option Addr) (nk ck : Nat) (ks : List Int) (hd : DOk Bd left armed m L) (hx : XOk Bd x) (hBd : Bd ≤ 70368744000000) (hb : b.size ≤ 10000) (hnz : name.size ≤ 9223372036854775807) (hon : on ≤ 9223372036854775807) (hK : ∀ w, Below w0.heap.size w0 w → G.ok w → Rd (ints .i64) 1 w K nk ks) (hck : nk ≤ ck) (HS0 : SH w0 w [blk gD [.map (some gM), .int .i64 left, .bool armed, .bool off] 52, mpF gM m, poolI L S, blk gX [.slice A x.F.length c, .int .i64 x.arm, .bool x.off] 60, row rfK 65 (.slice A x.F.length c) x.F SR, G]) :
    Calls Tryd.prog 12 #[.pointer (some ⟨gD, 0, none⟩), .pointer (some ⟨gX, 0, none⟩), .agg #[.int .i64 dd, .int .i64 on, .string name, .string b, .slice K nk ck]] w (DoPost w0 gX Bd dd gD gM left armed off m x G) := by
  obtain ⟨F, arm, xoff⟩ := x
  simp only at HS0
  have hxr := hx.rd (Nat.le_trans hBd (by omega))
  obtain ⟨n, hn⟩ : ∃ n, F.length = n := ⟨_, rfl⟩
  have hn64 : n ≤ 64 := by rw [← hn]; exact hx.len
  have hn1 : n ≤ 1000 := by omega
  rw [hn] at HS0
  have HM := Aside0.mk hn
  have HS := Aside0.mk HS0
  have HD := Aside0.mk hd
  have HX := Aside0.mk hx
  have HXR := Aside0.mk hxr
  have HKA := Aside0.mk hK
  clear HS0 hd hx hxr hn hK
  have h0 : (dd == 0) = false := beq_eq_false_iff_ne.2 (by omega)
  have h1 : (dd == 1) = false := beq_eq_false_iff_ne.2 (by omega)
  have h2 : (dd == 2) = false := beq_eq_false_iff_ne.2 (by omega)
  have h3 : (dd == 3) = false := beq_eq_false_iff_ne.2 (by omega)
  have h4 : (dd == 4) = false := beq_eq_false_iff_ne.2 (by omega)
  have h5 : (dd == 5) = false := beq_eq_false_iff_ne.2 (by omega)
  have h6 : (dd == 6) = false := beq_eq_false_iff_ne.2 (by omega)
  have h7 : (dd == 7) = false := beq_eq_false_iff_ne.2 (by omega)
  go_enter Tryd.func12, Tryd.ntmps12
  go_wp2_with (first | ((fail_if_success (have _ := gt)); ((with_reducible refine gB rfl ?_); refine bx HS.out rfl rfl ?_; (first | refine bv (v := .agg (List.toArray _)) rfl ?_ | refine bv (v := .int _ _) rfl ?_ | refine bv (v := .slice _ _ _) rfl ?_ | refine bv (v := .bool _) rfl ?_ | refine bv (v := .pointer _) rfl ?_ | refine bv (v := .string _) rfl ?_ | refine bv (v := .map _) rfl ?_ | refine bv (v := .func _ _ _) rfl ?_); clear HS; intro gt w1 hgt HS1; (simp only [RF.enc, segOf, aL, aC, aE] at HS1); have HS := Aside0.mk HS1; clear HS1; try simp only [aP, aN, aT, aZ, aS])) | ((first | ((first | ((with_reducible refine gA rfl ?_); refine sh_alloc HS.out rfl rfl (zeT _ (by decide)) ?_) | ((with_reducible refine gB rfl ?_); refine bx HS.out rfl rfl ?_; first | refine bv (v := .agg (List.toArray _)) rfl ?_ | refine bv (v := .int _ _) rfl ?_ | refine bv (v := .slice _ _ _) rfl ?_ | refine bv (v := .bool _) rfl ?_ | refine bv (v := .pointer _) rfl ?_ | refine bv (v := .string _) rfl ?_ | refine bv (v := .map _) rfl ?_ | refine bv (v := .func _ _ _) rfl ?_) | ((with_reducible refine gL rfl ?_); refine sh_lit HS.out rfl rfl (by go_simp; exact ⟨⟨rfl, rfl⟩, rfl⟩) ?_)); clear HS; intro g w1 hg HS1; (simp only [RF.enc, zeF, segOf, aL, aC, aE] at HS1); have HS := Aside0.mk HS1; clear HS1) | ((with_reducible refine gLd rfl ?_); refine ld2 HS.out rfl rfl rfl (by repeat (first | exact AtI.here | apply AtI.there)) ?_; (first | refine LdK.one ((agT _ (by decide)).trans rfl) rfl ?_ | (refine LdK.agg ((agT _ (by decide)).trans rfl) (szT _ (by decide)) (lb rfl) ?_; try simp only [szL, aP, aN, aT, aZ, aS, aD, aF, aJ, aK, aM, aO]))) | ((with_reducible refine gSt rfl ?_); refine st2 HS.out rfl rfl rfl rfl (by repeat (first | exact AtI.here | apply AtI.there)) ?_; (first | refine sv (u := .agg (List.toArray _)) rfl ?_ | refine sv (u := .int _ _) rfl ?_ | refine sv (u := .slice _ _ _) rfl ?_ | refine sv (u := .bool _) rfl ?_ | refine sv (u := .pointer _) rfl ?_ | refine sv (u := .string _) rfl ?_ | refine sv (u := .map _) rfl ?_ | refine sv (u := .func _ _ _) rfl ?_); refine sw (szT _ (by decide)) rfl (lb rfl) ?_; clear HS; intro w1 HS1; (simp only [RF.enc, segOf, aL, aZ, aS, putSeg] at HS1); have HS := Aside0.mk HS1; clear HS1)); try simp only [aP, aN, aT, aZ, aS]))
  go_ret2
  exact ⟨gD, gM, left, armed, off, m, L, S, ⟨F, arm, xoff⟩, true, A, c, SR, rfl, HD.out.up (by omega), HX.out.up (by omega), fun h => ⟨rfl, h⟩, fun _ => ⟨rfl, rfl, fun h1 h2 => ⟨h1, h2⟩⟩, by show SH w0 _ [blk gD [.map (some gM), .int .i64 left, .bool armed, .bool off] 52, mpF gM m, poolI L S, blk gX [.slice A F.length c, .int .i64 arm, .bool xoff] 60, row rfK 65 (.slice A F.length c) F SR, G]; rw [HM.out]; exact HS.out.pick [0, 1, 2, 3, 4, 5] rfl (by decide)⟩
set_option maxHeartbeats 6400000 in
set_option maxRecDepth 100000 in
theorem do_4 {w0 w : World} {G : HP} (gD gM gX Bd : Nat) (left : Int) (armed off : Bool) (m : FM) (L : List (Option Addr × List Int)) (S : Nat → Prop) (x : RDk) (A : Option Addr) (c : Nat) (SR : Nat → Prop) (on : Int) (name b : ByteArray) (K : Option Addr) (nk ck : Nat) (ks : List Int) (hd : DOk Bd left armed m L) (hx : XOk Bd x) (hBd : Bd ≤ 70368744000000) (hb : b.size ≤ 10000) (hnz : name.size ≤ 9223372036854775807) (hon : on ≤ 9223372036854775807) (hK : ∀ w, Below w0.heap.size w0 w → G.ok w → Rd (ints .i64) 1 w K nk ks) (hck : nk ≤ ck) (HS0 : SH w0 w [blk gD [.map (some gM), .int .i64 left, .bool armed, .bool off] 52, mpF gM m, poolI L S, blk gX [.slice A x.F.length c, .int .i64 x.arm, .bool x.off] 60, row rfK 65 (.slice A x.F.length c) x.F SR, G]) :
    Calls Tryd.prog 12 #[.pointer (some ⟨gD, 0, none⟩), .pointer (some ⟨gX, 0, none⟩), .agg #[.int .i64 4, .int .i64 on, .string name, .string b, .slice K nk ck]] w (DoPost w0 gX Bd 4 gD gM left armed off m x G) := by
  obtain ⟨F, arm, xoff⟩ := x
  simp only at HS0
  have hxr := hx.rd (Nat.le_trans hBd (by omega))
  obtain ⟨n, hn⟩ : ∃ n, F.length = n := ⟨_, rfl⟩
  have hn64 : n ≤ 64 := by rw [← hn]; exact hx.len
  have hn1 : n ≤ 1000 := by omega
  rw [hn] at HS0
  have HM := Aside0.mk hn
  have HS := Aside0.mk HS0
  have HD := Aside0.mk hd
  have HX := Aside0.mk hx
  have HXR := Aside0.mk hxr
  have HKA := Aside0.mk hK
  clear HS0 hd hx hxr hn hK
  go_enter Tryd.func12, Tryd.ntmps12
  go_wp2_with (first | (go_at_call 8; (have HC := arm_any gD _ left armed off on (SH.pack (is := [_]) [_, _, _, _, _, _] HS.out)); (with_reducible refine HC.mono ?_); clear HC; rintro e w2 ⟨rfl, HS9⟩; clear HS; have HS := Aside0.mk (SH.unpack (is := [_]) [_, _, _, _, _, _] HS9); clear HS9; simp only [aC, aE] at HS) | (go_at_call 27; (have HC := rset_any gX _ arm xoff on (SH.pack (is := [_]) [_, _, _, _, _, _] (HS.out.pick [3, 0, 1, 2, 4, 5, 6] rfl (by decide)))); (with_reducible refine HC.mono ?_); clear HC; rintro e w2 ⟨rfl, HS9⟩; clear HS; have HS := Aside0.mk (show SH w0 w2 [_, _, _, _, _, _, _] from (SH.unpack (is := [_]) [_, _, _, _, _, _] HS9).pick [1, 2, 3, 0, 4, 5, 6] rfl (by decide)); clear HS9) | ((fail_if_success (have _ := gt)); ((with_reducible refine gB rfl ?_); refine bx HS.out rfl rfl ?_; (first | refine bv (v := .agg (List.toArray _)) rfl ?_ | refine bv (v := .int _ _) rfl ?_ | refine bv (v := .slice _ _ _) rfl ?_ | refine bv (v := .bool _) rfl ?_ | refine bv (v := .pointer _) rfl ?_ | refine bv (v := .string _) rfl ?_ | refine bv (v := .map _) rfl ?_ | refine bv (v := .func _ _ _) rfl ?_); clear HS; intro gt w1 hgt HS1; (simp only [RF.enc, segOf, aL, aC, aE] at HS1); have HS := Aside0.mk HS1; clear HS1; try simp only [aP, aN, aT, aZ, aS])) | ((first | ((first | ((with_reducible refine gA rfl ?_); refine sh_alloc HS.out rfl rfl (zeT _ (by decide)) ?_) | ((with_reducible refine gB rfl ?_); refine bx HS.out rfl rfl ?_; first | refine bv (v := .agg (List.toArray _)) rfl ?_ | refine bv (v := .int _ _) rfl ?_ | refine bv (v := .slice _ _ _) rfl ?_ | refine bv (v := .bool _) rfl ?_ | refine bv (v := .pointer _) rfl ?_ | refine bv (v := .string _) rfl ?_ | refine bv (v := .map _) rfl ?_ | refine bv (v := .func _ _ _) rfl ?_) | ((with_reducible refine gL rfl ?_); refine sh_lit HS.out rfl rfl (by go_simp; exact ⟨⟨rfl, rfl⟩, rfl⟩) ?_)); clear HS; intro g w1 hg HS1; (simp only [RF.enc, zeF, segOf, aL, aC, aE] at HS1); have HS := Aside0.mk HS1; clear HS1) | ((with_reducible refine gLd rfl ?_); refine ld2 HS.out rfl rfl rfl (by repeat (first | exact AtI.here | apply AtI.there)) ?_; (first | refine LdK.one ((agT _ (by decide)).trans rfl) rfl ?_ | (refine LdK.agg ((agT _ (by decide)).trans rfl) (szT _ (by decide)) (lb rfl) ?_; try simp only [szL, aP, aN, aT, aZ, aS, aD, aF, aJ, aK, aM, aO]))) | ((with_reducible refine gSt rfl ?_); refine st2 HS.out rfl rfl rfl rfl (by repeat (first | exact AtI.here | apply AtI.there)) ?_; (first | refine sv (u := .agg (List.toArray _)) rfl ?_ | refine sv (u := .int _ _) rfl ?_ | refine sv (u := .slice _ _ _) rfl ?_ | refine sv (u := .bool _) rfl ?_ | refine sv (u := .pointer _) rfl ?_ | refine sv (u := .string _) rfl ?_ | refine sv (u := .map _) rfl ?_ | refine sv (u := .func _ _ _) rfl ?_); refine sw (szT _ (by decide)) rfl (lb rfl) ?_; clear HS; intro w1 HS1; (simp only [RF.enc, segOf, aL, aZ, aS, putSeg] at HS1); have HS := Aside0.mk HS1; clear HS1)); try simp only [aP, aN, aT, aZ, aS]))
  go_ret2
  refine ⟨gD, gM, (if off then left else on), (if off then armed else decide (0 ≤ on)), off, m, L, S, ⟨F, if xoff then arm else max on (-1), xoff⟩, true, A, c, SR, rfl, ⟨HD.out.nd, HD.out.small, HD.out.len, HD.out.ok.up (by omega), fun h => ?_⟩, ⟨HX.out.len, (HX.out.up (show Bd ≤ Bd + 10000 by omega)).each, ?_⟩, fun h => ⟨rfl, h.sim, h.off, ?_⟩, fun h => absurd h (by decide), by show SH w0 _ [blk gD [.map (some gM), .int .i64 (if off then left else on), .bool (if off then armed else decide (0 ≤ on)), .bool off] 52, mpF gM m, poolI L S, blk gX [.slice A F.length c, .int .i64 (if xoff then arm else max on (-1)), .bool xoff] 60, row rfK 65 (.slice A F.length c) F SR, G]; rw [HM.out]; exact HS.out.pick [0, 1, 2, 3, 4, 5] rfl (by decide)⟩
  · cases off with
    | true => exact HD.out.lf h
    | false => exact ⟨of_decide_eq_true h, hon⟩
  · have := HX.out.arm
    show (if xoff then arm else max on (-1)) ≤ _
    have h2 : arm ≤ 9223372036854775807 := this
    split <;> omega
  · have h1 : xoff = off := h.off
    have h2 : arm = if armed then left else -1 := h.arm
    show (if xoff then arm else max on (-1)) = _
    rw [h1]
    cases off with
    | true => exact h2
    | false =>
      show max on (-1) = if decide (0 ≤ on) = true then on else -1
      by_cases h0 : 0 ≤ on
      · rw [if_pos (decide_eq_true h0)]; omega
      · rw [if_neg (by simpa using h0)]; omega
set_option maxHeartbeats 6400000 in
set_option maxRecDepth 100000 in
theorem do_5 {w0 w : World} {G : HP} (gD gM gX Bd : Nat) (left : Int) (armed off : Bool) (m : FM) (L : List (Option Addr × List Int)) (S : Nat → Prop) (x : RDk) (A : Option Addr) (c : Nat) (SR : Nat → Prop) (on : Int) (name b : ByteArray) (K : Option Addr) (nk ck : Nat) (ks : List Int) (hd : DOk Bd left armed m L) (hx : XOk Bd x) (hBd : Bd ≤ 70368744000000) (hb : b.size ≤ 10000) (hnz : name.size ≤ 9223372036854775807) (hon : on ≤ 9223372036854775807) (hK : ∀ w, Below w0.heap.size w0 w → G.ok w → Rd (ints .i64) 1 w K nk ks) (hck : nk ≤ ck) (HS0 : SH w0 w [blk gD [.map (some gM), .int .i64 left, .bool armed, .bool off] 52, mpF gM m, poolI L S, blk gX [.slice A x.F.length c, .int .i64 x.arm, .bool x.off] 60, row rfK 65 (.slice A x.F.length c) x.F SR, G]) :
    Calls Tryd.prog 12 #[.pointer (some ⟨gD, 0, none⟩), .pointer (some ⟨gX, 0, none⟩), .agg #[.int .i64 5, .int .i64 on, .string name, .string b, .slice K nk ck]] w (DoPost w0 gX Bd 5 gD gM left armed off m x G) := by
  obtain ⟨F, arm, xoff⟩ := x
  simp only at HS0
  have hxr := hx.rd (Nat.le_trans hBd (by omega))
  obtain ⟨n, hn⟩ : ∃ n, F.length = n := ⟨_, rfl⟩
  have hn64 : n ≤ 64 := by rw [← hn]; exact hx.len
  have hn1 : n ≤ 1000 := by omega
  rw [hn] at HS0
  have HM := Aside0.mk hn
  have HS := Aside0.mk HS0
  have HD := Aside0.mk hd
  have HX := Aside0.mk hx
  have HXR := Aside0.mk hxr
  have HKA := Aside0.mk hK
  clear HS0 hd hx hxr hn hK
  go_enter Tryd.func12, Tryd.ntmps12
  go_wp2_with (first | (go_at_call 17; (have HC := crash_any (F := allI [blk gX [.slice A n c, .int .i64 arm, .bool xoff] 60, row rfK 65 (.slice A n c) F SR, G, blk gt [.int .i64 5, .int .i64 on, .string name, .string b, .slice K nk ck] 29]) gD gM left armed off m L S Bd HD.out.keys HD.out.ok (by omega) K nk ck ks (fun w hb h => HKA.out w hb (h.1 _ (List.mem_cons_of_mem _ (List.mem_cons_of_mem _ List.mem_cons_self)))) hck (SH.pack (is := [_, _, _]) [_, _, _, _] HS.out)); (with_reducible refine HC.mono ?_); clear HC; rintro e w2 ⟨rfl, L9, hok9, hL9, HS9⟩; clear HS; have HOK9 := Aside0.mk hok9; have HL9 := Aside0.mk hL9; clear hok9 hL9; have HS := Aside0.mk (SH.unpack (is := [_, _, _]) [_, _, _, _] HS9); clear HS9; simp only [aC, aE] at HS) | (go_at_call 28; (have HC := rcrash_any (G := allI [blk gD [.map (some gM), .int .i64 left, .bool false, .bool true] 52, mpF gM (crashM (namesOf m) m ks), poolI L9 S, G, blk gt [.int .i64 5, .int .i64 on, .string name, .string b, .slice K nk ck] 29]) gX A n c arm xoff F SR K nk ck ks (fun w hb h => HKA.out w hb (h.1 _ (List.mem_cons_of_mem _ (List.mem_cons_of_mem _ (List.mem_cons_of_mem _ List.mem_cons_self))))) hn1 HXR.out.each (SH.pack (is := [_, _]) [_, _, _, _, _] (HS.out.pick [3, 4, 0, 1, 2, 5, 6] rfl (by decide)))); (with_reducible refine HC.mono ?_); clear HC; rintro e w2 ⟨rfl, A9, c9, S9, HS9⟩; clear HS; have HS := Aside0.mk (show SH w0 w2 [_, _, _, _, _, _, _] from (SH.unpack (is := [_, _]) [_, _, _, _, _] HS9).pick [2, 3, 4, 0, 1, 5, 6] rfl (by decide)); clear HS9) | ((fail_if_success (have _ := gt)); ((with_reducible refine gB rfl ?_); refine bx HS.out rfl rfl ?_; (first | refine bv (v := .agg (List.toArray _)) rfl ?_ | refine bv (v := .int _ _) rfl ?_ | refine bv (v := .slice _ _ _) rfl ?_ | refine bv (v := .bool _) rfl ?_ | refine bv (v := .pointer _) rfl ?_ | refine bv (v := .string _) rfl ?_ | refine bv (v := .map _) rfl ?_ | refine bv (v := .func _ _ _) rfl ?_); clear HS; intro gt w1 hgt HS1; (simp only [RF.enc, segOf, aL, aC, aE] at HS1); have HS := Aside0.mk HS1; clear HS1; try simp only [aP, aN, aT, aZ, aS])) | ((first | ((first | ((with_reducible refine gA rfl ?_); refine sh_alloc HS.out rfl rfl (zeT _ (by decide)) ?_) | ((with_reducible refine gB rfl ?_); refine bx HS.out rfl rfl ?_; first | refine bv (v := .agg (List.toArray _)) rfl ?_ | refine bv (v := .int _ _) rfl ?_ | refine bv (v := .slice _ _ _) rfl ?_ | refine bv (v := .bool _) rfl ?_ | refine bv (v := .pointer _) rfl ?_ | refine bv (v := .string _) rfl ?_ | refine bv (v := .map _) rfl ?_ | refine bv (v := .func _ _ _) rfl ?_) | ((with_reducible refine gL rfl ?_); refine sh_lit HS.out rfl rfl (by go_simp; exact ⟨⟨rfl, rfl⟩, rfl⟩) ?_)); clear HS; intro g w1 hg HS1; (simp only [RF.enc, zeF, segOf, aL, aC, aE] at HS1); have HS := Aside0.mk HS1; clear HS1) | ((with_reducible refine gLd rfl ?_); refine ld2 HS.out rfl rfl rfl (by repeat (first | exact AtI.here | apply AtI.there)) ?_; (first | refine LdK.one ((agT _ (by decide)).trans rfl) rfl ?_ | (refine LdK.agg ((agT _ (by decide)).trans rfl) (szT _ (by decide)) (lb rfl) ?_; try simp only [szL, aP, aN, aT, aZ, aS, aD, aF, aJ, aK, aM, aO]))) | ((with_reducible refine gSt rfl ?_); refine st2 HS.out rfl rfl rfl rfl (by repeat (first | exact AtI.here | apply AtI.there)) ?_; (first | refine sv (u := .agg (List.toArray _)) rfl ?_ | refine sv (u := .int _ _) rfl ?_ | refine sv (u := .slice _ _ _) rfl ?_ | refine sv (u := .bool _) rfl ?_ | refine sv (u := .pointer _) rfl ?_ | refine sv (u := .string _) rfl ?_ | refine sv (u := .map _) rfl ?_ | refine sv (u := .func _ _ _) rfl ?_); refine sw (szT _ (by decide)) rfl (lb rfl) ?_; clear HS; intro w1 HS1; (simp only [RF.enc, segOf, aL, aZ, aS, putSeg] at HS1); have HS := Aside0.mk HS1; clear HS1)); try simp only [aP, aN, aT, aZ, aS]))
  go_ret2
  exact ⟨gD, gM, left, false, true, crashM (namesOf m) m ks, L9, S, ⟨rcrashL F ks, -1, true⟩, true, A9, c9, S9, rfl, (HD.out.crash ks (left' := left) HOK9.out).up (by omega), (HX.out.crash ks true).up (by omega), fun h => ⟨rfl, h.sim.crashA HD.out.keys ks, rfl, rfl⟩, fun h => absurd h (by decide), HS.out.pick [0, 1, 2, 3, 4, 5] rfl (by decide)⟩
set_option maxHeartbeats 6400000 in
set_option maxRecDepth 100000 in
theorem do_6 {w0 w : World} {G : HP} (gD gM gX Bd : Nat) (left : Int) (armed off : Bool) (m : FM) (L : List (Option Addr × List Int)) (S : Nat → Prop) (x : RDk) (A : Option Addr) (c : Nat) (SR : Nat → Prop) (on : Int) (name b : ByteArray) (K : Option Addr) (nk ck : Nat) (ks : List Int) (hd : DOk Bd left armed m L) (hx : XOk Bd x) (hBd : Bd ≤ 70368744000000) (hb : b.size ≤ 10000) (hnz : name.size ≤ 9223372036854775807) (hon : on ≤ 9223372036854775807) (hK : ∀ w, Below w0.heap.size w0 w → G.ok w → Rd (ints .i64) 1 w K nk ks) (hck : nk ≤ ck) (HS0 : SH w0 w [blk gD [.map (some gM), .int .i64 left, .bool armed, .bool off] 52, mpF gM m, poolI L S, blk gX [.slice A x.F.length c, .int .i64 x.arm, .bool x.off] 60, row rfK 65 (.slice A x.F.length c) x.F SR, G]) :
    Calls Tryd.prog 12 #[.pointer (some ⟨gD, 0, none⟩), .pointer (some ⟨gX, 0, none⟩), .agg #[.int .i64 6, .int .i64 on, .string name, .string b, .slice K nk ck]] w (DoPost w0 gX Bd 6 gD gM left armed off m x G) := by
  obtain ⟨F, arm, xoff⟩ := x
  simp only at HS0
  have hxr := hx.rd (Nat.le_trans hBd (by omega))
  obtain ⟨n, hn⟩ : ∃ n, F.length = n := ⟨_, rfl⟩
  have hn64 : n ≤ 64 := by rw [← hn]; exact hx.len
  have hn1 : n ≤ 1000 := by omega
  rw [hn] at HS0
  have HM := Aside0.mk hn
  have HS := Aside0.mk HS0
  have HD := Aside0.mk hd
  have HX := Aside0.mk hx
  have HXR := Aside0.mk hxr
  have HKA := Aside0.mk hK
  clear HS0 hd hx hxr hn hK
  go_enter Tryd.func12, Tryd.ntmps12
  go_wp2_with (first | (go_at_call 18; (have HC := power_any gD gM left armed off m L S Bd HD.out.keys HD.out.ok (by omega) (SH.pack (is := [_, _, _]) [_, _, _, _] HS.out)); (with_reducible refine HC.mono ?_); clear HC; rintro e w2 ⟨rfl, L9, hok9, hL9, HS9⟩; clear HS; have HOK9 := Aside0.mk hok9; have HL9 := Aside0.mk hL9; clear hok9 hL9; have HS := Aside0.mk (SH.unpack (is := [_, _, _]) [_, _, _, _] HS9); clear HS9; simp only [aC, aE] at HS) | (go_at_call 29; (have HC := rpower_any gX A n c arm xoff F SR hn1 HXR.out.each (SH.pack (is := [_, _]) [_, _, _, _, _] (HS.out.pick [3, 4, 0, 1, 2, 5, 6] rfl (by decide)))); (with_reducible refine HC.mono ?_); clear HC; rintro e w2 ⟨rfl, A9, c9, S9, HS9⟩; clear HS; have HS := Aside0.mk (show SH w0 w2 [_, _, _, _, _, _, _] from (SH.unpack (is := [_, _]) [_, _, _, _, _] HS9).pick [2, 3, 4, 0, 1, 5, 6] rfl (by decide)); clear HS9) | ((fail_if_success (have _ := gt)); ((with_reducible refine gB rfl ?_); refine bx HS.out rfl rfl ?_; (first | refine bv (v := .agg (List.toArray _)) rfl ?_ | refine bv (v := .int _ _) rfl ?_ | refine bv (v := .slice _ _ _) rfl ?_ | refine bv (v := .bool _) rfl ?_ | refine bv (v := .pointer _) rfl ?_ | refine bv (v := .string _) rfl ?_ | refine bv (v := .map _) rfl ?_ | refine bv (v := .func _ _ _) rfl ?_); clear HS; intro gt w1 hgt HS1; (simp only [RF.enc, segOf, aL, aC, aE] at HS1); have HS := Aside0.mk HS1; clear HS1; try simp only [aP, aN, aT, aZ, aS])) | ((first | ((first | ((with_reducible refine gA rfl ?_); refine sh_alloc HS.out rfl rfl (zeT _ (by decide)) ?_) | ((with_reducible refine gB rfl ?_); refine bx HS.out rfl rfl ?_; first | refine bv (v := .agg (List.toArray _)) rfl ?_ | refine bv (v := .int _ _) rfl ?_ | refine bv (v := .slice _ _ _) rfl ?_ | refine bv (v := .bool _) rfl ?_ | refine bv (v := .pointer _) rfl ?_ | refine bv (v := .string _) rfl ?_ | refine bv (v := .map _) rfl ?_ | refine bv (v := .func _ _ _) rfl ?_) | ((with_reducible refine gL rfl ?_); refine sh_lit HS.out rfl rfl (by go_simp; exact ⟨⟨rfl, rfl⟩, rfl⟩) ?_)); clear HS; intro g w1 hg HS1; (simp only [RF.enc, zeF, segOf, aL, aC, aE] at HS1); have HS := Aside0.mk HS1; clear HS1) | ((with_reducible refine gLd rfl ?_); refine ld2 HS.out rfl rfl rfl (by repeat (first | exact AtI.here | apply AtI.there)) ?_; (first | refine LdK.one ((agT _ (by decide)).trans rfl) rfl ?_ | (refine LdK.agg ((agT _ (by decide)).trans rfl) (szT _ (by decide)) (lb rfl) ?_; try simp only [szL, aP, aN, aT, aZ, aS, aD, aF, aJ, aK, aM, aO]))) | ((with_reducible refine gSt rfl ?_); refine st2 HS.out rfl rfl rfl rfl (by repeat (first | exact AtI.here | apply AtI.there)) ?_; (first | refine sv (u := .agg (List.toArray _)) rfl ?_ | refine sv (u := .int _ _) rfl ?_ | refine sv (u := .slice _ _ _) rfl ?_ | refine sv (u := .bool _) rfl ?_ | refine sv (u := .pointer _) rfl ?_ | refine sv (u := .string _) rfl ?_ | refine sv (u := .map _) rfl ?_ | refine sv (u := .func _ _ _) rfl ?_); refine sw (szT _ (by decide)) rfl (lb rfl) ?_; clear HS; intro w1 HS1; (simp only [RF.enc, segOf, aL, aZ, aS, putSeg] at HS1); have HS := Aside0.mk HS1; clear HS1)); try simp only [aP, aN, aT, aZ, aS]))
  go_ret2
  refine ⟨gD, gM, left, (if off then false else armed), false, (if off then crashM (namesOf m) m [] else m), L9, S, (if xoff then ⟨rcrashL F [], -1, false⟩ else ⟨F, arm, false⟩), true, A9, c9, S9, rfl, ?_, ?_, fun h => ⟨rfl, ?_⟩, fun h => absurd h (by decide), HS.out.pick [0, 1, 2, 3, 4, 5] rfl (by decide)⟩
  · cases off with
    | true => exact (HD.out.crash [] (left' := left) HOK9.out).up (by omega)
    | false => exact (⟨HD.out.nd, HD.out.small, HD.out.len, HOK9.out.up (by omega), HD.out.lf⟩ : DOk (Bd + 10000) left armed m L9)
  · cases xoff with
    | true => exact ((HX.out.crash [] false).up (by omega))
    | false => exact HX.out.up (by omega)
  · have h1 : xoff = off := h.off
    rw [h1]
    cases off with
    | true => exact ⟨h.sim.crashA HD.out.keys [], rfl, rfl⟩
    | false => exact ⟨h.sim, rfl, h.arm⟩
end Go.Proofs.YtgcgnhcjjlnloaaDoor.Dk
