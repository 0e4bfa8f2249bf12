/- Lemmas towards the law: what of the text DkE it needs. -/
import Derived.Test.YtgcgnhcjjlnloaaDoorDkDq
namespace Go.Proofs.YtgcgnhcjjlnloaaDoor.Dk
open Go.RowKit Go.Proofs.YtgcgnhcjjlnloaaDoorW.PrintWords Go.Proofs.YtgcgnhcjjlnloaaDoor.Sl
set_option linter.unusedVariables false
set_option linter.unusedSimpArgs false
theorem _root_.Go.Proofs.YtgcgnhcjjlnloaaDoor.Sl.SH.fill {w0 w : World} {is : List HP} (h : SH w0 w is) : SH w0 w (is ++ [noI]) := h.push (Below.refl _ _) trivial (fun b hb => hb.elim)
theorem MOk.sync {Bd : Nat} {m : FM} {L : List (Option Addr × List Int)} (h : MOk Bd m L) {name : ByteArray} {f : Fi} (hf : mget m name = some f) : MOk Bd (mput m name { f with safe := f.xs.length }) L := by
  have h1 := h.each _ (mget_mem hf)
  exact h.put ⟨h1.mem, Nat.le_refl _, h1.cap, h1.small⟩
theorem MOk.up {Bd Bd' : Nat} {m : FM} {L : List (Option Addr × List Int)} (h : MOk Bd m L) (hb : Bd ≤ Bd') : MOk Bd' m L := ⟨h.zero, fun p hp => ⟨(h.each p hp).mem, (h.each p hp).safe, (h.each p hp).cap, Nat.le_trans (h.each p hp).small hb⟩⟩
theorem MOk.nil (Bd : Nat) : MOk Bd [] L0 := ⟨by simp [L0], fun p hp => by cases hp⟩
theorem MOk.app {Bd : Nat} {m : FM} {L : List (Option Addr × List Int)} (h : MOk Bd m L) {name : ByteArray} {A : Option Addr} {c : Nat} {xs : List Int} {safe : Nat} (hf : (mget m name).getD fi0 = ⟨A, c, xs, safe⟩) (zs : List Int) {A' : Option Addr} {c' : Nat} (hc : (xs ++ zs).length ≤ c') : MOk (Bd + zs.length) (mput m name ⟨A', c', xs ++ zs, safe⟩) ((A', xs ++ zs) :: L) := by
  have hg := h.get name
  rw [hf] at hg
  have h1 := hg.safe
  have h2 := hg.small
  simp only at h1 h2
  refine MOk.put ((h.up (Nat.le_add_right _ _)).more (fun p hp => List.mem_cons_of_mem _ hp)) ⟨List.mem_cons_self, ?_, hc, ?_⟩
  · show safe ≤ (xs ++ zs).length
    rw [List.length_append]; omega
  · show (xs ++ zs).length ≤ _
    rw [List.length_append]; omega
section
variable {w0 w : World} {F : HP} (gD gM : Nat) (left : Int) (m : FM) (L : List (Option Addr × List Int)) (S : Nat → Prop) (Bd : Nat) (hok : MOk Bd m L) (hBd : Bd ≤ 70368744177664) (name : ByteArray) (B : Option Addr) (cB : Nat) (ys : List Int) (hB : ∀ w, F.ok w → Rd (ints .u8) 1 w B ys.length ys) (A : Option Addr) (c : Nat) (xs : List Int) (safe : Nat) (hf : (mget m name).getD fi0 = ⟨A, c, xs, safe⟩) (hlim : ys.length ≤ 70368744173568) (hcB : ys.length ≤ cB)
include hok hBd hB hf hlim hcB
/-- an Append to a disk that is on and not armed -/
theorem app_free (hn : isName name = true) (hfu : fullM m (mget m name).isSome ys.length = false) (hne : ys ≠ []) (HS0 : SH w0 w [blk gD [.map (some gM), .int .i64 left, .bool false, .bool false] 52, mpF gM m, poolI L S, F]) :
    Calls Tryd.prog 9 #[.pointer (some ⟨gD, 0, none⟩), .string name, .slice B ys.length cB] w (fun e w' => e = .returned (.int .i64 0) ∧ ∃ A' c' L' S', MOk (Bd + ys.length) (mput m name ⟨A', c', xs ++ ys, safe⟩) L' ∧ SH w0 w' [blk gD [.map (some gM), .int .i64 left, .bool false, .bool false] 52, mpF gM (mput m name ⟨A', c', xs ++ ys, safe⟩), poolI L' S', F]) := by
  have hg := hok.get name
  rw [hf] at hg
  have h2 := hg.small
  simp only at h2
  refine (append_ok gD gM left false m L S name B cB ys hB A c xs safe _ hf rfl hg.mem (by omega) hcB (fun h => by cases h) hn hfu (fun h => by cases h) hne HS0).mono ?_
  rintro e w' ⟨rfl, A', c', S', hc, HS⟩
  exact ⟨rfl, A', c', _, S', hok.app hf ys hc, HS⟩
/-- an Append that is cut -/
theorem app_cut (hleft : 0 ≤ left ∧ left ≤ 9223372036854775807) (hn : isName name = true) (hfu : fullM m (mget m name).isSome ys.length = false) (har : left < ys.length) (hne : ys.take left.toNat ≠ []) (HS0 : SH w0 w [blk gD [.map (some gM), .int .i64 left, .bool true, .bool false] 52, mpF gM m, poolI L S, F]) :
    Calls Tryd.prog 9 #[.pointer (some ⟨gD, 0, none⟩), .string name, .slice B ys.length cB] w (fun e w' => e = .returned (.int .i64 7) ∧ ∃ A' c' L' S', MOk (Bd + ys.length) (mput m name ⟨A', c', xs ++ ys.take left.toNat, safe⟩) L' ∧ SH w0 w' [blk gD [.map (some gM), .int .i64 left, .bool false, .bool true] 52, mpF gM (mput m name ⟨A', c', xs ++ ys.take left.toNat, safe⟩), poolI L' S', F]) := by
  have hg := hok.get name
  rw [hf] at hg
  have h2 := hg.small
  simp only at h2
  refine (append_cut gD gM left m L S name B cB ys hB A c xs safe _ hf rfl hg.mem (by omega) hcB hleft hn hfu har hne HS0).mono ?_
  rintro e w' ⟨rfl, A', c', S', hc, HS⟩
  exact ⟨rfl, A', c', _, S', (hok.app hf _ hc).up (by rw [List.length_take]; omega), HS⟩
end
end Go.Proofs.YtgcgnhcjjlnloaaDoor.Dk
