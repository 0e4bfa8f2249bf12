/- Lemmas towards the law: what of the text DkD it needs. -/
import Derived.Test.YtgcgnhcjjlnloaaDoorDkCq
namespace Go.Proofs.YtgcgnhcjjlnloaaDoor.Dk
open Go.RowKit Go.Proofs.YtgcgnhcjjlnloaaDoorW.PrintWords Go.Proofs.YtgcgnhcjjlnloaaDoor.Sl
set_option linter.unusedVariables false
set_option linter.unusedSimpArgs false
def L0 : List (Option Addr × List Int) := [(none, [])]
theorem pool_new {w0 w : World} {is : List HP} (HS : SH w0 w is) : SH w0 w (is ++ [poolI L0 (fun _ => False)]) :=
  HS.push (Below.refl _ _) (fun p hp => by
    have : p = (none, []) := by simpa [L0] using hp
    subst this
    exact ⟨Rd.nil _ _ _ _, fun ad h => by cases h⟩) (fun b hb => hb.elim)
section
variable {w0 w : World} {F : HP} (gD gM : Nat) (left : Int) (armed : Bool) (m : FM) (L : List (Option Addr × List Int)) (S : Nat → Prop) (name : ByteArray) (B : Option Addr) (cB : Nat) (ys : List Int) (hB : ∀ w, F.ok w → Rd (ints .u8) 1 w B ys.length ys) (A : Option Addr) (c : Nat) (xs : List Int) (safe : Nat) (bi : Bool) (hf : (mget m name).getD fi0 = ⟨A, c, xs, safe⟩) (hi : (mget m name).isSome = bi) (hL : (A, xs) ∈ L) (hlim : xs.length + ys.length ≤ 140737488351232) (hcB : ys.length ≤ cB)
include hB hf hi hL hlim hcB
theorem append_ok (hleft : armed = true → 0 ≤ left ∧ left ≤ 9223372036854775807) (hn : isName name = true) (hfu : fullM m bi ys.length = false) (har : armed = true → ys.length ≤ left) (hne : ys ≠ []) (HS0 : SH w0 w [blk gD [.map (some gM), .int .i64 left, .bool armed, .bool false] 52, mpF gM m, poolI L S, F]) :
    Calls Tryd.prog 9 #[.pointer (some ⟨gD, 0, none⟩), .string name, .slice B ys.length cB] w (fun e w' => e = .returned (.int .i64 0) ∧ ∃ A' c' S', (xs ++ ys).length ≤ c' ∧ SH w0 w' [blk gD [.map (some gM), .int .i64 (if armed then left - ys.length else left), .bool armed, .bool false] 52, mpF gM (mput m name ⟨A', c', xs ++ ys, safe⟩), poolI ((A', xs ++ ys) :: L) S', F]) := by
  refine (append_any gD gM left armed false m L S name B cB ys hB A c xs safe bi hf hi hL hlim hleft hcB HS0).mono ?_
  rintro e w' (⟨h, _⟩ | ⟨_, h, _⟩ | ⟨_, _, h, _⟩ | ⟨_, _, _, h1, h2, _⟩ | ⟨_, _, _, _, rfl, m', L', S', (⟨h, _⟩ | ⟨_, A', c', hc, rfl, rfl⟩), HS⟩)
  · cases h
  · rw [hn] at h; cases h
  · rw [hfu] at h; cases h
  · exact absurd (har h1) (by omega)
  · exact absurd h hne
  · exact ⟨rfl, A', c', S', hc, HS⟩
theorem append_cut (hleft : 0 ≤ left ∧ left ≤ 9223372036854775807) (hn : isName name = true) (hfu : fullM m bi ys.length = false) (har : left < ys.length) (hne : ys.take left.toNat ≠ []) (HS0 : SH w0 w [blk gD [.map (some gM), .int .i64 left, .bool true, .bool false] 52, mpF gM m, poolI L S, F]) :
    Calls Tryd.prog 9 #[.pointer (some ⟨gD, 0, none⟩), .string name, .slice B ys.length cB] w (fun e w' => e = .returned (.int .i64 7) ∧ ∃ A' c' S', (xs ++ ys.take left.toNat).length ≤ c' ∧ SH w0 w' [blk gD [.map (some gM), .int .i64 left, .bool false, .bool true] 52, mpF gM (mput m name ⟨A', c', xs ++ ys.take left.toNat, safe⟩), poolI ((A', xs ++ ys.take left.toNat) :: L) S', F]) := by
  refine (append_any gD gM left true false m L S name B cB ys hB A c xs safe bi hf hi hL hlim (fun _ => hleft) hcB HS0).mono ?_
  rintro e w' (⟨h, _⟩ | ⟨_, h, _⟩ | ⟨_, _, h, _⟩ | ⟨_, _, _, _, _, rfl, m', L', S', (⟨h, _⟩ | ⟨_, A', c', hc, rfl, rfl⟩), HS⟩ | ⟨_, _, _, h, _⟩)
  · cases h
  · rw [hn] at h; cases h
  · rw [hfu] at h; cases h
  · exact absurd h hne
  · exact ⟨rfl, A', c', S', hc, HS⟩
  · exact absurd (h rfl) (by omega)
end
abbrev nA : ByteArray := ⟨#[97]⟩
abbrev nB : ByteArray := ⟨#[98]⟩
theorem isA : isName nA = true := by decide +kernel
theorem isB : isName nB = true := by decide +kernel
theorem neAB : nA ≠ nB := by decide +kernel
theorem getA (f : Fi) (l : FM) : mget ((nA, f) :: l) nA = some f := by simp [mget]
theorem getB (f g : Fi) : mget [(nA, f), (nB, g)] nB = some g := by
  have h : (@BEq.beq ByteArray instBEqOfDecidableEq nA nB) = false := by simp
  simp [mget, List.find?_cons, h]
theorem getB0 (f : Fi) : mget [(nA, f)] nB = none := by
  have h : (@BEq.beq ByteArray instBEqOfDecidableEq nA nB) = false := by simp
  simp [mget, List.find?_cons, h]
theorem putA (f f' : Fi) (l : FM) : mput ((nA, f) :: l) nA f' = (nA, f') :: l := by simp [mput]
theorem putB (f g g' : Fi) : mput [(nA, f), (nB, g)] nB g' = [(nA, f), (nB, g')] := by simp [mput, neAB]
theorem putB0 (f g : Fi) : mput [(nA, f)] nB g = [(nA, f), (nB, g)] := by simp [mput, neAB]
theorem namesA (f : Fi) : namesOf [(nA, f)] = [nA] := by
  unfold namesOf keyL
  simp [nA]
theorem namesAB (f g : Fi) : namesOf [(nA, f), (nB, g)] = [nA, nB] := by
  unfold namesOf keyL
  rw [List.mergeSort_of_pairwise]
  · rfl
  · simp [nA, nB, leB]
    decide
theorem szA : nA.size ≤ maxLen := by
  show 1 ≤ maxLen
  unfold maxLen
  omega
theorem szB : nB.size ≤ maxLen := szA
theorem keysA (f : Fi) : KeysOk [(nA, f)] := ⟨by simp, fun p hp => by
    obtain rfl := List.mem_singleton.1 hp
    exact szA, by simp⟩
theorem keysAB (f g : Fi) : KeysOk [(nA, f), (nB, g)] := ⟨by simp [neAB], fun p hp => by
    rcases List.mem_cons.1 hp with rfl | hp
    · exact szA
    · obtain rfl := List.mem_singleton.1 hp
      exact szB, by simp⟩
theorem crash_1 (A : Option Addr) (c : Nat) : crashM (namesOf [(nA, ⟨A, c, [120, 121, 122], 2⟩)]) [(nA, ⟨A, c, [120, 121, 122], 2⟩)] [] = [(nA, ⟨A, 2, [120, 121], 2⟩)] := by
  rw [namesA, crashM, getA]
  show crashM [] (crash1 _ nA (crashF ⟨A, c, [120, 121, 122], 2⟩ [])) _ = _
  rw [show crashF ⟨A, c, [120, 121, 122], 2⟩ [] = ⟨A, 2, [120, 121], 2⟩ from rfl]
  unfold crashM crash1
  rw [putA]
  rfl
theorem crash_2 (A : Option Addr) (ks : List Int) : crashM (namesOf [(nA, ⟨A, 2, [120, 121], 2⟩)]) [(nA, ⟨A, 2, [120, 121], 2⟩)] ks = [(nA, ⟨A, 2, [120, 121], 2⟩)] := by
  rw [namesA, crashM, getA]
  show crashM [] (crash1 _ nA (crashF ⟨A, 2, [120, 121], 2⟩ ks)) _ = _
  rw [show crashF ⟨A, 2, [120, 121], 2⟩ ks = ⟨A, 2, [120, 121], 2⟩ from rfl]
  unfold crashM crash1
  rw [putA]
  rfl
theorem crash_3 (A B : Option Addr) (c : Nat) : crashM (namesOf [(nA, ⟨A, 2, [120, 121], 2⟩), (nB, ⟨B, c, [112], 0⟩)]) [(nA, ⟨A, 2, [120, 121], 2⟩), (nB, ⟨B, c, [112], 0⟩)] [5] = [(nA, ⟨A, 2, [120, 121], 2⟩), (nB, ⟨B, 1, [112], 1⟩)] := by
  rw [namesAB, crashM, getA]
  show crashM [nB] (crash1 _ nA (crashF ⟨A, 2, [120, 121], 2⟩ [5])) (crashK ⟨A, 2, [120, 121], 2⟩ [5]) = _
  rw [show crashF ⟨A, 2, [120, 121], 2⟩ [5] = ⟨A, 2, [120, 121], 2⟩ from rfl, show crashK ⟨A, 2, [120, 121], 2⟩ [5] = [5] from rfl]
  rw [show crash1 [(nA, ⟨A, 2, [120, 121], 2⟩), (nB, ⟨B, c, [112], 0⟩)] nA ⟨A, 2, [120, 121], 2⟩ = [(nA, ⟨A, 2, [120, 121], 2⟩), (nB, ⟨B, c, [112], 0⟩)] from by unfold crash1; rw [putA]; rfl]
  rw [crashM, getB]
  show crashM [] (crash1 _ nB (crashF ⟨B, c, [112], 0⟩ [5])) _ = _
  rw [show crashF ⟨B, c, [112], 0⟩ [5] = ⟨B, 1, [112], 1⟩ from rfl]
  unfold crashM crash1
  rw [putB]
  rfl
theorem crash_4 (A B : Option Addr) : crashM (namesOf [(nA, ⟨A, 2, [120, 121], 2⟩), (nB, ⟨B, 1, [112], 1⟩)]) [(nA, ⟨A, 2, [120, 121], 2⟩), (nB, ⟨B, 1, [112], 1⟩)] [] = [(nA, ⟨A, 2, [120, 121], 2⟩), (nB, ⟨B, 1, [112], 1⟩)] := by
  rw [namesAB, crashM, getA]
  show crashM [nB] (crash1 _ nA (crashF ⟨A, 2, [120, 121], 2⟩ [])) (crashK ⟨A, 2, [120, 121], 2⟩ []) = _
  rw [show crashF ⟨A, 2, [120, 121], 2⟩ [] = ⟨A, 2, [120, 121], 2⟩ from rfl, show crashK ⟨A, 2, [120, 121], 2⟩ [] = [] from rfl]
  rw [show crash1 [(nA, ⟨A, 2, [120, 121], 2⟩), (nB, ⟨B, 1, [112], 1⟩)] nA ⟨A, 2, [120, 121], 2⟩ = [(nA, ⟨A, 2, [120, 121], 2⟩), (nB, ⟨B, 1, [112], 1⟩)] from by unfold crash1; rw [putA]; rfl]
  rw [crashM, getB]
  show crashM [] (crash1 _ nB (crashF ⟨B, 1, [112], 1⟩ [])) _ = _
  rw [show crashF ⟨B, 1, [112], 1⟩ [] = ⟨B, 1, [112], 1⟩ from rfl]
  unfold crashM crash1
  rw [putB]
  rfl
end Go.Proofs.YtgcgnhcjjlnloaaDoor.Dk
