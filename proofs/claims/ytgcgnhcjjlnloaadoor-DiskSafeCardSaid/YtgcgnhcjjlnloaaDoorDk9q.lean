/- Lemmas towards the law: what of the text Dk9 it needs. -/
import Derived.Test.YtgcgnhcjjlnloaaDoorDk8q
namespace Go.Proofs.YtgcgnhcjjlnloaaDoor.Dk
open Go.RowKit Go.Proofs.YtgcgnhcjjlnloaaDoorW.PrintWords Go.Proofs.YtgcgnhcjjlnloaaDoor.Sl
set_option linter.unusedVariables false
set_option linter.unusedSimpArgs false
/-- how many loose bytes are kept -/
def kept (ks : List Int) (loose : Int) : Int := match ks with
  | [] => 0
  | k :: _ => max (min k loose) 0
def crashF (f : Fi) (ks : List Int) : Fi := if f.safe < f.xs.length then ⟨f.A, f.safe + (kept ks ((f.xs.length : Int) - f.safe)).toNat, f.xs.take (f.safe + (kept ks ((f.xs.length : Int) - f.safe)).toNat), f.safe + (kept ks ((f.xs.length : Int) - f.safe)).toNat⟩ else f
def crashK (f : Fi) (ks : List Int) : List Int := if f.safe < f.xs.length then ks.tail else ks
def crash1 (m : FM) (name : ByteArray) (f : Fi) : FM := if f.xs.length = 0 then mdel (mput m name f) name else mput m name f
def crashM : List ByteArray → FM → List Int → FM
  | [], m, _ => m
  | name :: l, m, ks => crashM l (crash1 m name (crashF ((mget m name).getD fi0) ks)) (crashK ((mget m name).getD fi0) ks)
/-- a file whose bytes lie about -/
structure FileOk (Bd : Nat) (L : List (Option Addr × List Int)) (f : Fi) : Prop where
  mem : (f.A, f.xs) ∈ L
  safe : f.safe ≤ f.xs.length
  cap : f.xs.length ≤ f.c
  small : f.xs.length ≤ Bd
structure MOk (Bd : Nat) (m : FM) (L : List (Option Addr × List Int)) : Prop where
  zero : ((none : Option Addr), ([] : List Int)) ∈ L
  each : ∀ p ∈ m, FileOk Bd L p.2
theorem FileOk.more {Bd : Nat} {L L' : List (Option Addr × List Int)} {f : Fi} (h : FileOk Bd L f) (hs : ∀ p ∈ L, p ∈ L') : FileOk Bd L' f := ⟨hs _ h.mem, h.safe, h.cap, h.small⟩
theorem MOk.more {Bd : Nat} {m : FM} {L L' : List (Option Addr × List Int)} (h : MOk Bd m L) (hs : ∀ p ∈ L, p ∈ L') : MOk Bd m L' := ⟨hs _ h.zero, fun p hp => (h.each p hp).more hs⟩
theorem mget_mem {m : FM} {name : ByteArray} {f : Fi} (h : mget m name = some f) : (name, f) ∈ m := by
  unfold mget at h
  obtain ⟨p, hp, rfl⟩ := Option.map_eq_some_iff.1 h
  have h1 := List.mem_of_find?_eq_some hp
  have h2 := List.find?_some hp
  have h3 : p.1 = name := by simpa using h2
  rw [← h3]
  exact h1
theorem MOk.get {Bd : Nat} {m : FM} {L : List (Option Addr × List Int)} (h : MOk Bd m L) (name : ByteArray) : FileOk Bd L ((mget m name).getD fi0) := by
  cases hg : mget m name with
  | none => exact ⟨h.zero, Nat.le_refl _, Nat.le_refl _, Nat.zero_le _⟩
  | some f => exact h.each _ (mget_mem hg)
theorem mput_mem {m : FM} {name : ByteArray} {f : Fi} {p : ByteArray × Fi} (h : p ∈ mput m name f) : p ∈ m ∨ p = (name, f) := by
  induction m with
  | nil => simp [mput] at h; exact .inr h
  | cons x m ih =>
    unfold mput at h
    split at h
    · rcases List.mem_cons.1 h with rfl | h
      · exact .inr rfl
      · exact .inl (List.mem_cons_of_mem _ h)
    · rcases List.mem_cons.1 h with rfl | h
      · exact .inl List.mem_cons_self
      · rcases ih h with h | h
        · exact .inl (List.mem_cons_of_mem _ h)
        · exact .inr h
theorem MOk.put {Bd : Nat} {m : FM} {L : List (Option Addr × List Int)} (h : MOk Bd m L) {name : ByteArray} {f : Fi} (hf : FileOk Bd L f) : MOk Bd (mput m name f) L :=
  ⟨h.zero, fun p hp => by
    rcases mput_mem hp with h1 | rfl
    · exact h.each p h1
    · exact hf⟩
theorem MOk.sub {Bd : Nat} {m m' : FM} {L : List (Option Addr × List Int)} (h : MOk Bd m L) (hs : ∀ p ∈ m', p ∈ m) : MOk Bd m' L := ⟨h.zero, fun p hp => h.each p (hs p hp)⟩
theorem mdel_mem {m : FM} {name : ByteArray} : ∀ p ∈ mdel m name, p ∈ m := by
  intro p hp
  exact (mdel_sub m name).mem hp
theorem MOk.crash1 {Bd : Nat} {m : FM} {L : List (Option Addr × List Int)} (h : MOk Bd m L) {name : ByteArray} {f : Fi} (hf : FileOk Bd L f) : MOk Bd (crash1 m name f) L := by
  unfold Dk.crash1
  split
  · exact (h.put hf).sub mdel_mem
  · exact h.put hf
theorem kept_pos (ks : List Int) (z : Int) : 0 ≤ kept ks z := by
  unfold kept
  cases ks with
  | nil => simp
  | cons k ks => simp only; omega
theorem kept_le {ks : List Int} {a b : Nat} (h : a < b) : a + (kept ks ((b : Int) - a)).toNat ≤ b := by
  unfold kept
  cases ks with
  | nil => simp; omega
  | cons k ks =>
    simp only
    omega
theorem FileOk.crash {Bd : Nat} {L : List (Option Addr × List Int)} {f : Fi} (h : FileOk Bd L f) (ks : List Int) : FileOk Bd ((f.A, (crashF f ks).xs) :: L) (crashF f ks) := by
  unfold crashF
  split
  · rename_i hlt
    have := kept_le (ks := ks) hlt
    have h2 := h.small
    have e : (f.xs.take (f.safe + (kept ks ((f.xs.length : Int) - f.safe)).toNat)).length = f.safe + (kept ks ((f.xs.length : Int) - f.safe)).toNat := by rw [List.length_take]; omega
    exact ⟨List.mem_cons_self, by rw [e]; exact Nat.le_refl _, by rw [e]; exact Nat.le_refl _, by rw [e]; omega⟩
  · exact h.more (fun p hp => List.mem_cons_of_mem _ hp)
end Go.Proofs.YtgcgnhcjjlnloaaDoor.Dk
