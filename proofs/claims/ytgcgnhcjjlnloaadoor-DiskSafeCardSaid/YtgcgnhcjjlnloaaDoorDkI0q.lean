/- Lemmas towards the law: what of the text DkI0 it needs. -/
import Derived.Test.YtgcgnhcjjlnloaaDoorDkP3q
import Derived.Test.YtgcgnhcjjlnloaaDoorDkGq
namespace Go.Proofs.YtgcgnhcjjlnloaaDoor.Dk
open Go.RowKit Go.Proofs.YtgcgnhcjjlnloaaDoorW.PrintWords Go.Proofs.YtgcgnhcjjlnloaaDoor.Sl
set_option linter.unusedVariables false
set_option linter.unusedSimpArgs false
theorem crash1_get {m : FM} (hk : (keysOf m).Nodup) (name : ByteArray) (f : Fi) (n : ByteArray) : mget (crash1 m name f) n = if name = n then (if f.xs.length = 0 then none else some f) else mget m n := by
  unfold crash1
  split
  · rename_i h0
    rw [mget_del _ _ _ (nodup_putF hk)]
    split
    · rfl
    · rename_i hne
      rw [mget_put, if_neg hne]
  · rename_i h0
    rw [mget_put]
theorem crash1_nodup {m : FM} (hk : (keysOf m).Nodup) (name : ByteArray) (f : Fi) : (keysOf (crash1 m name f)).Nodup := by
  unfold crash1
  split
  · exact nodup_del _ (nodup_putF hk)
  · exact nodup_putF hk
theorem crashM_get : ∀ (l : List ByteArray) (m : FM) (ks : List Int), l.Nodup → (keysOf m).Nodup → ∀ n, (n ∉ l → mget (crashM l m ks) n = mget m n) ∧ (n ∈ l → ∃ ks', mget (crashM l m ks) n = if (crashF ((mget m n).getD fi0) ks').xs.length = 0 then none else some (crashF ((mget m n).getD fi0) ks'))
  | [], m, ks, _, _, n => ⟨fun _ => rfl, fun h => by cases h⟩
  | name :: l, m, ks, hnd, hk, n => by
    rw [crashM]
    rw [List.nodup_cons] at hnd
    have ih := crashM_get l (crash1 m name (crashF ((mget m name).getD fi0) ks)) (crashK ((mget m name).getD fi0) ks) hnd.2 (crash1_nodup hk _ _) n
    refine ⟨fun hn => ?_, fun hn => ?_⟩
    · rw [List.mem_cons, not_or] at hn
      rw [ih.1 hn.2, crash1_get hk, if_neg (fun e => hn.1 e.symm)]
    · rcases List.mem_cons.1 hn with rfl | hn
      · exact ⟨ks, by rw [ih.1 hnd.1, crash1_get hk, if_pos rfl]⟩
      · obtain ⟨ks', h⟩ := ih.2 hn
        have hne : ¬ name = n := fun e => hnd.1 (e ▸ hn)
        rw [crash1_get hk, if_neg hne] at h
        exact ⟨ks', h⟩
/-- a file behind a Crash, against what it was -/
structure Beg (f f' : Fi) : Prop where
  lo : f.safe ≤ f'.xs.length
  hi : f'.xs.length ≤ f.xs.length
  xs : f'.xs = f.xs.take f'.xs.length
  safe : f'.safe = f'.xs.length
theorem crashF_beg {f : Fi} (h : f.safe ≤ f.xs.length) (ks : List Int) : Beg f (crashF f ks) := by
  unfold crashF
  split
  · rename_i hlt
    have hle := kept_le (ks := ks) hlt
    have e : (f.xs.take (f.safe + (kept ks ((f.xs.length : Int) - f.safe)).toNat)).length = f.safe + (kept ks ((f.xs.length : Int) - f.safe)).toNat := by rw [List.length_take]; omega
    exact ⟨by show _ ≤ (List.take _ _).length; rw [e]; omega, by show (List.take _ _).length ≤ _; rw [e]; exact hle, by show List.take _ _ = List.take (List.take _ _).length _; rw [e], by show _ = (List.take _ _).length; rw [e]⟩
  · exact ⟨h, Nat.le_refl _, by rw [List.take_length], by omega⟩
structure Aft (m m2 : FM) : Prop where
  beg : ∀ nm f', mget m2 nm = some f' → ∃ f, mget m nm = some f ∧ Beg f f'
  stay : ∀ nm f, mget m nm = some f → 0 < f.safe → ∃ f', mget m2 nm = some f'
theorem aft_one {Bd : Nat} {left : Int} {armed : Bool} {m : FM} {L : List (Option Addr × List Int)} (h : DOk Bd left armed m L) (ks : List Int) : Aft m (crashM (namesOf m) m ks) ∧ (∀ nm f', mget (crashM (namesOf m) m ks) nm = some f' → f'.xs.length ≠ 0) := by
  have hg := crashM_get (namesOf m) m ks (namesOf_nodup h.nd) h.nd
  have hin : ∀ nm f, mget m nm = some f → nm ∈ namesOf m := fun nm f hf => namesOf_mem.2 (List.mem_map.2 ⟨_, mget_mem hf, rfl⟩)
  refine ⟨⟨fun nm f' hf' => ?_, fun nm f hf hs => ?_⟩, fun nm f' hf' => ?_⟩
  · by_cases hm : nm ∈ namesOf m
    · obtain ⟨f, hf⟩ := Option.isSome_iff_exists.1 (key_some (namesOf_mem.1 hm))
      obtain ⟨ks', e⟩ := (hg nm).2 hm
      rw [hf'] at e
      rw [hf, Option.getD_some] at e
      refine ⟨f, hf, ?_⟩
      split at e
      · cases e
      · injection e with e
        rw [e]
        exact crashF_beg (h.ok.each _ (mget_mem hf)).safe ks'
    · rw [(hg nm).1 hm] at hf'
      exact absurd (hin nm f' hf') hm
  · obtain ⟨ks', e⟩ := (hg nm).2 (hin nm f hf)
    rw [hf, Option.getD_some] at e
    have hb := crashF_beg (h.ok.each _ (mget_mem hf)).safe ks'
    simp only at hb
    have := hb.lo
    exact ⟨_, by rw [e, if_neg (by omega)]⟩
  · by_cases hm : nm ∈ namesOf m
    · obtain ⟨ks', e⟩ := (hg nm).2 hm
      rw [hf'] at e
      split at e
      · cases e
      · rename_i hne
        injection e with e
        rw [e]
        exact hne
    · rw [(hg nm).1 hm] at hf'
      exact absurd (hin nm f' hf') hm
theorem aft_two {Bd : Nat} {left : Int} {armed : Bool} {m : FM} {L : List (Option Addr × List Int)} (h : DOk Bd left armed m L) (ks : List Int) {L1 : List (Option Addr × List Int)} (h1 : DOk Bd left false (crashM (namesOf m) m ks) L1) : Aft m (crashM (namesOf (crashM (namesOf m) m ks)) (crashM (namesOf m) m ks) []) := by
  obtain ⟨ha, hne⟩ := aft_one h ks
  obtain ⟨m1, hm1⟩ : ∃ m1, crashM (namesOf m) m ks = m1 := ⟨_, rfl⟩
  rw [hm1] at ha hne h1 ⊢
  have hg := crashM_get (namesOf m1) m1 [] (namesOf_nodup h1.nd) h1.nd
  have hsame : ∀ nm, mget (crashM (namesOf m1) m1 []) nm = mget m1 nm := fun nm => by
    by_cases hm : nm ∈ namesOf m1
    · obtain ⟨f, hf⟩ := Option.isSome_iff_exists.1 (key_some (namesOf_mem.1 hm))
      obtain ⟨ks', e⟩ := (hg nm).2 hm
      rw [hf, Option.getD_some] at e
      obtain ⟨f0, hf0, hb⟩ := ha.beg nm f hf
      have hsf := hb.safe
      have hcf : crashF f ks' = f := by
        unfold crashF
        rw [if_neg (by omega)]
      rw [hcf, if_neg (hne nm f hf)] at e
      rw [e, hf]
    · exact (hg nm).1 hm
  exact ⟨fun nm f' hf' => ha.beg nm f' (by rw [← hsame]; exact hf'), fun nm f hf hs => by
    obtain ⟨f', hf'⟩ := ha.stay nm f hf hs
    exact ⟨f', by rw [hsame]; exact hf'⟩⟩
theorem mget_of_mem {κ ν : Type} [DecidableEq κ] : ∀ {m : List (κ × ν)} {k : κ} {v : ν}, (keysOf m).Nodup → (k, v) ∈ m → mget m k = some v
  | [], _, _, _, h => by cases h
  | p :: m, k, v, hnd, h => by
    have h' : p.1 ∉ keysOf m ∧ (keysOf m).Nodup := List.nodup_cons.1 hnd
    rcases List.mem_cons.1 h with rfl | h
    · simp [mget]
    · have hne : ¬ p.1 = k := fun e => h'.1 (List.mem_map.2 ⟨_, h, e.symm⟩)
      have ih := mget_of_mem h'.2 h
      unfold mget at ih ⊢
      rw [List.find?_cons, beq_eq_false_iff_ne.2 hne]
      exact ih
theorem Beg.str {f f' : Fi} (h : Beg f f') : (b8 f.xs).extract 0 f'.xs.length = b8 f'.xs := by
  rw [← b8_take, ← h.xs]
/-- how many entries are still to come -/
def leftNo (w : World) (g r : Nat) : Nat :=
  match w.heap[g]?, w.heap[r]? with
  | some (.map es _), some (.mapIter _ _ seen _) => (Go.leftOf es seen).size
  | _, _ => 0
theorem rangeLeft_eq {κ ν : Type} {enc : κ → Value} {encV : ν → Value} {q : κ → Prop} {w0 w : World} {is : List HP} (HS : SH w0 w is) (n : Nat) {g r : Nat} {m : List (κ × ν)} {left : List κ} (hn : is[n]? = some (mpr g r enc encV q m left)) : leftNo w g r = left.length := by
  obtain ⟨_, es, clock, since, seen, c0, h1, h2, _, _, _, _, _, _, _, h⟩ := HS.at n hn
  simp only [leftNo, h1, h2]
  have := congrArg List.length h
  rw [List.length_map, List.length_map] at this
  rw [← this, ← Array.length_toList]
  simp [Go.leftOf]
theorem strV_inj (x y : ByteArray) (h : strV x = strV y) : x = y := by unfold strV at h; injection h
theorem zeroStr : (Tryd.prog.info? 9).bind (·.zero) = some (Value.string ⟨#[]⟩) := by kernel_rfl
theorem zeroI : (Tryd.prog.info? 3).bind (·.zero) = some (Value.int .i64 0) := by kernel_rfl
end Go.Proofs.YtgcgnhcjjlnloaaDoor.Dk
