/- Arrays of bools: '==', and as keys. -/
import Derived.Test.YtddnkbabbobkaaaSl2
import Derived.Test.YtddnkbabbobkaaaTy
import Derived.WalkKit
namespace Go.Proofs.Ytddnkbabbobkaaa.Sl
open Go.RowKit Go.Proofs.YtddnkbabbobkaaaW.PrintWords
set_option linter.unusedVariables false
set_option linter.unusedSimpArgs false
section
variable {P : Program}
theorem run_part_bool {e : TypeId} (hu : P.underlying e = some .bool) (xs : List Bool) (i : Nat) (h : i < xs.length) (w : World) : (part e (xs.map Value.bool).toArray i).run P w = .ok (.bool (xs.getD i false)) w := by
  have : (xs.map Value.bool).toArray[i]? = some (.bool (xs.getD i false)) := by
    simp [List.getD_eq_getElem?_getD, List.getElem?_eq_getElem h]
  simp [part, isAgg, underlying, hu, this, go_sem]
theorem run_eqLoop {d : Nat} {e : TypeId} (hu : P.underlying e = some .bool) (xs ys : List Bool) (hl : xs.length = ys.length) (w : World) : ∀ (m k : Nat), m + k = xs.length → xs.take k = ys.take k →
    ((forIn (List.range' k m) ((none : Option Bool), ()) (fun i r => do
      if !(← Op.equalIn (d + 1) e (← part e (xs.map Value.bool).toArray (i * 1)) (← part e (ys.map Value.bool).toArray (i * 1))) then pure (ForInStep.done (some false, ())) else pure (ForInStep.yield (none, ()))) : Sem (Option Bool × Unit)).run P w) = .ok (if xs == ys then none else some false, ()) w
  | 0, k, h, ht => by
    have : xs = ys := by
      rw [List.take_of_length_le (by omega), List.take_of_length_le (by omega)] at ht
      exact ht
    subst this
    simp
  | m + 1, k, h, ht => by
    have hk : k < xs.length := by omega
    have hk' : k < ys.length := by omega
    have h1 := run_part_bool hu xs k hk w
    have h2 := run_part_bool hu ys k hk' w
    rw [List.range'_succ, List.forIn_cons]
    simp only [Nat.mul_one, Sem.run_bind, h1, h2, Result.andThen_ok, run_equalIn_bool' w d e _ _ hu]
    by_cases hb : xs.getD k false = ys.getD k false
    · have ih := run_eqLoop (d := d) hu xs ys hl w m (k + 1) (by omega) (by
        rw [List.take_succ_eq_append_getElem hk, List.take_succ_eq_append_getElem hk', ht]
        simp [List.getD_eq_getElem?_getD, List.getElem?_eq_getElem hk, List.getElem?_eq_getElem hk'] at hb
        rw [hb])
      simp only [Nat.mul_one] at ih
      rw [hb]
      simp only [beq_self_eq_true, Bool.not_true, Bool.false_eq_true, if_false, Sem.run_pure, Result.andThen_ok]
      exact ih
    · have hb' : (xs.getD k false == ys.getD k false) = false := beq_eq_false_iff_ne.2 hb
      have hne : (xs == ys) = false := by
        rw [beq_eq_false_iff_ne]
        rintro rfl
        exact hb rfl
      rw [hb', hne]
      simp
theorem run_equal_arr {d : Nat} {t e : TypeId} {n : Nat} (ht : P.underlying t = some (.array n e)) (hu : P.underlying e = some .bool) (hs : (P.info? e).map (·.size) = some 1) (xs ys : List Bool) (hx : xs.length = n) (hy : ys.length = n) (w : World) :
    (Op.equalIn (d + 2) t (.agg (xs.map Value.bool).toArray) (.agg (ys.map Value.bool).toArray)).run P w = .ok (xs == ys) w := by
  obtain ⟨i, hi, hsz⟩ := Option.map_eq_some_iff.1 hs
  have hr := run_eqLoop (P := P) (d := d) hu xs ys (by omega) w n 0 (by omega) rfl
  have hsz' : (sizeOf e).run P w = .ok 1 w := by simp [sizeOf, typeInfo, hi, hsz]
  rw [Op.equalIn]
  simp only [Sem.run_bind, run_underlying ht, Result.andThen_ok, hsz', Std.Legacy.Range.forIn_eq_forIn_range', Std.Legacy.Range.size, Nat.sub_zero, Nat.add_one_sub_one, Nat.div_one]
  rw [hr]
  cases h : (xs == ys) <;> simp
theorem run_checkKey_arr {d : Nat} {t e : TypeId} {n : Nat} {b : Bool} (ht : P.underlying t = some (.array n e)) (hu : P.underlying e = some .bool) (hs : (P.info? e).map (·.size) = some 1) (xs : List Bool) (hx : xs.length = n) (w : World) :
    (Instr.checkKey b (d + 2) t (.agg (xs.map Value.bool).toArray)).run P w = .ok () w := by
  obtain ⟨i, hi, hsz⟩ := Option.map_eq_some_iff.1 hs
  have hsz' : (sizeOf e).run P w = .ok 1 w := by simp [sizeOf, typeInfo, hi, hsz]
  have hck : ∀ v, (Instr.checkKey b (d + 1) e (.bool v)).run P w = .ok () w := by
    intro v
    rw [Instr.checkKey]
    simp only [Sem.run_bind, run_underlying hu, Result.andThen_ok, Sem.run_pure]
  rw [Instr.checkKey]
  simp only [Sem.run_bind, run_underlying ht, Result.andThen_ok, Std.Legacy.Range.forIn_eq_forIn_range', Std.Legacy.Range.size, Nat.sub_zero, Nat.add_one_sub_one, Nat.div_one]
  have : ∀ (m k : Nat), m + k = n → ((forIn (List.range' k m) PUnit.unit (fun i r => do
      Instr.checkKey b (d + 1) e (← part e (xs.map Value.bool).toArray (i * (← sizeOf e)))
      pure (ForInStep.yield PUnit.unit)) : Sem PUnit).run P w) = .ok PUnit.unit w := by
    intro m
    induction m with
    | zero => intro k _; simp
    | succ m ih =>
      intro k hk
      have h1 := run_part_bool hu xs k (by omega) w
      rw [List.range'_succ, List.forIn_cons]
      simp only [Sem.run_bind, hsz', Result.andThen_ok, Nat.mul_one, h1, hck, Sem.run_pure]
      exact ih (k + 1) (by omega)
  have h0 := this n 0 (by omega)
  rw [h0]
  rfl
end
end Go.Proofs.Ytddnkbabbobkaaa.Sl
