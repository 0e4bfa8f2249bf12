import Derived.Test.YtkfopjonhhldnaaNod8
import Derived.Test.YtkfopjonhhldnaaSl3
namespace Go.Proofs.Ytkfopjonhhldnaa.Nod
open Go.RowKit Go.Proofs.YtkfopjonhhldnaaW.PrintWords Go.Proofs.Ytkfopjonhhldnaa.Sl
set_option linter.unusedVariables false
set_option linter.unusedSimpArgs false
/-! Sets of nodes as rows of bools. -/
def bits (l : List Int) : List Bool := [inS l 0, inS l 1, inS l 2, inS l 3, inS l 4, inS l 5, inS l 6, inS l 7]
def flip (r : List Bool) (j : Nat) : List Bool := r.set j (!r.getD j false)
def near (r : List Bool) : Nat → List (List Bool × Int)
  | 0 => []
  | k + 1 => mput (near r k) (flip r (k + 1)) ((k + 1 : Nat) : Int)
theorem mget_near (r b : List Bool) : ∀ k, 0 < (mget (near r k) b).getD 0 ↔ ∃ j, 1 ≤ j ∧ j ≤ k ∧ b = flip r j
  | 0 => by
    constructor
    · intro h; simp [near, mget] at h
    · rintro ⟨j, h1, h2, _⟩; omega
  | k + 1 => by
    have ih := mget_near r b k
    rw [near, mget_put]
    by_cases h : flip r (k + 1) = b
    · rw [if_pos h]
      exact ⟨fun _ => ⟨k + 1, by omega, Nat.le_refl _, h.symm⟩, fun _ => by simp only [Option.getD_some]; omega⟩
    · rw [if_neg h, ih]
      constructor
      · rintro ⟨j, h1, h2, h3⟩; exact ⟨j, h1, by omega, h3⟩
      · rintro ⟨j, h1, h2, h3⟩
        refine ⟨j, h1, ?_, h3⟩
        rcases Nat.lt_or_ge j (k + 1) with h4 | h4
        · omega
        · obtain rfl : j = k + 1 := by omega
          exact absurd h3.symm h
/-- whether two sets are one step apart -/
def steps (a b : List Int) : Bool := good a && good b && decide (0 < (mget (near (bits a) 7) (bits b)).getD 0)
/-- whether a list is another one and one node more -/
def more (l than : List Int) : Bool := decide (l.length = than.length + 1) && than.all (has l)

/-! ### rows of bools -/
def cnt : List Bool → Nat
  | [] => 0
  | b :: r => (if b then 1 else 0) + cnt r
def leq : List Bool → List Bool → Bool
  | x :: r, y :: s => (!x || y) && leq r s
  | _, _ => true
theorem leq_cnt : ∀ {r s : List Bool}, r.length = s.length → leq r s = true → cnt r ≤ cnt s
  | [], [], _, _ => Nat.le_refl _
  | x :: r, y :: s, hl, h => by
    simp only [leq, Bool.and_eq_true] at h
    have := leq_cnt (by simpa using hl) h.2
    have h1 := h.1
    cases x <;> cases y <;> simp_all [cnt] <;> omega
theorem leq_eq : ∀ {r s : List Bool}, r.length = s.length → leq r s = true → cnt r = cnt s → r = s
  | [], [], _, _, _ => rfl
  | x :: r, y :: s, hl, h, hc => by
    simp only [leq, Bool.and_eq_true] at h
    have hle := leq_cnt (by simpa using hl) h.2
    have ih := leq_eq (by simpa using hl) h.2
    have h1 := h.1
    cases x <;> cases y <;> simp_all [cnt] <;> omega
theorem leq_refl : ∀ r : List Bool, leq r r = true
  | [] => rfl
  | x :: r => by simp [leq, leq_refl r]
theorem flip_cons_succ (x : Bool) (r : List Bool) (j : Nat) : flip (x :: r) (j + 1) = x :: flip r j := by simp [flip]
theorem flip_cons_zero (x : Bool) (r : List Bool) : flip (x :: r) 0 = (!x) :: r := by simp [flip]
theorem one_apart : ∀ {r s : List Bool}, r.length = s.length → ((∃ j, j < r.length ∧ s = flip r j) ↔ (cnt r = cnt s + 1 ∧ leq s r = true) ∨ (cnt s = cnt r + 1 ∧ leq r s = true))
  | [], [], _ => by simp [cnt]
  | x :: r, y :: s, hl => by
    have hl' : r.length = s.length := by simpa using hl
    have ih := one_apart hl'
    constructor
    · rintro ⟨j, hj, h⟩
      cases j with
      | zero =>
        rw [flip_cons_zero] at h
        injection h with h1 h2
        subst h1 h2
        cases x <;> simp [cnt, leq, leq_refl] <;> omega
      | succ j =>
        rw [flip_cons_succ] at h
        injection h with h1 h2
        subst h1
        have := ih.1 ⟨j, by simpa using hj, h2⟩
        rcases this with ⟨h3, h4⟩ | ⟨h3, h4⟩
        · left; simp only [cnt, leq]; exact ⟨by omega, by rw [h4]; cases y <;> rfl⟩
        · right; simp only [cnt, leq]; exact ⟨by omega, by rw [h4]; cases y <;> rfl⟩
    · intro h
      by_cases hxy : x = y
      · subst hxy
        have : (cnt r = cnt s + 1 ∧ leq s r = true) ∨ (cnt s = cnt r + 1 ∧ leq r s = true) := by
          rcases h with ⟨h3, h4⟩ | ⟨h3, h4⟩
          · simp only [cnt, leq, Bool.and_eq_true] at h3 h4; exact .inl ⟨by omega, h4.2⟩
          · simp only [cnt, leq, Bool.and_eq_true] at h3 h4; exact .inr ⟨by omega, h4.2⟩
        obtain ⟨j, hj, e⟩ := ih.2 this
        exact ⟨j + 1, by simp; omega, by rw [flip_cons_succ, e]⟩
      · refine ⟨0, by simp, ?_⟩
        rw [flip_cons_zero]
        rcases h with ⟨h3, h4⟩ | ⟨h3, h4⟩
        · simp only [cnt, leq, Bool.and_eq_true] at h3 h4
          have : y = false ∧ x = true := by cases x <;> cases y <;> simp_all
          obtain ⟨rfl, rfl⟩ := this
          simp at h3
          rw [leq_eq hl'.symm h4.2 (by omega)]
          rfl
        · simp only [cnt, leq, Bool.and_eq_true] at h3 h4
          have : x = false ∧ y = true := by cases x <;> cases y <;> simp_all
          obtain ⟨rfl, rfl⟩ := this
          simp at h3
          rw [leq_eq hl' h4.2 (by omega)]
          rfl

/-! ### sets and their rows -/
def univ : List Int := [0, 1, 2, 3, 4, 5, 6, 7]
theorem sorted_ext : ∀ {l m : List Int}, l.Pairwise (· < ·) → m.Pairwise (· < ·) → (∀ x, x ∈ l ↔ x ∈ m) → l = m
  | [], [], _, _, _ => rfl
  | [], y :: m, _, _, h => absurd ((h y).2 List.mem_cons_self) (by simp)
  | x :: l, [], _, _, h => absurd ((h x).1 List.mem_cons_self) (by simp)
  | x :: l, y :: m, hl, hm, h => by
    rw [List.pairwise_cons] at hl hm
    have hxy : x = y := by
      rcases List.mem_cons.1 ((h x).1 List.mem_cons_self) with e | e
      · exact e
      · rcases List.mem_cons.1 ((h y).2 List.mem_cons_self) with e' | e'
        · exact e'.symm
        · have h1 := hm.1 x e
          have h2 := hl.1 y e'
          omega
    subst hxy
    have := sorted_ext hl.2 hm.2 (fun z => by
      have hz := h z
      simp only [List.mem_cons] at hz
      constructor
      · intro hzl
        rcases hz.1 (.inr hzl) with e | e
        · subst e; exact absurd (hl.1 z hzl) (by omega)
        · exact e
      · intro hzm
        rcases hz.2 (.inr hzm) with e | e
        · subst e; exact absurd (hm.1 z hzm) (by omega)
        · exact e)
    rw [this]
theorem isSet_sorted {l : List Int} (h : isSet l = true) : l.Pairwise (· < ·) := by
  rw [List.pairwise_iff_getElem]
  intro i j hi hj hij
  have := okTo_lt (of_decide_eq_true h) j hj i hij
  rw [List.getD_eq_getElem?_getD, List.getD_eq_getElem?_getD, List.getElem?_eq_getElem hi, List.getElem?_eq_getElem hj] at this
  simpa using this
theorem inS_set {l : List Int} (h : isSet l = true) (x : Int) : inS l x = has l x := by rw [inS, h, Bool.true_and]
theorem mem_univ {x : Int} (h0 : 0 ≤ x) (h7 : x ≤ 7) : x ∈ univ := by
  obtain rfl | rfl | rfl | rfl | rfl | rfl | rfl | rfl : x = 0 ∨ x = 1 ∨ x = 2 ∨ x = 3 ∨ x = 4 ∨ x = 5 ∨ x = 6 ∨ x = 7 := by omega
  all_goals decide
theorem isSet_filter {l : List Int} (h : isSet l = true) : l = univ.filter (inS l) := by
  refine sorted_ext (isSet_sorted h) (List.Pairwise.filter _ (by decide)) (fun x => ?_)
  rw [List.mem_filter, inS_set h, has_iff]
  constructor
  · intro hx
    have := inS_range (x := x) (by rw [inS_set h]; exact has_iff.2 hx)
    exact ⟨mem_univ (by omega) (by omega), hx⟩
  · exact fun h => h.2
theorem cnt_map {α : Type} (f : α → Bool) : ∀ l : List α, cnt (l.map f) = (l.filter f).length
  | [] => rfl
  | x :: l => by
    rw [List.map_cons, cnt, cnt_map f l, List.filter_cons]
    cases f x <;> simp <;> omega
theorem bits_map (l : List Int) : bits l = univ.map (inS l) := rfl
theorem length_cnt {l : List Int} (h : isSet l = true) : l.length = cnt (bits l) := by
  rw [bits_map, cnt_map, ← isSet_filter h]
theorem leq_map {α : Type} (f g : α → Bool) : ∀ l : List α, leq (l.map f) (l.map g) = true ↔ ∀ x ∈ l, f x = true → g x = true
  | [] => by simp [leq]
  | x :: l => by
    rw [List.map_cons, List.map_cons, leq, Bool.and_eq_true, leq_map f g l]
    simp only [List.forall_mem_cons]
    cases f x <;> cases g x <;> simp
theorem leq_bits {a b : List Int} (ha : isSet a = true) (hb : isSet b = true) : leq (bits a) (bits b) = a.all (has b) := by
  rw [Bool.eq_iff_iff, bits_map, bits_map, leq_map, List.all_eq_true]
  constructor
  · intro h x hx
    have h1 : inS a x = true := by rw [inS_set ha]; exact has_iff.2 hx
    have := inS_range h1
    have := h x (mem_univ (by omega) (by omega)) h1
    rwa [inS_set hb] at this
  · intro h x _ hx
    rw [inS_set ha, has_iff] at hx
    rw [inS_set hb]
    exact h x hx
theorem more_bits {a b : List Int} (ha : isSet a = true) (hb : isSet b = true) : more a b = true ↔ cnt (bits a) = cnt (bits b) + 1 ∧ leq (bits b) (bits a) = true := by
  rw [more, Bool.and_eq_true, decide_eq_true_eq, length_cnt ha, length_cnt hb, leq_bits hb ha]
theorem good_isSet {l : List Int} (h : good l = true) : isSet l = true := by
  rw [good, Bool.and_eq_true] at h; exact h.1
theorem inS_zero {l : List Int} : inS l 0 = false := by
  cases h : inS l 0 with
  | false => rfl
  | true => have := inS_range h; omega
theorem near_bits (a b : List Int) : 0 < (mget (near (bits a) 7) (bits b)).getD 0 ↔ ∃ j, j < (bits a).length ∧ bits b = flip (bits a) j := by
  rw [mget_near]
  constructor
  · rintro ⟨j, h1, h2, h3⟩
    exact ⟨j, by show j < 8; omega, h3⟩
  · rintro ⟨j, h1, h3⟩
    have h1 : j < 8 := h1
    refine ⟨j, ?_, by omega, h3⟩
    rcases Nat.eq_zero_or_pos j with rfl | h
    · have := congrArg (fun l => l.getD 0 false) h3
      simp [bits, flip, inS_zero] at this
    · exact h
/-- The plain law of NodesSteps. -/
theorem steps_more (a b : List Int) : steps a b = (good a && good b && (more a b || more b a)) := by
  unfold steps
  cases ha : good a
  · rfl
  cases hb : good b
  · rfl
  simp only [Bool.true_and]
  have h1 := good_isSet ha
  have h2 := good_isSet hb
  rw [Bool.eq_iff_iff, decide_eq_true_eq, near_bits, one_apart (show (bits a).length = (bits b).length from rfl), Bool.or_eq_true, more_bits h1 h2, more_bits h2 h1]
theorem steps_self (a : List Int) : steps a a = false := by
  rw [steps_more, more]
  have : decide (a.length = a.length + 1) = false := decide_eq_false (by omega)
  rw [this]
  simp
theorem steps_back (a b : List Int) : steps a b = steps b a := by
  rw [steps_more, steps_more, Bool.and_comm (good a), Bool.or_comm]
theorem near_ne {a b : List Int} (h : 0 < (mget (near (bits a) 7) (bits b)).getD 0) : (bits a == bits b) = false := by
  rw [beq_eq_false_iff_ne]
  intro e
  rw [near_bits, ← e] at h
  obtain ⟨j, h1, h2⟩ := h
  have := congrArg (fun l => l[j]?) h2
  simp only [flip] at this
  rw [List.getElem?_set_self h1, List.getElem?_eq_getElem h1, List.getD_eq_getElem?_getD, List.getElem?_eq_getElem h1] at this
  simp at this
/-! ### the row as a key -/
def rowKey (xs : List Bool) : Value := .agg (xs.map Value.bool).toArray
def rowQ (xs : List Bool) : Prop := xs.length = 8
theorem same_bools (n : Nat) : ∀ xs : List Bool, ((xs.map Value.bool).zip (xs.map Value.bool)).all (fun (x, y) => Instr.sameBits n x y) = true
  | [] => rfl
  | x :: xs => by
    have := same_bools n xs
    simp only [List.map_cons, List.zip_cons_cons, List.all_cons, this, Bool.and_true]
    cases n <;> simp [Instr.sameBits]
theorem rowKeyOK : KeyOK Try.prog 38 rowKey rowQ where
  eq := fun x y w hx hy => by
    have h := run_equal_arr (P := Try.prog) (d := 9998) (t := 38) (e := 4) (n := 8) (by kernel_rfl) (by kernel_rfl) (by kernel_rfl) x y hx hy w
    show (Op.equalIn 10000 _ _ _).run _ _ = _
    refine h.trans ?_
    cases hd : decide (x = y) with
    | true => rw [of_decide_eq_true hd]; simp
    | false => rw [beq_eq_false_iff_ne.2 (of_decide_eq_false hd)]
  chk := fun b x w hx => run_checkKey_arr (P := Try.prog) (d := 9998) (t := 38) (e := 4) (n := 8) (by kernel_rfl) (by kernel_rfl) (by kernel_rfl) x hx w
  same := fun x hx => by
    unfold rowKey
    rw [Instr.sameBits]
    simp only [beq_self_eq_true, Bool.true_and]
    exact same_bools 9999 x
  und := ⟨.array 8 4, by kernel_rfl, .inl (fun x y => rfl)⟩
end Go.Proofs.Ytkfopjonhhldnaa.Nod
