import Derived.Test.YtkfopjonhhldnaaNodL
import Derived.Test.YtkfopjonhhldnaaOpI
namespace Go.Proofs.Ytkfopjonhhldnaa.Nod
open Go.RowKit Go.Proofs.YtkfopjonhhldnaaW.PrintWords Go.Proofs.Ytkfopjonhhldnaa.Sl
set_option linter.unusedVariables false
set_option linter.unusedSimpArgs false
/-! The law NodesMid. -/
theorem best_fold (xs : List Int) : ∀ (L : List Int) (b : Int), b ≤ L.foldl (bestStep xs) b ∧ (∀ x ∈ L, xs.length < 2 * xs.countP (fun y => decide (x ≤ y)) → x ≤ L.foldl (bestStep xs) b) ∧ (L.foldl (bestStep xs) b = b ∨ ∃ x ∈ L, xs.length < 2 * xs.countP (fun y => decide (x ≤ y)) ∧ L.foldl (bestStep xs) b = x)
  | [], b => ⟨Int.le_refl _, fun x hx => (by cases hx), .inl rfl⟩
  | z :: L, b => by
    obtain ⟨h1, h2, h3⟩ := best_fold xs L (bestStep xs b z)
    rw [List.foldl_cons]
    have hs : b ≤ bestStep xs b z ∧ (xs.length < 2 * xs.countP (fun y => decide (z ≤ y)) → z ≤ bestStep xs b z) ∧ (bestStep xs b z = b ∨ (xs.length < 2 * xs.countP (fun y => decide (z ≤ y)) ∧ bestStep xs b z = z)) := by
      unfold bestStep
      split
      · rename_i hq
        split
        · exact ⟨by omega, fun _ => by omega, .inr ⟨hq, rfl⟩⟩
        · exact ⟨by omega, fun _ => by omega, .inl rfl⟩
      · rename_i hq
        exact ⟨by omega, fun h => absurd h hq, .inl rfl⟩
    refine ⟨by omega, fun x hx hq => ?_, ?_⟩
    · rcases List.mem_cons.1 hx with rfl | hx
      · have := hs.2.1 hq; omega
      · exact h2 x hx hq
    · rcases h3 with h3 | ⟨x, hx, hq, h3⟩
      · rcases hs.2.2 with h4 | ⟨hq, h4⟩
        · exact .inl (h3.trans h4)
        · exact .inr ⟨z, List.mem_cons_self, hq, h3.trans h4⟩
      · exact .inr ⟨x, List.mem_cons_of_mem _ hx, hq, h3⟩
theorem mid_best {xs : List Int} {r : Int} (h : isMid xs r) (hp : 0 < xs.length) (h0 : ∀ x ∈ xs, 0 ≤ x) : r = bestOf xs := by
  obtain ⟨ys, hl, hs, hc, rfl⟩ := h
  obtain ⟨q, hq⟩ : ∃ q, (xs.length - 1) / 2 = q := ⟨_, rfl⟩
  rw [hq]
  have hql : q < ys.length := by omega
  have hg : ∀ i (hi : i < ys.length), ys.getD i 0 = ys[i] := fun i hi => by rw [List.getD_eq_getElem?_getD, List.getElem?_eq_getElem hi]; rfl
  obtain ⟨r, hr⟩ : ∃ r, ys.getD q 0 = r := ⟨_, rfl⟩
  rw [hr]
  have hle : ∀ i, q ≤ i → i < ys.length → r ≤ ys.getD i 0 := fun i h1 h2 => by
    by_cases e : i = q
    · subst e; omega
    · rw [← hr]; exact hs q i (by omega) h2
  have hge : ∀ i, i ≤ q → ys.getD i 0 ≤ r := fun i h1 => by
    by_cases e : i = q
    · subst e; omega
    · rw [← hr]; exact hs i q (by omega) hql
  have hcount : ∀ (p : Int → Bool) (k : Nat), ys.countP p = (ys.take k).countP p + (ys.drop k).countP p := fun p k => by
    rw [← List.countP_append, List.take_append_drop]
  have hrm : r ∈ xs := by
    have h1 : 0 < ys.countP (fun y => y == r) := List.countP_pos_iff.2 ⟨ys[q], List.getElem_mem hql, by rw [← hr, hg q hql]; exact beq_self_eq_true _⟩
    rw [hc] at h1
    obtain ⟨y, hy, he⟩ := List.countP_pos_iff.1 h1
    rw [eq_of_beq he] at hy
    exact hy
  have hqr : xs.length < 2 * xs.countP (fun y => decide (r ≤ y)) := by
    rw [← hc, hcount _ q]
    have : (ys.drop q).countP (fun y => decide (r ≤ y)) = (ys.drop q).length := List.countP_eq_length.2 (fun y hy => by
      obtain ⟨i, hi, rfl⟩ := List.getElem_of_mem hy
      rw [List.length_drop] at hi
      rw [List.getElem_drop, ← hg (q + i) (by omega)]
      exact decide_eq_true (hle (q + i) (by omega) (by omega)))
    rw [this, List.length_drop]
    omega
  have hup : ∀ x, xs.length < 2 * xs.countP (fun y => decide (x ≤ y)) → x ≤ r := fun x hx => by
    refine Int.not_lt.1 (fun hlt => ?_)
    rw [← hc, hcount _ (q + 1)] at hx
    have : (ys.take (q + 1)).countP (fun y => decide (x ≤ y)) = 0 := List.countP_eq_zero.2 (fun y hy => by
      obtain ⟨i, hi, rfl⟩ := List.getElem_of_mem hy
      rw [List.length_take] at hi
      rw [List.getElem_take, ← hg i (by omega)]
      have := hge i (by omega)
      simp only [decide_eq_true_eq]
      omega)
    have h2 := List.countP_le_length (p := fun y => decide (x ≤ y)) (l := ys.drop (q + 1))
    rw [List.length_drop] at h2
    omega
  obtain ⟨b1, b2, b3⟩ := best_fold xs xs 0
  have b2r := b2 r hrm hqr
  unfold bestOf
  have hr0 := h0 r hrm
  rcases b3 with b3 | ⟨x, hx, hq2, b3⟩
  · omega
  · have := hup x hq2
    omega
def midOf (l : List Int) (m : FarM) : Int := if good l then bestOf (l.map (far m)) else 0
theorem midC_any (A : Option Addr) (c gm : Nat) (l : List Int) (m : FarM) (w : World) {N : Nat} (hr : Rd (ints .i64) 1 w A N l) (hmp : (FarI gm m).ok w) (h0 : ∀ n, 0 ≤ far m n) :
    Calls Try.prog 26 #[.slice A N c, .map (some gm)] w (fun e w' => e = .returned (.int .u64 (midOf l m)) ∧ Below w.heap.size w w') := by
  refine (mid_any A c gm l m w hr hmp).mono fun e w' ⟨⟨r, he, h1, h2⟩, hb⟩ => ⟨?_, hb⟩
  rw [he]
  unfold midOf
  cases hg : good l with
  | false => rw [h1 hg]; rfl
  | true =>
    rw [mid_best (h2 hg) (by rw [List.length_map]; exact (good_len hg).1) (fun x hx => by
      obtain ⟨n, _, rfl⟩ := List.mem_map.1 hx
      exact h0 n)]
    rfl
/-- the map that a law makes of a list -/
def atM (fs : List Int) : Nat → FarM
  | 0 => []
  | k + 1 => if k < 12 then mput (atM fs k) (k : Int) (fs.getD k 0) else atM fs k
theorem far_put (m : FarM) (k v n : Int) : far (mput m k v) n = if k = n then v else far m n := by
  unfold far
  rw [mget_put]
  split <;> rfl
theorem atM_pos {fs : List Int} (h : ∀ x ∈ fs, 0 ≤ x) : ∀ k n, 0 ≤ far (atM fs k) n
  | 0, n => Int.le_refl _
  | k + 1, n => by
    rw [atM]
    split
    · rw [far_put]
      split
      · rw [List.getD_eq_getElem?_getD]
        cases hk : fs[k]? with
        | none => exact Int.le_refl _
        | some x => exact h x (List.mem_of_getElem? hk)
      · exact atM_pos h k n
    · exact atM_pos h k n
def exM : FarM := mput (mput [] 1 9) 3 4
theorem exM_mid : midOf [1, 2, 3] exM = 4 := by decide +kernel
theorem exM_pos (n : Int) : 0 ≤ far exM n := by
  unfold exM
  rw [far_put, far_put]
  split
  · decide
  · split
    · decide
    · exact Int.le_refl _
theorem rd123 {w : World} {g : Nat} {t : TypeId} (h : w.heap[g]? = some (.cells ([.int .i64 1, .int .i64 2, .int .i64 3] : List Value).toArray t (0, 0))) : Rd (ints .i64) 1 w (some ⟨g, 0, none⟩) 3 [1, 2, 3] := Rd.lit (ints_len .i64) h rfl rfl (by decide)
set_option maxHeartbeats 3200000 in
set_option maxRecDepth 100000 in
theorem lawMid_any (A B : Option Addr) (c c' : Nat) (l fs : List Int) (w : World) {N M : Nat} (hr : Rd (ints .i64) 1 w A N l) (hr' : Rd (ints .u64) 1 w B M fs) (hp : ∀ x ∈ fs, 0 ≤ x) :
    Calls Try.prog 11 #[.slice A N c, .slice B M c'] w (fun e w' => e = .returned (.bool true) ∧ Below w.heap.size w w') := by
  obtain rfl := hr.len.1
  obtain rfl := hr'.len.1
  have hm := hr.len.2
  have hm' := hr'.len.2
  have HR := Aside0.mk hr
  have HR' := Aside0.mk hr'
  have HPO := Aside0.mk (atM_pos hp)
  clear hr hr' hp
  have HS := Aside0.mk (SH.start w)
  go_enter Try.func11, Try.ntmps11
  go_wp2_with (first | ((with_reducible refine gMm rfl ?_); refine sh_makeMap HS.out rfl rfl (Value.int .i64) (Value.int .u64) (fun _ : Int => True) ?_; clear HS; intro g w1 hg HS1; (simp only [List.cons_append, List.nil_append] at HS1); have HS := Aside0.mk HS1; clear HS1; try simp only [Act.put, List.setIfInBounds_toArray, List.set_cons_zero, List.set_cons_succ]))
  obtain ⟨gm, hgm⟩ : ∃ gm, gm = g := ⟨_, rfl⟩
  subst hgm
  go_loopw [6, 7, 13] (fun v6 v7 v13 wr => ∃ (k : Nat), k ≤ fs.length ∧ v13 = .int .i64 k ∧ Aside0 (SH w wr [FarI gm (atM fs k)])) (fun _ _ v13 _ => fs.length - (intOf v13).toNat)
  case atStart => exact ⟨0, Nat.zero_le _, rfl, HS⟩
  case round =>
    clear HS
    obtain ⟨k, hk, rfl, HS⟩ := hrel
    by_cases hlt : k < fs.length
    · obtain ⟨ad, rfl⟩ := HR'.out.addr (by omega)
      generalize hx : fs.getD k 0 = x
      have HAT := Aside0.mk (show atM fs (k + 1) = if k < 12 then mput (atM fs k) (k : Int) x else atM fs k by rw [atM, hx])
      have HX := Aside0.mk hx
      clear hx
      have HRR := Aside0.mk (HR'.out.sh HS.out)
      by_cases h12 : k < 12
      · have f1 : decide ((k : Int) < 12) = true := by rw [decide_eq_true_eq]; omega
        have HA2 := Aside0.mk (show atM fs (k + 1) = mput (atM fs k) (k : Int) x by rw [HAT.out, if_pos h12])
        go_wp2_with (first | ((with_reducible refine gLd rfl ?_); refine rd_load1 (enc := Value.int .u64) HRR.out rfl rfl (i := k) rfl hlt 0 ((agT _ (by decide)).trans rfl) ?_; intro x hx; obtain rfl := HX.out.symm.trans hx; (try simp only [Act.put, List.setIfInBounds_toArray, List.set_cons_zero, List.set_cons_succ])) | ((with_reducible refine gMu rfl ?_); refine sh_update HS.out rfl rfl rfl rfl 0 rfl (k : Int) rfl trivial x rfl rfl farKeyOK ?_; clear HS; intro w1 HS1; (simp only [List.set_cons_zero, List.set_cons_succ] at HS1); have HS := Aside0.mk HS1; clear HS1; try simp only [Act.put, List.setIfInBounds_toArray, List.set_cons_zero, List.set_cons_succ]))
        go_roundw
        case rel => exact ⟨k + 1, by omega, by go_num, ⟨by rw [HA2.out]; exact HS.out⟩⟩
        case measure => simp [intOf]; omega
      · have f1 : decide ((k : Int) < 12) = false := by rw [decide_eq_false_iff_not]; omega
        have HA2 := Aside0.mk (show atM fs (k + 1) = atM fs k by rw [HAT.out, if_neg h12])
        go_wp2_with (first | ((with_reducible refine gLd rfl ?_); refine rd_load1 (enc := Value.int .u64) HRR.out rfl rfl (i := k) rfl hlt 0 ((agT _ (by decide)).trans rfl) ?_; intro x hx; obtain rfl := HX.out.symm.trans hx; (try simp only [Act.put, List.setIfInBounds_toArray, List.set_cons_zero, List.set_cons_succ])))
        go_roundw
        case rel => exact ⟨k + 1, by omega, by go_num, ⟨by rw [HA2.out]; exact HS.out⟩⟩
        case measure => simp [intOf]; omega
    · obtain rfl : k = fs.length := by omega
      have HPP := Aside0.mk (HPO.out fs.length)
      obtain ⟨m, hmm⟩ : ∃ m, atM fs fs.length = m := ⟨_, rfl⟩
      rw [hmm] at HS HPP
      clear hmm
      obtain ⟨r, hr⟩ : ∃ r, midOf l m = r := ⟨_, rfl⟩
      have HMR := Aside0.mk hr
      clear hr
      have heq1 : (r == r) = true := beq_iff_eq.2 rfl
      go_wp2_with (first | ((with_reducible refine gC (b := .len) rfl ?_); refine mp_len rfl rfl rfl (HS.out.at 0 rfl) Try.underlying33 ?_; (try simp only [goInt, Act.put, List.setIfInBounds_toArray, List.set_cons_zero, List.set_cons_succ])) | (go_at_call 26; (with_reducible refine (midC_any A c gm l m _ (HR.out.sh HS.out) (HS.out.at 0 rfl) HPP.out).mono ?_); rintro e w2 ⟨rfl, hb⟩; rw [HMR.out]; have HS1 := HS.out.quiet hb; clear HS hb; have HS := Aside0.mk HS1; clear HS1) | (go_at_call 27; (with_reducible refine (refMid_any A c gm l m _ (HR.out.sh HS.out) (HS.out.at 0 rfl)).mono ?_); rintro e w2 ⟨rfl, hb⟩; rw [show (if good l then bestOf (l.map (far m)) else 0) = r from HMR.out]; have HS1 := HS.out.quiet hb; clear HS hb; have HS := Aside0.mk HS1; clear HS1) | (go_at_call 26; (with_reducible refine (midC_any _ 3 _ [1, 2, 3] exM _ (rd123 (HS.out.blk 1 rfl)) (HS.out.at 2 rfl) exM_pos).mono ?_); rintro e w2 ⟨rfl, hb⟩; rw [exM_mid]; have HS1 := HS.out.quiet hb; clear HS hb; have HS := Aside0.mk HS1; clear HS1) | ((with_reducible refine gIn rfl ?_); refine sh_insert HS.out rfl rfl rfl rfl 2 rfl (1 : Int) rfl trivial (9 : Int) rfl Try.underlying33 farKeyOK ?_; clear HS; intro w1 HS1; (simp only [List.set_cons_zero, List.set_cons_succ] at HS1); have HS := Aside0.mk HS1; clear HS1; (try simp only [Act.put, List.setIfInBounds_toArray, List.set_cons_zero, List.set_cons_succ])) | ((with_reducible refine gIn rfl ?_); refine sh_insert HS.out rfl rfl rfl rfl 2 rfl (3 : Int) rfl trivial (4 : Int) rfl Try.underlying33 farKeyOK ?_; clear HS; intro w1 HS1; (simp only [List.set_cons_zero, List.set_cons_succ] at HS1); have HS := Aside0.mk HS1; clear HS1; (try simp only [Act.put, List.setIfInBounds_toArray, List.set_cons_zero, List.set_cons_succ])) | ((with_reducible refine gMm rfl ?_); refine sh_makeMap HS.out rfl rfl (Value.int .i64) (Value.int .u64) (fun _ : Int => True) ?_; clear HS; intro g w1 hg HS1; (simp only [List.cons_append, List.nil_append] at HS1); have HS := Aside0.mk HS1; clear HS1; try simp only [Act.put, List.setIfInBounds_toArray, List.set_cons_zero, List.set_cons_succ]) | ((with_reducible refine gA rfl ?_); refine sh_alloc HS.out rfl rfl (zeT _ (by decide)) ?_; clear HS; intro g w1 hg HS1; (simp only [zeF, segOf, List.toList_toArray, List.cons_append, List.nil_append] at HS1); have HS := Aside0.mk HS1; clear HS1; try simp only [Act.put, List.setIfInBounds_toArray, List.set_cons_zero, List.set_cons_succ]) | ((with_reducible refine gB rfl ?_); (first | refine sh_box HS.out rfl rfl (v := (.agg (List.toArray _))) rfl ?_ | refine sh_box HS.out rfl rfl (v := (.int _ _)) rfl ?_ | refine sh_box HS.out rfl rfl (v := (.slice _ _ _)) rfl ?_ | refine sh_box HS.out rfl rfl (v := (.bool _)) rfl ?_ | refine sh_box HS.out rfl rfl (v := (.pointer _)) rfl ?_ | refine sh_box HS.out rfl rfl (v := (.string _)) rfl ?_ | refine sh_box HS.out rfl rfl (v := (.map _)) rfl ?_ | refine sh_box HS.out rfl rfl (v := (.func _ _ _)) rfl ?_); clear HS; intro g w1 hg HS1; (simp only [segOf, List.toList_toArray, List.cons_append, List.nil_append] at HS1); have HS := Aside0.mk HS1; clear HS1; try simp only [Act.put, List.setIfInBounds_toArray, List.set_cons_zero, List.set_cons_succ]) | ((with_reducible refine gL rfl ?_); refine sh_lit HS.out rfl rfl (by go_simp; exact ⟨⟨rfl, rfl⟩, rfl⟩) ?_; clear HS; intro g w1 hg HS1; (simp only [segOf, List.toList_toArray, List.cons_append, List.nil_append] at HS1); have HS := Aside0.mk HS1; clear HS1; try simp only [Act.put, List.setIfInBounds_toArray, List.set_cons_zero, List.set_cons_succ]))
      go_ret
      exact ⟨rfl, HS.out.below⟩
theorem u64_lo {n : Int} (h : (Lit.int .u64 n).wf = true) : 0 ≤ n := by
  simp only [Lit.wf, IntKind.min, IntKind.max, IntKind.signed, IntKind.bits, Bool.and_eq_true, decide_eq_true_eq, Bool.false_eq_true, if_false] at h
  omega
def intsS : Sh := .slice 3 (.int .i64)
def u64sS : Sh := .slice 34 (.int .u64)
namespace LawMid
theorem walk (W : World) (cs0 : List Value) (x0 : intsS.D) (hk0 : intsS.kd.K W x0 cs0) (hw0 : intsS.wf x0) (hz0 : intsS.sized Try.prog x0) (cs1 : List Value) (x1 : u64sS.D) (hk1 : u64sS.kd.K W x1 cs1) (hw1 : u64sS.wf x1) (hz1 : u64sS.sized Try.prog x1) :
    Calls Try.prog 11 #[intsS.val cs0, u64sS.val cs1] W fun e W' => e = .returned (.bool true) ∧ Below W.heap.size W W' := by
  obtain ⟨A, c, rfl, _, hr⟩ := ints_open (e := 3) (k := .i64) hk0
  obtain ⟨B, c', rfl, _, hr'⟩ := ints_open (e := 34) (k := .u64) hk1
  exact lawMid_any A B c c' x0 x1 W hr hr' (fun x hx => u64_lo (hw1.2 x hx))
end LawMid
end Go.Proofs.Ytkfopjonhhldnaa.Nod
