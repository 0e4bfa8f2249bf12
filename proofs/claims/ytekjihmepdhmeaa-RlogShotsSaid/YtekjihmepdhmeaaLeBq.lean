/- Lemmas towards the law: what of the text LeB it needs. -/
import Derived.Test.YtekjihmepdhmeaaLec5q
import Derived.Test.YtekjihmepdhmeaaSlXq
import Derived.Deep.DeepCutAuto
namespace Go.Proofs.Ytekjihmepdhmeaa.Led
open Go.RowKit Go.Proofs.YtekjihmepdhmeaaW.PrintWords Go.Proofs.Ytekjihmepdhmeaa.Sl
set_option linter.unusedVariables false
set_option linter.unusedSimpArgs false
theorem putSeg_app (P R seg : List Value) (h : seg.length ≤ R.length) : putSeg (P ++ R) P.length seg = P ++ (seg ++ R.drop seg.length) := by
  rw [putSeg_eq _ _ _ (by rw [List.length_append]; omega), List.take_left, List.append_assoc, List.drop_append, List.drop_eq_nil_of_le (Nat.le_add_right _ _), Nat.add_sub_cancel_left, List.nil_append]
theorem flat_split {α : Type} (enc : α → List Value) (xs : List α) (i : Nat) : xs.flatMap enc = (xs.take i).flatMap enc ++ (xs.drop i).flatMap enc := by
  rw [← List.flatMap_append, List.take_append_drop]
theorem flat_take {α : Type} {enc : α → List Value} {sz : Nat} (hl : ∀ x, (enc x).length = sz) (xs : List α) (i : Nat) (hi : i ≤ xs.length) : ((xs.take i).flatMap enc).length = i * sz := by
  rw [length_flat hl, List.length_take, Nat.min_eq_left hi]
theorem flat_drop {α : Type} {enc : α → List Value} {sz : Nat} (hl : ∀ x, (enc x).length = sz) (xs : List α) (i : Nat) : ((xs.drop i).flatMap enc).length = (xs.length - i) * sz := by
  rw [length_flat hl, List.length_drop]
theorem flat_one {α : Type} {enc : α → List Value} (h1 : ∀ x, (enc x).all (·.oneCell') = true) (xs : List α) : (xs.flatMap enc).all (·.oneCell') = true := by
  rw [List.all_flatMap]
  exact List.all_eq_true.2 fun x _ => h1 x
/-- what a row's block holds from element i on -/
theorem flat_cell {α : Type} {enc : α → List Value} {sz : Nat} (hl : ∀ x, (enc x).length = sz) (xs : List α) (tl : List Value) (i : Nat) (hi : i ≤ xs.length) {w : World} {g : Nat} {e : TypeId} (h : w.heap[g]? = some (.cells (xs.flatMap enc ++ tl).toArray e (0, 0))) (j : Nat) (v : Value) (hv : ((xs.drop i).flatMap enc)[j]? = some v) : w.cell? (Addr.add ⟨g, i * sz, none⟩ j) = some v := by
  rw [add_plain2, blk_cell h]
  have e1 := flat_split enc xs i
  have e2 := flat_take hl xs i hi
  rw [List.getElem?_toArray, e1, List.append_assoc, List.getElem?_append_right (by omega), e2, Nat.add_sub_cancel_left, List.getElem?_append_left (List.getElem?_eq_some_iff.1 hv).1]
  exact hv
theorem del_cells {α : Type} {enc : α → List Value} {sz : Nat} (hl : ∀ x, (enc x).length = sz) (xs : List α) (tl : List Value) (i : Nat) (hi : i < xs.length) (zs : List Value) (hz : zs.length = sz) :
    ∃ tl', putSeg (putSeg (xs.flatMap enc ++ tl) (i * sz) ((xs.drop (i + 1)).flatMap enc)) ((xs.length - 1) * sz) zs = (xs.eraseIdx i).flatMap enc ++ tl' ∧ ((xs.eraseIdx i).flatMap enc ++ tl').length = (xs.flatMap enc ++ tl).length := by
  have e2 := flat_take hl xs i (by omega)
  have e3 := flat_drop hl xs i
  have e4 := flat_drop hl xs (i + 1)
  have hn : (xs.length - i) * sz = (xs.length - (i + 1)) * sz + sz := by
    rw [show xs.length - i = (xs.length - (i + 1)) + 1 by omega, Nat.succ_mul]
  have e1 : putSeg (xs.flatMap enc ++ tl) (i * sz) ((xs.drop (i + 1)).flatMap enc) = (xs.eraseIdx i).flatMap enc ++ ((xs.drop i).flatMap enc ++ tl).drop ((xs.drop (i + 1)).flatMap enc).length := by
    rw [flat_split enc xs i, List.append_assoc, ← e2, putSeg_app _ _ _ (by rw [List.length_append]; omega), ← List.append_assoc, ← List.flatMap_append, List.eraseIdx_eq_take_drop_succ]
  have e5 : ((xs.eraseIdx i).flatMap enc).length = (xs.length - 1) * sz := by
    rw [length_flat hl, List.length_eraseIdx, if_pos hi]
  have e6 : (((xs.drop i).flatMap enc ++ tl).drop ((xs.drop (i + 1)).flatMap enc).length).length = sz + tl.length := by
    rw [List.length_drop, List.length_append]; omega
  refine ⟨zs ++ (((xs.drop i).flatMap enc ++ tl).drop ((xs.drop (i + 1)).flatMap enc).length).drop zs.length, ?_, ?_⟩
  · rw [e1, ← e5, putSeg_app _ _ _ (by omega)]
  · have : (xs.flatMap enc).length = (xs.length - 1) * sz + sz := by
      rw [length_flat hl, ← Nat.succ_mul]; congr 1; omega
    rw [List.length_append, List.length_append, List.length_append, List.length_drop, e6, e5, this]
    omega
theorem ins_cells {α : Type} {enc : α → List Value} {sz : Nat} (hl : ∀ x, (enc x).length = sz) (xs : List α) (tl : List Value) (i : Nat) (hi : i ≤ xs.length) (x : α) (ht : sz ≤ tl.length) :
    ∃ tl', putSeg (putSeg (xs.flatMap enc ++ tl) ((i + 1) * sz) ((xs.drop i).flatMap enc)) (i * sz) (enc x) = (xs.take i ++ x :: xs.drop i).flatMap enc ++ tl' ∧ ((xs.take i ++ x :: xs.drop i).flatMap enc ++ tl').length = (xs.flatMap enc ++ tl).length := by
  have e2 := flat_take hl xs i hi
  have e3 := flat_drop hl xs i
  have hx := hl x
  obtain ⟨M, hM⟩ : ∃ M, (xs.drop i).flatMap enc ++ tl = M := ⟨_, rfl⟩
  have hMl : M.length = ((xs.drop i).flatMap enc).length + tl.length := by rw [← hM, List.length_append]
  have hA : ((xs.take i).flatMap enc ++ M.take sz).length = (i + 1) * sz := by
    rw [List.length_append, e2, List.length_take, Nat.min_eq_left (by omega), Nat.succ_mul]
  have e1 : putSeg (xs.flatMap enc ++ tl) ((i + 1) * sz) ((xs.drop i).flatMap enc) = (xs.take i).flatMap enc ++ (M.take sz ++ ((xs.drop i).flatMap enc ++ (M.drop sz).drop ((xs.drop i).flatMap enc).length)) := by
    have h0 : xs.flatMap enc ++ tl = ((xs.take i).flatMap enc ++ M.take sz) ++ M.drop sz := by
      rw [List.append_assoc, List.take_append_drop, ← hM, ← List.append_assoc, ← flat_split]
    rw [h0, ← hA, putSeg_app _ _ _ (by rw [List.length_drop]; omega), List.append_assoc]
  refine ⟨(M.drop sz).drop ((xs.drop i).flatMap enc).length, ?_, ?_⟩
  · rw [e1, ← e2, putSeg_app _ _ _ (by simp only [List.length_append, List.length_take, List.length_drop]; omega)]
    have : (M.take sz ++ ((xs.drop i).flatMap enc ++ (M.drop sz).drop ((xs.drop i).flatMap enc).length)).drop (enc x).length = (xs.drop i).flatMap enc ++ (M.drop sz).drop ((xs.drop i).flatMap enc).length := by
      rw [hx, show sz = (M.take sz).length by rw [List.length_take]; omega]
      simp [List.drop_append]
    rw [this, List.flatMap_append, List.flatMap_cons]
    simp only [List.append_assoc]
  · have e4 : (xs.flatMap enc).length = i * sz + ((xs.drop i).flatMap enc).length := by rw [flat_split enc xs i, List.length_append, e2]
    simp only [List.flatMap_append, List.flatMap_cons, List.length_append, List.length_drop, e2, hx, e4]
    omega
theorem insZ_cells {α : Type} {enc : α → List Value} {sz : Nat} (hl : ∀ x, (enc x).length = sz) (xs : List α) (zs tl : List Value) (i : Nat) (hi : i ≤ xs.length) (x : α) (hz : zs.length = (xs.length + 1 - i) * sz) :
    ∃ tl', putSeg (putSeg ((xs.take i).flatMap enc ++ zs ++ tl) (i * sz) (enc x)) ((i + 1) * sz) ((xs.drop i).flatMap enc) = (xs.take i ++ x :: xs.drop i).flatMap enc ++ tl' ∧ ((xs.take i ++ x :: xs.drop i).flatMap enc ++ tl').length = ((xs.take i).flatMap enc ++ zs ++ tl).length := by
  have e2 := flat_take hl xs i hi
  have e3 := flat_drop hl xs i
  have hx := hl x
  have hzl : zs.length = (xs.length - i) * sz + sz := by rw [hz, show xs.length + 1 - i = (xs.length - i) + 1 by omega, Nat.succ_mul]
  have e1 : putSeg ((xs.take i).flatMap enc ++ zs ++ tl) (i * sz) (enc x) = ((xs.take i).flatMap enc ++ enc x) ++ (zs ++ tl).drop sz := by
    rw [List.append_assoc, ← e2, putSeg_app _ _ _ (by rw [List.length_append]; omega), hx, List.append_assoc]
  have hA : ((xs.take i).flatMap enc ++ enc x).length = (i + 1) * sz := by rw [List.length_append, e2, hx, Nat.succ_mul]
  refine ⟨((zs ++ tl).drop sz).drop ((xs.drop i).flatMap enc).length, ?_, ?_⟩
  · rw [e1, ← hA, putSeg_app _ _ _ (by rw [List.length_drop, List.length_append]; omega), List.flatMap_append, List.flatMap_cons]
    simp only [List.append_assoc]
  · simp only [List.flatMap_append, List.flatMap_cons, List.length_append, List.length_drop, e2, hx, e3]
    omega
set_option maxRecDepth 100000 in
theorem cloneHeld_any (A : Option Addr) (n c : Nat) (l : List Held) (w : World) (hr : Rd Held.enc 5 w A n l) (hn : n ≤ 1000000) :
    Calls Try.prog 57 #[.slice A n c] w (fun e w' => ∃ v S, e = .returned v ∧ SH w w' [row heldK 72 v l S]) := by
  have HR := Aside0.mk hr
  have HS := Aside0.mk (SH.start w)
  cases A with
  | none =>
    have h0 : n = 0 := by
      rcases Nat.eq_zero_or_pos n with h | h
      · exact h
      · obtain ⟨ad, he⟩ := hr.addr h; cases he
    have hl : l = [] := List.length_eq_zero_iff.1 (hr.len.1.trans h0)
    subst h0 hl
    clear hr
    have HNIL := Aside0.mk (fun w => Go.Lib.run_eql_slice_nil (P := Try.prog) w 24 _ none 0 c 0 0 Try.underlying24)
    go_enter Try.func57, Try.ntmps57
    go_wp2_with (simp only [HNIL.out])
    go_ret
    first | exact ⟨_, _, rfl, HS.out.nil heldK 72⟩ | exact ⟨_, rfl, _, HS.out.nil heldK 72⟩
  | some ad =>
    clear hr
    have HNIL := Aside0.mk (fun w => Go.Lib.run_eql_slice_nil (P := Try.prog) w 24 _ (some ad) n c 0 0 Try.underlying24)
    go_enter Try.func57, Try.ntmps57
    go_wp2_with (first | (simp only [HNIL.out]) | ((with_reducible refine gC (b := .append) rfl ?_); refine sh_append_blk Held.len Held.one HS.out rfl rfl 0 ([] : List Held) rfl rfl rfl rfl (HR.out.sh HS.out) Try.underlying24 infoHeld rfl (by decide) (by decide) (by simp only [List.length_nil]; omega) ?_; clear HS; intro v1 w1 S1 HS1; (simp only [aZ, aS] at HS1); have HS := Aside0.mk HS1; clear HS1; try simp only [aP, aN, aT, aZ, aS]; obtain ⟨A1, c1, rfl, hc1, _⟩ := row_rd HS.out 0 rfl) | ((first | ((first | ((with_reducible refine gA rfl ?_); refine sh_alloc HS.out rfl rfl (zeT _ (by decide)) ?_) | ((with_reducible refine gB rfl ?_); refine bx HS.out rfl rfl ?_; first | refine bv (v := .agg (List.toArray _)) rfl ?_ | refine bv (v := .int _ _) rfl ?_ | refine bv (v := .slice _ _ _) rfl ?_ | refine bv (v := .bool _) rfl ?_ | refine bv (v := .pointer _) rfl ?_) | ((with_reducible refine gL rfl ?_); refine sh_lit HS.out rfl rfl (by go_simp; exact ⟨⟨rfl, rfl⟩, rfl⟩) ?_)); clear HS; intro g w1 hg HS1; (simp only [Held.enc, Last.enc, zeF, segOf, aL, aC, aE] at HS1); have HS := Aside0.mk HS1; clear HS1)); try simp only [aP, aN, aT, aZ, aS]))
    go_ret
    exact ⟨_, _, rfl, HS.out⟩
set_option maxRecDepth 100000 in
theorem cloneLast_any (A : Option Addr) (n c : Nat) (l : List Last) (w : World) (hr : Rd Last.enc 6 w A n l) (hn : n ≤ 1000000) :
    Calls Try.prog 58 #[.slice A n c] w (fun e w' => ∃ v S, e = .returned v ∧ SH w w' [row lastK 76 v l S]) := by
  have HR := Aside0.mk hr
  have HS := Aside0.mk (SH.start w)
  cases A with
  | none =>
    have h0 : n = 0 := by
      rcases Nat.eq_zero_or_pos n with h | h
      · exact h
      · obtain ⟨ad, he⟩ := hr.addr h; cases he
    have hl : l = [] := List.length_eq_zero_iff.1 (hr.len.1.trans h0)
    subst h0 hl
    clear hr
    have HNIL := Aside0.mk (fun w => Go.Lib.run_eql_slice_nil (P := Try.prog) w 25 _ none 0 c 0 0 Try.underlying25)
    go_enter Try.func58, Try.ntmps58
    go_wp2_with (simp only [HNIL.out])
    go_ret
    first | exact ⟨_, _, rfl, HS.out.nil lastK 76⟩ | exact ⟨_, rfl, _, HS.out.nil lastK 76⟩
  | some ad =>
    clear hr
    have HNIL := Aside0.mk (fun w => Go.Lib.run_eql_slice_nil (P := Try.prog) w 25 _ (some ad) n c 0 0 Try.underlying25)
    go_enter Try.func58, Try.ntmps58
    go_wp2_with (first | (simp only [HNIL.out]) | ((with_reducible refine gC (b := .append) rfl ?_); refine sh_append_blk Last.len Last.one HS.out rfl rfl 0 ([] : List Last) rfl rfl rfl rfl (HR.out.sh HS.out) Try.underlying25 infoLast rfl (by decide) (by decide) (by simp only [List.length_nil]; omega) ?_; clear HS; intro v1 w1 S1 HS1; (simp only [aZ, aS] at HS1); have HS := Aside0.mk HS1; clear HS1; try simp only [aP, aN, aT, aZ, aS]; obtain ⟨A1, c1, rfl, hc1, _⟩ := row_rd HS.out 0 rfl) | ((first | ((first | ((with_reducible refine gA rfl ?_); refine sh_alloc HS.out rfl rfl (zeT _ (by decide)) ?_) | ((with_reducible refine gB rfl ?_); refine bx HS.out rfl rfl ?_; first | refine bv (v := .agg (List.toArray _)) rfl ?_ | refine bv (v := .int _ _) rfl ?_ | refine bv (v := .slice _ _ _) rfl ?_ | refine bv (v := .bool _) rfl ?_ | refine bv (v := .pointer _) rfl ?_) | ((with_reducible refine gL rfl ?_); refine sh_lit HS.out rfl rfl (by go_simp; exact ⟨⟨rfl, rfl⟩, rfl⟩) ?_)); clear HS; intro g w1 hg HS1; (simp only [Held.enc, Last.enc, zeF, segOf, aL, aC, aE] at HS1); have HS := Aside0.mk HS1; clear HS1)); try simp only [aP, aN, aT, aZ, aS]))
    go_ret
    exact ⟨_, _, rfl, HS.out⟩
theorem infoZHeld : (Try.prog.info? 72).bind (·.zero) = some (.agg #[.int .i64 0, .int .i64 0, .int .u64 0, .int .u64 0, .int .u64 0]) := by kernel_rfl
set_option maxHeartbeats 1600000 in
set_option maxRecDepth 100000 in
theorem delHeld_any {w0 : World} {F : HP} (A : Option Addr) (n c : Nat) (l : List Held) (S : Nat → Prop) (i : Nat) (w : World) (HS0 : SH w0 w [row heldK 72 (.slice A n c) l S, F]) (hn : n ≤ 1000000) (hi : i < n) :
    Calls Try.prog 77 #[.slice A n c, .int .i64 i, .int .i64 ((i : Int) + 1)] w (fun e w' => ∃ A' S', e = .returned (.slice A' (n - 1) c) ∧ SH w0 w' [row heldK 72 (.slice A' (n - 1) c) (l.eraseIdx i) S', F]) := by
  obtain ⟨g, tl, rfl, hm, hmc, hcm, hlen, HS1⟩ := HS0.rowBlkF (hl := Held.len) (h1 := Held.one) 0 rfl (by omega)
  simp only [aZ] at HS1
  have HS := Aside0.mk HS1
  have HM := Aside0.mk hm
  have HLEN := Aside0.mk hlen
  clear hlen
  have HFIT := Aside0.mk (show (i + (n - (i + 1))) * 5 ≤ (l.flatMap Held.enc ++ tl).length by rw [HLEN.out]; omega)
  have HSL := Aside0.mk (show ((l.drop (i + 1)).flatMap Held.enc).length = (n - (i + 1)) * 5 by rw [flat_drop Held.len, HM.out])
  have HDC := Aside0.mk (fun zs hz => del_cells Held.len l tl i (by rw [← HM.out]; exact hi) zs hz)
  have HFC := Aside0.mk (fun (w : World) h => flat_cell Held.len l tl (i + 1) (by rw [← HM.out]; exact hi) (w := w) (g := g) (e := 72) h)
  obtain ⟨cs, hcs⟩ : ∃ cs, l.flatMap Held.enc ++ tl = cs := ⟨_, rfl⟩
  obtain ⟨seg, hseg⟩ : ∃ seg, (l.drop (i + 1)).flatMap Held.enc = seg := ⟨_, rfl⟩
  have HONE := Aside0.mk (show seg.all (·.oneCell') = true by rw [← hseg]; exact flat_one Held.one _)
  rw [hcs] at HLEN HFIT HDC HS HFC
  rw [hseg] at HSL HDC HFC
  clear HS0 HS1 hcs hseg hm
  go_enter Try.func77, Try.ntmps77
  go_upto_region 5 with fail
  rcases Nat.lt_or_ge (i + 1) c with hlt | hge
  · have hb1 : ¬ (c = i + 1) := by omega
    have q1 : i ≤ c := by omega
    have q2 : (0 : Int) ≤ (i : Int) + 1 := by omega
    have q3 : (i : Int) + 1 ≤ (n : Int) := by omega
    have HC := Aside0.mk (HS.out.pick [] rfl (by decide))
    refine held_start mixed HC.out (fun HC1 => ?_)
    have HS1 := HS.out.drew
    clear HS HC
    have HS := Aside0.mk HS1
    have HC := Aside0.mk HC1
    clear HS1 HC1
    refine h_val 0 (v := _) (by simp only [aG, aH, aI]; rfl) (by kernel_rfl) (by kernel_rfl) (by kernel_rfl) (by exact fun _ _ _ h => h) HC.out (by kernel_rfl) (fun w hs => by (repeat (rename ∀ (_ : Act) (_ : World), _ => hK9; clear hK9)); go_simp; rfl) ?_
    (try simp only [aP, aN, aT, aZ, aS])
    refine h_val 1 (v := _) (by simp only [aG, aH, aI]; rfl) (by kernel_rfl) (by kernel_rfl) (by kernel_rfl) (by exact fun _ _ _ h => h) HC.out (by kernel_rfl) (fun w hs => by (repeat (rename ∀ (_ : Act) (_ : World), _ => hK9; clear hK9)); go_simp; rfl) ?_
    (try simp only [aP, aN, aT, aZ, aS])
    refine h_val 2 (v := _) (by simp only [aG, aH, aI]; rfl) (by kernel_rfl) (by kernel_rfl) (by kernel_rfl) (by exact fun _ _ _ h => h) HC.out (by kernel_rfl) (fun w hs => by (repeat (rename ∀ (_ : Act) (_ : World), _ => hK9; clear hK9)); go_simp; rfl) ?_
    (try simp only [aP, aN, aT, aZ, aS])
    refine h_val 3 (v := _) (by simp only [aG, aH, aI]; rfl) (by kernel_rfl) (by kernel_rfl) (by kernel_rfl) (by exact fun _ _ _ h => h) HC.out (by kernel_rfl) (fun w hs => by (repeat (rename ∀ (_ : Act) (_ : World), _ => hK9; clear hK9)); go_simp; rfl) ?_
    (try simp only [aP, aN, aT, aZ, aS])
    refine h_val 4 (v := _) (by simp only [aG, aH, aI]; rfl) (by kernel_rfl) (by kernel_rfl) (by kernel_rfl) (by exact fun _ _ _ h => h) HC.out (by kernel_rfl) (fun w hs => by (repeat (rename ∀ (_ : Act) (_ : World), _ => hK9; clear hK9)); go_simp; rfl) ?_
    (try simp only [aP, aN, aT, aZ, aS])
    refine h_val 5 (v := _) (by simp only [aG, aH, aI]; rfl) (by kernel_rfl) (by kernel_rfl) (by kernel_rfl) (by exact fun _ _ _ h => h) HC.out (by kernel_rfl) (fun w hs => by (repeat (rename ∀ (_ : Act) (_ : World), _ => hK9; clear hK9)); go_simp; rfl) ?_
    (try simp only [aP, aN, aT, aZ, aS])
    refine h_one 6 (by simp only [aG, aH, aI]; rfl) (by kernel_rfl) ?_
    ((with_reducible refine gC (b := .append) rfl ?_); refine sh_appIn HS.out rfl rfl rfl rfl 0 rfl Try.underlying24 (sz := 5) ((szT _ (by decide)).trans rfl) (by omega) seg HSL.out (HFC.out _ (HS.out.blk 0 rfl)) HONE.out HFIT.out ?_; clear HS; intro w1 HS1; (simp only [aZ] at HS1); have HS := Aside0.mk HS1; clear HS1)
    have HC1 := HS.out.pick [] rfl (by decide)
    clear HC
    have HC := Aside0.mk HC1
    clear HC1
    refine only_nil HC.out ?_
    (try simp only [aP, aN, aT, aZ, aS])
    refine h_val 7 (v := _) (by simp only [aG, aH, aI]; rfl) (by kernel_rfl) (by kernel_rfl) (by kernel_rfl) (by exact fun _ _ _ h => h) HC.out (by kernel_rfl) (fun w hs => by (repeat (rename ∀ (_ : Act) (_ : World), _ => hK9; clear hK9)); go_simp; rfl) ?_
    (try simp only [aP, aN, aT, aZ, aS])
    refine wpAnyH_done (by kernel_rfl) ?_ _
    go_wp2_with (first | ((with_reducible refine gCb (b := .clear) rfl ?_); refine sh_clearS HS.out rfl rfl rfl (by omega) 0 rfl (sz := 5) (by rw [length_putSeg _ _ _ (by have := HSL.out; have := HLEN.out; omega), HLEN.out]; omega) Try.underlying24 infoZHeld rfl rfl (by decide) ?_; clear HS; intro w1 zs hzs HS1; (simp only [aZ] at HS1); have HS := Aside0.mk HS1; clear HS1))
    go_ret
    have hzs5 : zs.length = 5 := by omega
    obtain ⟨tl', e1, e2⟩ := HDC.out zs hzs5
    rw [← HM.out] at e1
    have HS2 := HS.out
    rw [show i + (n - (i + 1)) = n - 1 by omega] at HS2
    rw [e1] at HS2
    have HS3 := HS2.blkRowF Held.len Held.one 0 rfl (l.eraseIdx i) tl' (k := n - 1) (c := c) (by rw [List.length_eraseIdx, if_pos (by rw [← HM.out]; exact hi), HM.out]) rfl (by rw [e2, HLEN.out]) (by omega) hcm
    exact ⟨_, _, by rw [show n - 1 = i + (n - (i + 1)) by omega]; rfl, HS3⟩
  · have hci : c = i + 1 := by omega
    have hni : n = i + 1 := by omega
    subst hci
    have HNI := Aside0.mk hni
    have q1 : (i : Int) ≤ (i : Int) + 1 := by omega
    have q2 : (0 : Int) ≤ (i : Int) + 1 := by omega
    have q3 : (i : Int) + 1 ≤ (n : Int) := by omega
    have HC := Aside0.mk (HS.out.pick [] rfl (by decide))
    refine held_start mixed HC.out (fun HC1 => ?_)
    have HS1 := HS.out.drew
    clear HS HC
    have HS := Aside0.mk HS1
    have HC := Aside0.mk HC1
    clear HS1 HC1
    refine h_val 0 (v := _) (by simp only [aG, aH, aI]; rfl) (by kernel_rfl) (by kernel_rfl) (by kernel_rfl) (by exact fun _ _ _ h => h) HC.out (by kernel_rfl) (fun w hs => by (repeat (rename ∀ (_ : Act) (_ : World), _ => hK9; clear hK9)); go_simp; rfl) ?_
    (try simp only [aP, aN, aT, aZ, aS])
    refine h_val 1 (v := _) (by simp only [aG, aH, aI]; rfl) (by kernel_rfl) (by kernel_rfl) (by kernel_rfl) (by exact fun _ _ _ h => h) HC.out (by kernel_rfl) (fun w hs => by (repeat (rename ∀ (_ : Act) (_ : World), _ => hK9; clear hK9)); go_simp; rfl) ?_
    (try simp only [aP, aN, aT, aZ, aS])
    refine h_val 2 (v := _) (by simp only [aG, aH, aI]; rfl) (by kernel_rfl) (by kernel_rfl) (by kernel_rfl) (by exact fun _ _ _ h => h) HC.out (by kernel_rfl) (fun w hs => by (repeat (rename ∀ (_ : Act) (_ : World), _ => hK9; clear hK9)); go_simp; rfl) ?_
    (try simp only [aP, aN, aT, aZ, aS])
    refine h_val 3 (v := _) (by simp only [aG, aH, aI]; rfl) (by kernel_rfl) (by kernel_rfl) (by kernel_rfl) (by exact fun _ _ _ h => h) HC.out (by kernel_rfl) (fun w hs => by (repeat (rename ∀ (_ : Act) (_ : World), _ => hK9; clear hK9)); go_simp; rfl) ?_
    (try simp only [aP, aN, aT, aZ, aS])
    refine h_val 4 (v := _) (by simp only [aG, aH, aI]; rfl) (by kernel_rfl) (by kernel_rfl) (by kernel_rfl) (by exact fun _ _ _ h => h) HC.out (by kernel_rfl) (fun w hs => by (repeat (rename ∀ (_ : Act) (_ : World), _ => hK9; clear hK9)); go_simp; rfl) ?_
    (try simp only [aP, aN, aT, aZ, aS])
    refine h_val 5 (v := _) (by simp only [aG, aH, aI]; rfl) (by kernel_rfl) (by kernel_rfl) (by kernel_rfl) (by exact fun _ _ _ h => h) HC.out (by kernel_rfl) (fun w hs => by (repeat (rename ∀ (_ : Act) (_ : World), _ => hK9; clear hK9)); go_simp; rfl) ?_
    (try simp only [aP, aN, aT, aZ, aS])
    refine h_one 6 (by simp only [aG, aH, aI]; rfl) (by kernel_rfl) ?_
    ((with_reducible refine gC (b := .append) rfl ?_); refine sh_appIn HS.out rfl rfl rfl rfl 0 rfl Try.underlying24 (sz := 5) ((szT _ (by decide)).trans rfl) (by omega) seg (by have h1 := HSL.out; have h2 := HNI.out; omega) (fun j v hj => by have h1 := HSL.out; have h2 := (List.getElem?_eq_some_iff.1 hj).1; omega) HONE.out (by have h1 := HFIT.out; have h2 := HNI.out; omega) ?_; clear HS; intro w1 HS1; (simp only [aZ] at HS1); have HS := Aside0.mk HS1; clear HS1)
    have HC1 := HS.out.pick [] rfl (by decide)
    clear HC
    have HC := Aside0.mk HC1
    clear HC1
    refine only_nil HC.out ?_
    (try simp only [aP, aN, aT, aZ, aS])
    refine h_val 7 (v := _) (by simp only [aG, aH, aI]; rfl) (by kernel_rfl) (by kernel_rfl) (by kernel_rfl) (by exact fun _ _ _ h => h) HC.out (by kernel_rfl) (fun w hs => by (repeat (rename ∀ (_ : Act) (_ : World), _ => hK9; clear hK9)); go_simp; rfl) ?_
    (try simp only [aP, aN, aT, aZ, aS])
    refine wpAnyH_done (by kernel_rfl) ?_ _
    go_wp2_with (first | ((with_reducible refine gCb (b := .clear) rfl ?_); refine sh_clearS HS.out rfl rfl rfl (by omega) 0 rfl (sz := 5) (by rw [length_putSeg _ _ _ (by have := HSL.out; have := HLEN.out; omega), HLEN.out]; omega) Try.underlying24 infoZHeld rfl rfl (by decide) ?_; clear HS; intro w1 zs hzs HS1; (simp only [aZ] at HS1); have HS := Aside0.mk HS1; clear HS1))
    go_ret
    have hzs5 : zs.length = 5 := by omega
    obtain ⟨tl', e1, e2⟩ := HDC.out zs hzs5
    rw [← HM.out] at e1
    have HS2 := HS.out
    have e0 : n - 1 = i := by have := HNI.out; omega
    rw [e0] at e1 ⊢
    rw [e1] at HS2
    have HS3 := HS2.blkRowF Held.len Held.one 0 rfl (l.eraseIdx i) tl' (k := i) (c := i + 1) (by rw [List.length_eraseIdx, if_pos (by rw [← HM.out]; exact hi), ← HM.out, e0]) rfl (by rw [e2, HLEN.out]) (by omega) hcm
    exact ⟨_, _, rfl, HS3⟩
end Go.Proofs.Ytekjihmepdhmeaa.Led
