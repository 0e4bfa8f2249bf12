/- Lemmas towards the law: what of the text Jur2 it needs. -/
import Derived.Test.YtkggchahhpmpbaaJur1q
import Derived.Deep.DeepCutAuto
namespace Go.Proofs.Ytkggchahhpmpbaa.Jue
open Go.RowKit Go.Proofs.YtkggchahhpmpbaaW.PrintWords Go.Proofs.Ytkggchahhpmpbaa.Sl Go.Sort
set_option linter.unusedVariables false
set_option linter.unusedSimpArgs false
theorem Gw.start (W : World) (x y : Int × Int) (t : TypeId) : Gw W W.heap.size (W.heap.size + 1) x y ((W.alloc (.cells #[.int .i64 x.1, .int .i64 x.2] t)).alloc (.cells #[.int .i64 y.1, .int .i64 y.2] t)) := by
  have e1 := heap_alloc_new W (.cells #[.int .i64 x.1, .int .i64 x.2] t)
  have e2 := heap_alloc_new (W.alloc (.cells #[.int .i64 x.1, .int .i64 x.2] t)) (.cells #[.int .i64 y.1, .int .i64 y.2] t)
  rw [World.size_alloc] at e2
  have e1' := (MapKept.heap_alloc (W.alloc (.cells #[.int .i64 x.1, .int .i64 x.2] t)) (.cells #[.int .i64 y.1, .int .i64 y.2] t)).2 W.heap.size (by simp)
  rw [e1] at e1'
  refine ⟨⟨0, #[.cells #[.int .i64 x.1, .int .i64 x.2] t, .cells #[.int .i64 y.1, .int .i64 y.2] t], ?_⟩, ?_, ?_, ?_, ?_, by simp; omega, by simp⟩
  · rw [alloc_eq_grow, alloc_eq_grow, grow_grow]; rfl
  all_goals
    unfold World.cell?
    simp only [e1', e2]
    rfl
set_option maxHeartbeats 3200000 in
set_option maxRecDepth 100000 in
theorem cmp_any (x y : Int × Int) (W : World) : Calls Try.prog 37 #[.agg #[.int .i64 x.1, .int .i64 x.2], .agg #[.int .i64 y.1, .int .i64 y.2]] W (fun e w' => e = .returned (.int .i64 (cmpC x y)) ∧ ∃ q os', w' = grow (W.drewN q) os') := by
  obtain ⟨c1, hc1⟩ : ∃ c, cmpI x.1 y.1 = c := ⟨_, rfl⟩
  obtain ⟨c2, hc2⟩ : ∃ c, cmpI x.2 y.2 = c := ⟨_, rfl⟩
  have HC1 := Aside0.mk (show ∀ w, Calls Try.prog 39 #[.int .i64 x.1, .int .i64 y.1] w (fun e w' => e = .returned (.int .i64 c1) ∧ w' = w) from fun w => by rw [← hc1]; exact compare_int x.1 y.1 w)
  have HC2 := Aside0.mk (show ∀ w, Calls Try.prog 39 #[.int .i64 x.2, .int .i64 y.2] w (fun e w' => e = .returned (.int .i64 c2) ∧ w' = w) from fun w => by rw [← hc2]; exact compare_int x.2 y.2 w)
  obtain ⟨r, hr⟩ : ∃ r, (if c1 = 0 then c2 else c1) = r := ⟨_, rfl⟩
  have HE := Aside0.mk (show cmpC x y = r by unfold cmpC; rw [hc1, hc2, hr])
  have HOR := Aside0.mk (show ∀ (g : Nat) (w : World), w.cell? ⟨g, 0, none⟩ = some (.int .i64 c1) → w.cell? ⟨g, 1, none⟩ = some (.int .i64 c2) → Calls Try.prog 38 #[.slice (some ⟨g, 0, none⟩) 2 2] w (fun e w' => e = .returned (.int .i64 r) ∧ w' = w) from fun g w h0 h1 => by rw [← hr]; exact or_int g 2 c1 c2 w h0 h1)
  clear hr
  clear hc1 hc2
  have HG0 := Aside0.mk (Gw.start W x y 56)
  go_enter Try.func37, Try.ntmps37
  go_upto_region 1 with (fail)
  have HG := HG0
  obtain ⟨w1, hw1⟩ : ∃ w1, ((W.alloc (.cells #[.int .i64 x.1, .int .i64 x.2] 56)).alloc (.cells #[.int .i64 y.1, .int .i64 y.2] 56)) = w1 := ⟨_, rfl⟩
  rw [hw1] at HG ⊢
  clear hw1 HG0
  refine wp_region_held_drew (S := Gw W W.heap.size (W.heap.size + 1) x y) mixed HG.out.drew (fun _ => ?_)
  have HG1 := Aside0.mk HG.out.drew
  clear HG
  have HG := HG1
  clear HG1
  obtain ⟨wd, hwd⟩ : ∃ wd, w1.drew = wd := ⟨_, rfl⟩
  rw [hwd] at HG ⊢
  clear hwd
  refine s_val (S := Gw W W.heap.size (W.heap.size + 1) x y) 0 (v := _) (by simp only [aG, aH, aI]; rfl) (by kernel_rfl) (by kernel_rfl) (by kernel_rfl) (by exact fun _ _ _ h => h) HG.out (by kernel_rfl) (fun w hs => by (repeat (rename ∀ (_ : Act) (_ : World), _ => hK9; clear hK9)); go_simp; rfl) ?_
  (try simp only [aP, aN, aT, aZ, aS])
  refine s_load (S := Gw W W.heap.size (W.heap.size + 1) x y) 1 (by simp only [aG, aH, aI]; rfl) (by kernel_rfl) (by kernel_rfl) (by kernel_rfl) (by exact fun _ _ _ h => h) HG.out (by kernel_rfl) rfl rfl ((agT _ (by decide)).trans rfl) (fun w hs => hs.a0) ?_
  (try simp only [aP, aN, aT, aZ, aS])
  refine s_val (S := Gw W W.heap.size (W.heap.size + 1) x y) 2 (v := _) (by simp only [aG, aH, aI]; rfl) (by kernel_rfl) (by kernel_rfl) (by kernel_rfl) (by exact fun _ _ _ h => h) HG.out (by kernel_rfl) (fun w hs => by (repeat (rename ∀ (_ : Act) (_ : World), _ => hK9; clear hK9)); go_simp; rfl) ?_
  (try simp only [aP, aN, aT, aZ, aS])
  refine s_load (S := Gw W W.heap.size (W.heap.size + 1) x y) 3 (by simp only [aG, aH, aI]; rfl) (by kernel_rfl) (by kernel_rfl) (by kernel_rfl) (by exact fun _ _ _ h => h) HG.out (by kernel_rfl) rfl rfl ((agT _ (by decide)).trans rfl) (fun w hs => hs.b0) ?_
  (try simp only [aP, aN, aT, aZ, aS])
  refine s_val (S := Gw W W.heap.size (W.heap.size + 1) x y) 5 (v := _) (by simp only [aG, aH, aI]; rfl) (by kernel_rfl) (by kernel_rfl) (by kernel_rfl) (by exact fun _ _ _ h => h) HG.out (by kernel_rfl) (fun w hs => by (repeat (rename ∀ (_ : Act) (_ : World), _ => hK9; clear hK9)); go_simp; rfl) ?_
  (try simp only [aP, aN, aT, aZ, aS])
  refine s_load (S := Gw W W.heap.size (W.heap.size + 1) x y) 6 (by simp only [aG, aH, aI]; rfl) (by kernel_rfl) (by kernel_rfl) (by kernel_rfl) (by exact fun _ _ _ h => h) HG.out (by kernel_rfl) rfl rfl ((agT _ (by decide)).trans rfl) (fun w hs => hs.a1) ?_
  (try simp only [aP, aN, aT, aZ, aS])
  refine s_val (S := Gw W W.heap.size (W.heap.size + 1) x y) 7 (v := _) (by simp only [aG, aH, aI]; rfl) (by kernel_rfl) (by kernel_rfl) (by kernel_rfl) (by exact fun _ _ _ h => h) HG.out (by kernel_rfl) (fun w hs => by (repeat (rename ∀ (_ : Act) (_ : World), _ => hK9; clear hK9)); go_simp; rfl) ?_
  (try simp only [aP, aN, aT, aZ, aS])
  refine s_load (S := Gw W W.heap.size (W.heap.size + 1) x y) 8 (by simp only [aG, aH, aI]; rfl) (by kernel_rfl) (by kernel_rfl) (by kernel_rfl) (by exact fun _ _ _ h => h) HG.out (by kernel_rfl) rfl rfl ((agT _ (by decide)).trans rfl) (fun w hs => hs.b1) ?_
  (try simp only [aP, aN, aT, aZ, aS])
  refine s_call (S := Gw W W.heap.size (W.heap.size + 1) x y) 4 (by simp only [aG, aH, aI]; rfl) (by kernel_rfl) (by kernel_rfl) rfl (vs := #[.int .i64 x.1, .int .i64 y.1]) (by kernel_rfl) (fnT _ (by decide)) (HC1.out _) (fun e w2 hpost => ?_); obtain ⟨rfl, rfl⟩ := hpost; refine ⟨_, rfl, HG.out, ?_⟩
  (try simp only [aP, aN, aT, aZ, aS])
  refine s_call (S := Gw W W.heap.size (W.heap.size + 1) x y) 9 (by simp only [aG, aH, aI]; rfl) (by kernel_rfl) (by kernel_rfl) rfl (vs := #[.int .i64 x.2, .int .i64 y.2]) (by kernel_rfl) (fnT _ (by decide)) (HC2.out _) (fun e w2 hpost => ?_); obtain ⟨rfl, rfl⟩ := hpost; refine ⟨_, rfl, HG.out, ?_⟩
  (try simp only [aP, aN, aT, aZ, aS])
  have HG2 := Aside0.mk (HG.out.alloc (.cells (List.toArray [.int .i64 c1, .int .i64 c2]) 3)); have HB := Aside0.mk (heap_alloc_new w2 (.cells (List.toArray [.int .i64 c1, .int .i64 c2]) 3)); refine s_run (S := Gw W W.heap.size (W.heap.size + 1) x y) 10 (by simp only [aG, aH, aI]; rfl) (by kernel_rfl) (by kernel_rfl) (v := .slice (some ⟨w2.heap.size, 0, none⟩) 2 2) (w1 := w2.alloc (.cells (List.toArray [.int .i64 c1, .int .i64 c2]) 3)) (by (repeat (rename ∀ (_ : Act) (_ : World), _ => hK9; clear hK9)); go_simp; try rfl) HG2.out ?_; clear HG; have HG := HG2; clear HG2; obtain ⟨g5, hg5⟩ : ∃ g5, w2.heap.size = g5 := ⟨_, rfl⟩; obtain ⟨w5, hw5⟩ : ∃ w5, w2.alloc (.cells (List.toArray [.int .i64 c1, .int .i64 c2]) 3) = w5 := ⟨_, rfl⟩; rw [hw5] at HG HB ⊢; rw [hg5] at HB ⊢; clear hg5 hw5
  (try simp only [aP, aN, aT, aZ, aS])
  refine s_call (S := Gw W W.heap.size (W.heap.size + 1) x y) 11 (by simp only [aG, aH, aI]; rfl) (by kernel_rfl) (by kernel_rfl) rfl (vs := #[.slice (some ⟨g5, 0, none⟩) 2 2]) (by kernel_rfl) (fnT _ (by decide)) (HOR.out g5 _ (by simp [World.cell?, HB.out]) (by simp [World.cell?, HB.out])) (fun e w6 hpost => ?_); obtain ⟨rfl, rfl⟩ := hpost; refine ⟨_, rfl, HG.out, ?_⟩
  (try simp only [aP, aN, aT, aZ, aS])
  refine s_val (S := Gw W W.heap.size (W.heap.size + 1) x y) 12 (v := _) (by simp only [aG, aH, aI]; rfl) (by kernel_rfl) (by kernel_rfl) (by kernel_rfl) (by exact fun _ _ _ h => h) HG.out (by kernel_rfl) (fun w hs => by (repeat (rename ∀ (_ : Act) (_ : World), _ => hK9; clear hK9)); go_simp; rfl) ?_
  (try simp only [aP, aN, aT, aZ, aS])
  refine wpAnyH_done (by kernel_rfl) ?_ _
  go_wp2
  go_ret
  exact ⟨by rw [HE.out]; rfl, HG.out.g⟩
end Go.Proofs.Ytkggchahhpmpbaa.Jue
