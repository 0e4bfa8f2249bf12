/- Lemmas towards the law: what of the text LeC it needs. -/
import Derived.Test.YtekjihmepdhmeaaLeBq
namespace Go.Proofs.Ytekjihmepdhmeaa.Led
open Go.RowKit Go.Proofs.YtekjihmepdhmeaaW.PrintWords Go.Proofs.Ytekjihmepdhmeaa.Sl
set_option linter.unusedVariables false
set_option linter.unusedSimpArgs false
theorem row_form {α : Type} {enc : α → List Value} {sz : Nat} {hl : ∀ x, (enc x).length = sz} {h1 : ∀ x, (enc x).all (·.oneCell') = true} {w0 w : World} {is : List HP} (HS : SH w0 w is) (n : Nat) {e : TypeId} {A : Option Addr} {m c : Nat} {xs : List α} {S : Nat → Prop} (hn : is[n]? = some (row (flk enc sz hl h1) e (.slice A m c) xs S)) :
    m = xs.length ∧ m ≤ c ∧ c ≤ 9223372036854775807 ∧ ((A = none ∧ c = 0) ∨ ∃ g, A = some ⟨g, 0, none⟩) := by
  have HO := HS.at n hn
  have hm := (Kd.R_reads' HO).1
  obtain ⟨hok, inner, hown, hr⟩ := HO
  rcases hown.2 with ⟨hv, h0⟩ | ⟨g, cap, cur, hv, hb, hh, hnc, hcm, hcs, hx⟩
  · injection hv with h1' h2 h3
    exact ⟨hm, by omega, by omega, .inl ⟨h1', h3⟩⟩
  · injection hv with h1' h2 h3
    subst h3
    exact ⟨hm, by omega, by simpa [maxLen] using hcm, .inr ⟨g, h1'⟩⟩
theorem take_end {α : Type} (l : List α) (x : α) {n : Nat} (h : n = l.length) : l.take n ++ x :: l.drop n = l ++ [x] := by
  subst h
  rw [List.take_length, List.drop_length]
set_option maxRecDepth 100000 in
theorem ovHeld (w : World) {g1 g : Nat} {csx cs : List Value} (h1 : w.heap[g1]? = some (.cells csx.toArray 72 (0, 0))) (h2 : w.heap[g]? = some (.cells cs.toArray 72 (0, 0))) (hne : g1 ≠ g) (hk : cs.length ≠ 0) (off la ca lb cb : Nat) :
    (callFunc 116 #[.slice (some ⟨g1, 0, none⟩) la ca, .slice (some ⟨g, off, none⟩) lb cb]).run Try.prog w = .ok (.value (.bool false)) w := by
  rw [run_callFunc_extern (P := Try.prog) (fn := Try.f116) (by kernel_rfl) (by kernel_rfl) (by kernel_rfl) (by kernel_rfl) (e := Extern.SlicesOverlaps.overlaps #[24, 24] #[4]) (by kernel_rfl),
    Go.Lib.run_overlaps_apart w 24 4 72 Try.underlying24 5 (fun w => by
      obtain ⟨i, hi, _, hz, _⟩ := info_parts infoHeld
      simp [sizeOf, typeInfo, hi, hz]) ⟨g1, 0, none⟩ ⟨g, off, none⟩ la ca lb cb hne 72 72 csx.length cs.length (by simp [World.shape?, h1]) (by simp [World.shape?, h2]) hk (by simp [World.frozen?, h1]) (by simp [World.frozen?, h1])]
  rfl
set_option maxHeartbeats 3200000 in
set_option maxRecDepth 100000 in
theorem insHeld_any {w0 : World} {F : HP} (A : Option Addr) (n c : Nat) (l : List Held) (S : Nat → Prop) (i g1 : Nat) (x : Held) (w : World) (HS0 : SH w0 w [row heldK 72 (.slice A n c) l S, blk g1 x.enc 72, F]) (hn : n ≤ 1000000) (hi : i ≤ n) :
    Calls Try.prog 113 #[.slice A n c, .int .i64 i, .slice (some ⟨g1, 0, none⟩) 1 1] w (fun e w' => ∃ A' c' S', e = .returned (.slice A' (n + 1) c') ∧ SH w0 w' [row heldK 72 (.slice A' (n + 1) c') (l.take i ++ x :: l.drop i) S', blk g1 x.enc 72, F]) := by
  obtain ⟨hm, hnc, hc63, hA⟩ := row_form (hl := Held.len) (h1 := Held.one) HS0 0 rfl
  obtain ⟨cx, hcx⟩ : ∃ cx, x.enc = cx := ⟨_, rfl⟩
  have HCL := Aside0.mk (show cx.length = 1 * 5 by rw [← hcx]; rfl)
  have HC1 := Aside0.mk (show cx.all (·.oneCell') = true by rw [← hcx]; exact Held.one x)
  rcases Nat.eq_or_lt_of_le hi with rfl | hlt
  · have HS := Aside0.mk HS0
    have HRX := Aside0.mk (show Rd Held.enc 5 w (some ⟨g1, 0, none⟩) 1 [x] from Rd.one Held.len x (HS0.blk 1 rfl))
    have HM := Aside0.mk hm
    have HCX := Aside0.mk hcx
    clear HS0 hcx hm hi
    rcases hA with ⟨rfl, rfl⟩ | ⟨g, rfl⟩
    · have hn0 : i = 0 := by omega
      subst hn0
      go_enter Try.func113, Try.ntmps113
      go_wp2_with (first | ((with_reducible refine gC (b := .append) rfl ?_); refine sh_append HS.out rfl rfl rfl 0 rfl rfl HRX.out Try.underlying24 infoHeld rfl (by decide) (by decide) (by have := HM.out; omega) ?_; clear HS; intro v1 w1 S1 HS1; (simp only [aZ, aS] at HS1); have HS := Aside0.mk HS1; clear HS1; try simp only [aP, aN, aT, aZ, aS]))
      go_ret
      obtain ⟨A1, c1, rfl, _, _⟩ := row_rd HS.out 0 rfl
      have hl0 := HM.out
      have HS1 := HS.out
      have e1 : (l ++ [x]).length = 0 + 1 := by rw [List.length_append, ← hl0]; rfl
      rw [e1] at HS1 ⊢
      rw [take_end l x hl0]
      exact ⟨_, _, _, rfl, HS1⟩
    · by_cases hci : c = i
      · subst hci
        go_enter Try.func113, Try.ntmps113
        go_wp2_with (first | ((with_reducible refine gC (b := .append) rfl ?_); refine sh_append HS.out rfl rfl rfl 0 rfl rfl HRX.out Try.underlying24 infoHeld rfl (by decide) (by decide) (by have := HM.out; omega) ?_; clear HS; intro v1 w1 S1 HS1; (simp only [aZ, aS] at HS1); have HS := Aside0.mk HS1; clear HS1; try simp only [aP, aN, aT, aZ, aS]))
        go_ret
        obtain ⟨A1, c1, rfl, _, _⟩ := row_rd HS.out 0 rfl
        have hl0 := HM.out
        have HS1 := HS.out
        have e1 : (l ++ [x]).length = c + 1 := by rw [List.length_append, ← hl0]; rfl
        rw [e1] at HS1 ⊢
        rw [take_end l x hl0]
        exact ⟨_, _, _, rfl, HS1⟩
      · go_enter Try.func113, Try.ntmps113
        go_wp2_with (first | ((with_reducible refine gC (b := .append) rfl ?_); refine sh_append HS.out rfl rfl rfl 0 rfl rfl HRX.out Try.underlying24 infoHeld rfl (by decide) (by decide) (by have := HM.out; omega) ?_; clear HS; intro v1 w1 S1 HS1; (simp only [aZ, aS] at HS1); have HS := Aside0.mk HS1; clear HS1; try simp only [aP, aN, aT, aZ, aS]))
        go_ret
        obtain ⟨A1, c1, rfl, _, _⟩ := row_rd HS.out 0 rfl
        have hl0 := HM.out
        have HS1 := HS.out
        have e1 : (l ++ [x]).length = i + 1 := by rw [List.length_append, ← hl0]; rfl
        rw [e1] at HS1 ⊢
        rw [take_end l x hl0]
        exact ⟨_, _, _, rfl, HS1⟩
  · obtain ⟨g, tl, rfl, hm2, _, _, hlen, HS1⟩ := HS0.rowBlkF (hl := Held.len) (h1 := Held.one) 0 rfl (by omega)
    simp only [aZ] at HS1
    have HNE := Aside0.mk (show g1 ≠ g from fun h => HS1.apart 1 0 _ _ (by decide) rfl rfl g1 rfl h)
    have HM := Aside0.mk hm
    have HLEN := Aside0.mk hlen
    have hil : i ≤ l.length := by omega
    have HSL := Aside0.mk (show ((l.drop i).flatMap Held.enc).length = (n - i) * 5 by rw [flat_drop Held.len, HM.out])
    have HTL := Aside0.mk (show n + 1 ≤ c → 5 ≤ tl.length by
      intro h
      have := length_flat Held.len l
      rw [List.length_append] at hlen
      omega)
    have HIC := Aside0.mk (fun ht => ins_cells Held.len l tl i hil x ht)
    have HIZ := Aside0.mk (fun zs tl' hz => insZ_cells Held.len l zs tl' i hil x hz)
    have HFC := Aside0.mk (fun (w : World) h => flat_cell Held.len l tl i hil (w := w) (g := g) (e := 72) h)
    have HTK := Aside0.mk (show (l.flatMap Held.enc ++ tl).take (i * 5) = (l.take i).flatMap Held.enc by
      rw [flat_split Held.enc l i, List.append_assoc, ← flat_take Held.len l i hil, List.take_left])
    have HONE := Aside0.mk (flat_one Held.one (l.drop i))
    obtain ⟨cs, hcs⟩ : ∃ cs, l.flatMap Held.enc ++ tl = cs := ⟨_, rfl⟩
    obtain ⟨seg, hseg⟩ : ∃ seg, (l.drop i).flatMap Held.enc = seg := ⟨_, rfl⟩
    obtain ⟨hd, hhd⟩ : ∃ hd, (l.take i).flatMap Held.enc = hd := ⟨_, rfl⟩
    rw [hcs] at HLEN HIC HS1 HFC HTK
    rw [hseg] at HSL HIC HFC HONE HIZ
    rw [hhd] at HTK HIZ
    rw [hcx] at HS1 HIC HIZ
    have HS := Aside0.mk HS1
    have HCX := Aside0.mk hcx
    clear HS0 HS1 hcs hseg hm hm2 hhd hcx hlen hA
    have hb1 : ¬ (c = i) := by omega
    have hb2 : ¬ (i = n) := by omega
    have hb3 : (↑i == (↑n : Int)) = false := beq_eq_false_iff_ne.2 (by omega)
    have q1 : (i : Int) ≤ (n : Int) := by omega
    have q2 : i ≤ n := by omega
    by_cases hroom : n + 1 ≤ c
    · have hr1 : decide ((c : Int) < (n : Int) + 1) = false := decide_eq_false (by omega)
      have q3 : (0 : Int) ≤ (n : Int) + 1 := by omega
      have q4 : (n : Int) + 1 ≤ (c : Int) := by omega
      have q5 : (0 : Int) ≤ (i : Int) + 1 := by omega
      have q6 : (i : Int) + 1 ≤ (n : Int) + 1 := by omega
      have q7 : (i : Int) ≤ (n : Int) + 1 := by omega
      have q8 : i ≤ n + 1 := by omega
      have hb4 : ¬ (c = i + 1) := by omega
      have qw : IntKind.i64.wrap ((i : Int) + 1) = (i : Int) + 1 := IntWalk.i64_in _ (by omega)
      have HOV := Aside0.mk (fun off la ca lb cb => ovHeld w (HS.out.blk 1 rfl) (HS.out.blk 0 rfl) HNE.out (by have := HLEN.out; omega) off la ca lb cb)
      go_enter Try.func113, Try.ntmps113
      go_upto_region 15 with (simp only [HOV.out])
      have HC := Aside0.mk (HS.out.pick [] rfl (by decide))
      refine held_start mixed HC.out (fun HC1 => ?_)
      have HS1 := HS.out.drew
      clear HS HC
      have HS := Aside0.mk HS1
      have HC := Aside0.mk HC1
      clear HS1 HC1
      refine h_val 0 (v := _) (by simp only [aG, aH, aI]; rfl) (by kernel_rfl) (by kernel_rfl) (by kernel_rfl) (by exact fun _ _ _ h => h) HC.out (by kernel_rfl) (fun w hs => by (repeat (rename ∀ (_ : Act) (_ : World), _ => hK9; clear hK9)); go_simp; rfl) ?_
      (try simp only [aP, aN, aT, aZ, aS])
      refine h_val 1 (v := _) (by simp only [aG, aH, aI]; rfl) (by kernel_rfl) (by kernel_rfl) (by kernel_rfl) (by exact fun _ _ _ h => h) HC.out (by kernel_rfl) (fun w hs => by (repeat (rename ∀ (_ : Act) (_ : World), _ => hK9; clear hK9)); go_simp; rfl) ?_
      (try simp only [aP, aN, aT, aZ, aS])
      refine h_val 2 (v := _) (by simp only [aG, aH, aI]; rfl) (by kernel_rfl) (by kernel_rfl) (by kernel_rfl) (by exact fun _ _ _ h => h) HC.out (by kernel_rfl) (fun w hs => by (repeat (rename ∀ (_ : Act) (_ : World), _ => hK9; clear hK9)); go_simp; rfl) ?_
      (try simp only [aP, aN, aT, aZ, aS])
      refine h_val 3 (v := _) (by simp only [aG, aH, aI]; rfl) (by kernel_rfl) (by kernel_rfl) (by kernel_rfl) (by exact fun _ _ _ h => h) HC.out (by kernel_rfl) (fun w hs => by (repeat (rename ∀ (_ : Act) (_ : World), _ => hK9; clear hK9)); go_simp; rfl) ?_
      (try simp only [aP, aN, aT, aZ, aS])
      refine h_val 4 (v := _) (by simp only [aG, aH, aI]; rfl) (by kernel_rfl) (by kernel_rfl) (by kernel_rfl) (by exact fun _ _ _ h => h) HC.out (by kernel_rfl) (fun w hs => by (repeat (rename ∀ (_ : Act) (_ : World), _ => hK9; clear hK9)); go_simp; rfl) ?_
      (try simp only [aP, aN, aT, aZ, aS])
      refine h_val 5 (v := _) (by simp only [aG, aH, aI]; rfl) (by kernel_rfl) (by kernel_rfl) (by kernel_rfl) (by exact fun _ _ _ h => h) HC.out (by kernel_rfl) (fun w hs => by (repeat (rename ∀ (_ : Act) (_ : World), _ => hK9; clear hK9)); go_simp; rfl) ?_
      (try simp only [aP, aN, aT, aZ, aS])
      refine h_val 6 (v := _) (by simp only [aG, aH, aI]; rfl) (by kernel_rfl) (by kernel_rfl) (by kernel_rfl) (by exact fun _ _ _ h => h) HC.out (by kernel_rfl) (fun w hs => by (repeat (rename ∀ (_ : Act) (_ : World), _ => hK9; clear hK9)); go_simp; rfl) ?_
      (try simp only [aP, aN, aT, aZ, aS])
      refine h_val 7 (v := _) (by simp only [aG, aH, aI]; rfl) (by kernel_rfl) (by kernel_rfl) (by kernel_rfl) (by exact fun _ _ _ h => h) HC.out (by kernel_rfl) (fun w hs => by (repeat (rename ∀ (_ : Act) (_ : World), _ => hK9; clear hK9)); go_simp; rfl) ?_
      (try simp only [aP, aN, aT, aZ, aS])
      refine h_one 8 (by simp only [aG, aH, aI]; rfl) (by kernel_rfl) ?_
      ((with_reducible refine gCb (b := .copy) rfl ?_); refine sh_copyG HS.out rfl rfl rfl rfl 0 rfl Try.underlying24 (sz := 5) ((szT _ (by decide)).trans rfl) (n - i) (by simp only [Nat.min_def]; split <;> omega) seg HSL.out (HFC.out _ (HS.out.blk 0 rfl)) HONE.out (by have := HLEN.out; omega) ?_; clear HS; intro w1 HS1; (simp only [aZ, aS] at HS1); have HS := Aside0.mk HS1; clear HS1; (try simp only [aP, aN, aT, aZ, aS]))
      have HC1 := HS.out.pick [] rfl (by decide)
      clear HC
      have HC := Aside0.mk HC1
      clear HC1
      refine only_nil HC.out ?_
      (try simp only [aP, aN, aT, aZ, aS])
      refine wpAnyH_done (by kernel_rfl) ?_ _
      go_wp2_with (first | ((with_reducible refine gCb (b := .copy) rfl ?_); refine sh_copyG HS.out rfl rfl rfl rfl 0 rfl Try.underlying24 (sz := 5) ((szT _ (by decide)).trans rfl) 1 (by simp only [Nat.min_def]; split <;> omega) cx HCL.out (fun j v hj => by rw [add_plain2, Nat.zero_add, blk_cell (HS.out.blk 1 rfl)]; simpa using hj) HC1.out (by rw [length_putSeg _ _ _ (by have := HSL.out; have := HLEN.out; omega), HLEN.out]; omega) ?_; clear HS; intro w1 HS1; (simp only [aZ, aS] at HS1); have HS := Aside0.mk HS1; clear HS1; (try simp only [aP, aN, aT, aZ, aS])))
      go_ret
      obtain ⟨tl', e1, e2⟩ := HIC.out (HTL.out hroom)
      have HS2 := HS.out
      rw [e1] at HS2
      have HS3 := HS2.blkRowF Held.len Held.one 0 rfl (l.take i ++ x :: l.drop i) tl' (k := n + 1) (c := c) (by have := HM.out; simp only [List.length_append, List.length_cons, List.length_take, List.length_drop]; omega) rfl (by rw [e2, HLEN.out]) hroom hc63
      rw [HCX.out]
      exact ⟨_, _, _, rfl, HS3⟩
    · have hr1 : decide ((c : Int) < (n : Int) + 1) = true := decide_eq_true (by omega)
      have q3 : i ≤ c := by omega
      have q5 : (0 : Int) ≤ (i : Int) + 1 := by omega
      have q6 : (i : Int) + 1 ≤ (n : Int) + 1 := by omega
      have q7 : (i : Int) ≤ (n : Int) + 1 := by omega
      have q8 : i ≤ n + 1 := by omega
      go_enter Try.func113, Try.ntmps113
      have qw : IntKind.i64.wrap ((i : Int) + 1) = (i : Int) + 1 := IntWalk.i64_in _ (by omega)
      have HCAST := Aside0.mk (show (n : Int) + 1 - (i : Int) = ((n + 1 - i : Nat) : Int) by omega)
      have HADD := Aside0.mk (show i + (n + 1 - i) = n + 1 by omega)
      go_upto_region 10 with (first | ((with_reducible refine gC (b := .append) rfl ?_); rw [HCAST.out]; refine sh_appZ HS.out rfl rfl rfl rfl 0 rfl Try.underlying24 (show Try.prog.underlying 3 = some (.int .i64) by kernel_rfl) infoHeld rfl (by decide) (by decide) (by omega) (by omega) (by have := HLEN.out; omega) (by omega) ?_; clear HS; intro g' c' w1 zs tlz hzs hc1 hc2 hcl HS1; rw [HTK.out] at hcl HS1; rw [HADD.out] at hc1 ⊢; (simp only [aC, aE] at HS1); have HS := Aside0.mk HS1; clear HS1))
      have hb5 : ¬ (c' = i) := by omega
      have hb6 : ¬ (c' = i + 1) := by omega
      have HCL2 := Aside0.mk hcl
      have HZL := Aside0.mk hzs
      clear hcl hzs
      obtain ⟨cz, hcz⟩ : ∃ cz, hd ++ zs ++ tlz = cz := ⟨_, rfl⟩
      have HIZ2 := Aside0.mk (HIZ.out zs tlz (by rw [HZL.out, HM.out]))
      clear HIZ
      rw [hcz] at HCL2 HS HIZ2
      clear hcz HZL
      go_upto_region 11 with (first | ((with_reducible refine gCb (b := .copy) rfl ?_); refine sh_copyG HS.out rfl rfl rfl rfl 3 rfl Try.underlying24 (sz := 5) ((szT _ (by decide)).trans rfl) 1 (by simp only [Nat.min_def]; split <;> omega) cx HCL.out (fun j v hj => by rw [add_plain2, Nat.zero_add, blk_cell (HS.out.blk 1 rfl)]; simpa using hj) HC1.out (by have := HCL2.out; omega) ?_; clear HS; intro w1 HS1; (simp only [aZ, aS] at HS1); have HS := Aside0.mk HS1; clear HS1; (try simp only [aP, aN, aT, aZ, aS])))
      have HC := Aside0.mk (HS.out.pick [] rfl (by decide))
      refine held_start mixed HC.out (fun HC1 => ?_)
      have HS1 := HS.out.drew
      clear HS HC
      have HS := Aside0.mk HS1
      have HC := Aside0.mk HC1
      clear HS1 HC1
      refine h_val 0 (v := _) (by simp only [aG, aH, aI]; rfl) (by kernel_rfl) (by kernel_rfl) (by kernel_rfl) (by exact fun _ _ _ h => h) HC.out (by kernel_rfl) (fun w hs => by (repeat (rename ∀ (_ : Act) (_ : World), _ => hK9; clear hK9)); go_simp; rfl) ?_
      (try simp only [aP, aN, aT, aZ, aS])
      refine h_val 1 (v := _) (by simp only [aG, aH, aI]; rfl) (by kernel_rfl) (by kernel_rfl) (by kernel_rfl) (by exact fun _ _ _ h => h) HC.out (by kernel_rfl) (fun w hs => by (repeat (rename ∀ (_ : Act) (_ : World), _ => hK9; clear hK9)); go_simp; rfl) ?_
      (try simp only [aP, aN, aT, aZ, aS])
      refine h_val 2 (v := _) (by simp only [aG, aH, aI]; rfl) (by kernel_rfl) (by kernel_rfl) (by kernel_rfl) (by exact fun _ _ _ h => h) HC.out (by kernel_rfl) (fun w hs => by (repeat (rename ∀ (_ : Act) (_ : World), _ => hK9; clear hK9)); go_simp; rfl) ?_
      (try simp only [aP, aN, aT, aZ, aS])
      refine h_val 3 (v := _) (by simp only [aG, aH, aI]; rfl) (by kernel_rfl) (by kernel_rfl) (by kernel_rfl) (by exact fun _ _ _ h => h) HC.out (by kernel_rfl) (fun w hs => by (repeat (rename ∀ (_ : Act) (_ : World), _ => hK9; clear hK9)); go_simp; rfl) ?_
      (try simp only [aP, aN, aT, aZ, aS])
      refine h_val 4 (v := _) (by simp only [aG, aH, aI]; rfl) (by kernel_rfl) (by kernel_rfl) (by kernel_rfl) (by exact fun _ _ _ h => h) HC.out (by kernel_rfl) (fun w hs => by (repeat (rename ∀ (_ : Act) (_ : World), _ => hK9; clear hK9)); go_simp; rfl) ?_
      (try simp only [aP, aN, aT, aZ, aS])
      refine h_val 5 (v := _) (by simp only [aG, aH, aI]; rfl) (by kernel_rfl) (by kernel_rfl) (by kernel_rfl) (by exact fun _ _ _ h => h) HC.out (by kernel_rfl) (fun w hs => by (repeat (rename ∀ (_ : Act) (_ : World), _ => hK9; clear hK9)); go_simp; rfl) ?_
      (try simp only [aP, aN, aT, aZ, aS])
      refine h_val 6 (v := _) (by simp only [aG, aH, aI]; rfl) (by kernel_rfl) (by kernel_rfl) (by kernel_rfl) (by exact fun _ _ _ h => h) HC.out (by kernel_rfl) (fun w hs => by (repeat (rename ∀ (_ : Act) (_ : World), _ => hK9; clear hK9)); go_simp; rfl) ?_
      (try simp only [aP, aN, aT, aZ, aS])
      refine h_val 7 (v := _) (by simp only [aG, aH, aI]; rfl) (by kernel_rfl) (by kernel_rfl) (by kernel_rfl) (by exact fun _ _ _ h => h) HC.out (by kernel_rfl) (fun w hs => by (repeat (rename ∀ (_ : Act) (_ : World), _ => hK9; clear hK9)); go_simp; rfl) ?_
      (try simp only [aP, aN, aT, aZ, aS])
      refine h_one 8 (by simp only [aG, aH, aI]; rfl) (by kernel_rfl) ?_
      ((with_reducible refine gCb (b := .copy) rfl ?_); refine sh_copyG HS.out rfl rfl rfl rfl 3 rfl Try.underlying24 (sz := 5) ((szT _ (by decide)).trans rfl) (n - i) (by simp only [Nat.min_def]; split <;> omega) seg HSL.out (HFC.out _ (HS.out.blk 0 rfl)) HONE.out (by rw [length_putSeg _ _ _ (by have := HCL.out; have := HCL2.out; omega), HCL2.out]; omega) ?_; clear HS; intro w1 HS1; (simp only [aZ, aS] at HS1); have HS := Aside0.mk HS1; clear HS1; (try simp only [aP, aN, aT, aZ, aS]))
      have HC1 := HS.out.pick [] rfl (by decide)
      clear HC
      have HC := Aside0.mk HC1
      clear HC1
      refine only_nil HC.out ?_
      (try simp only [aP, aN, aT, aZ, aS])
      refine wpAnyH_done (by kernel_rfl) ?_ _
      go_wp2
      go_ret
      obtain ⟨tl', e1, e2⟩ := HIZ2.out
      have HS2 := HS.out
      rw [e1] at HS2
      have HS4 := HS2.pick [3, 1, 2] rfl (by decide)
      have HS3 := HS4.blkRowF Held.len Held.one 0 rfl (l.take i ++ x :: l.drop i) tl' (k := n + 1) (c := c') (by have := HM.out; simp only [List.length_append, List.length_cons, List.length_take, List.length_drop]; omega) rfl (by rw [e2, HCL2.out]) hc1 hc2
      rw [HCX.out]
      exact ⟨_, _, _, rfl, HS3⟩
set_option maxRecDepth 100000 in
theorem ovLast (w : World) {g1 g : Nat} {csx cs : List Value} (h1 : w.heap[g1]? = some (.cells csx.toArray 76 (0, 0))) (h2 : w.heap[g]? = some (.cells cs.toArray 76 (0, 0))) (hne : g1 ≠ g) (hk : cs.length ≠ 0) (off la ca lb cb : Nat) :
    (callFunc 101 #[.slice (some ⟨g1, 0, none⟩) la ca, .slice (some ⟨g, off, none⟩) lb cb]).run Try.prog w = .ok (.value (.bool false)) w := by
  rw [run_callFunc_extern (P := Try.prog) (fn := Try.f101) (by kernel_rfl) (by kernel_rfl) (by kernel_rfl) (by kernel_rfl) (e := Extern.SlicesOverlaps.overlaps #[25, 25] #[4]) (by kernel_rfl),
    Go.Lib.run_overlaps_apart w 25 4 76 Try.underlying25 6 (fun w => by
      obtain ⟨i, hi, _, hz, _⟩ := info_parts infoLast
      simp [sizeOf, typeInfo, hi, hz]) ⟨g1, 0, none⟩ ⟨g, off, none⟩ la ca lb cb hne 76 76 csx.length cs.length (by simp [World.shape?, h1]) (by simp [World.shape?, h2]) hk (by simp [World.frozen?, h1]) (by simp [World.frozen?, h1])]
  rfl
set_option maxHeartbeats 3200000 in
set_option maxRecDepth 100000 in
theorem insLast_any {w0 : World} {F : HP} (A : Option Addr) (n c : Nat) (l : List Last) (S : Nat → Prop) (i g1 : Nat) (x : Last) (w : World) (HS0 : SH w0 w [row lastK 76 (.slice A n c) l S, blk g1 x.enc 76, F]) (hn : n ≤ 1000000) (hi : i ≤ n) :
    Calls Try.prog 83 #[.slice A n c, .int .i64 i, .slice (some ⟨g1, 0, none⟩) 1 1] w (fun e w' => ∃ A' c' S', e = .returned (.slice A' (n + 1) c') ∧ SH w0 w' [row lastK 76 (.slice A' (n + 1) c') (l.take i ++ x :: l.drop i) S', blk g1 x.enc 76, F]) := by
  obtain ⟨hm, hnc, hc63, hA⟩ := row_form (hl := Last.len) (h1 := Last.one) HS0 0 rfl
  obtain ⟨cx, hcx⟩ : ∃ cx, x.enc = cx := ⟨_, rfl⟩
  have HCL := Aside0.mk (show cx.length = 1 * 6 by rw [← hcx]; rfl)
  have HC1 := Aside0.mk (show cx.all (·.oneCell') = true by rw [← hcx]; exact Last.one x)
  rcases Nat.eq_or_lt_of_le hi with rfl | hlt
  · have HS := Aside0.mk HS0
    have HRX := Aside0.mk (show Rd Last.enc 6 w (some ⟨g1, 0, none⟩) 1 [x] from Rd.one Last.len x (HS0.blk 1 rfl))
    have HM := Aside0.mk hm
    have HCX := Aside0.mk hcx
    clear HS0 hcx hm hi
    rcases hA with ⟨rfl, rfl⟩ | ⟨g, rfl⟩
    · have hn0 : i = 0 := by omega
      subst hn0
      go_enter Try.func83, Try.ntmps83
      go_wp2_with (first | ((with_reducible refine gC (b := .append) rfl ?_); refine sh_append HS.out rfl rfl rfl 0 rfl rfl HRX.out Try.underlying25 infoLast rfl (by decide) (by decide) (by have := HM.out; omega) ?_; clear HS; intro v1 w1 S1 HS1; (simp only [aZ, aS] at HS1); have HS := Aside0.mk HS1; clear HS1; try simp only [aP, aN, aT, aZ, aS]))
      go_ret
      obtain ⟨A1, c1, rfl, _, _⟩ := row_rd HS.out 0 rfl
      have hl0 := HM.out
      have HS1 := HS.out
      have e1 : (l ++ [x]).length = 0 + 1 := by rw [List.length_append, ← hl0]; rfl
      rw [e1] at HS1 ⊢
      rw [take_end l x hl0]
      exact ⟨_, _, _, rfl, HS1⟩
    · by_cases hci : c = i
      · subst hci
        go_enter Try.func83, Try.ntmps83
        go_wp2_with (first | ((with_reducible refine gC (b := .append) rfl ?_); refine sh_append HS.out rfl rfl rfl 0 rfl rfl HRX.out Try.underlying25 infoLast rfl (by decide) (by decide) (by have := HM.out; omega) ?_; clear HS; intro v1 w1 S1 HS1; (simp only [aZ, aS] at HS1); have HS := Aside0.mk HS1; clear HS1; try simp only [aP, aN, aT, aZ, aS]))
        go_ret
        obtain ⟨A1, c1, rfl, _, _⟩ := row_rd HS.out 0 rfl
        have hl0 := HM.out
        have HS1 := HS.out
        have e1 : (l ++ [x]).length = c + 1 := by rw [List.length_append, ← hl0]; rfl
        rw [e1] at HS1 ⊢
        rw [take_end l x hl0]
        exact ⟨_, _, _, rfl, HS1⟩
      · go_enter Try.func83, Try.ntmps83
        go_wp2_with (first | ((with_reducible refine gC (b := .append) rfl ?_); refine sh_append HS.out rfl rfl rfl 0 rfl rfl HRX.out Try.underlying25 infoLast rfl (by decide) (by decide) (by have := HM.out; omega) ?_; clear HS; intro v1 w1 S1 HS1; (simp only [aZ, aS] at HS1); have HS := Aside0.mk HS1; clear HS1; try simp only [aP, aN, aT, aZ, aS]))
        go_ret
        obtain ⟨A1, c1, rfl, _, _⟩ := row_rd HS.out 0 rfl
        have hl0 := HM.out
        have HS1 := HS.out
        have e1 : (l ++ [x]).length = i + 1 := by rw [List.length_append, ← hl0]; rfl
        rw [e1] at HS1 ⊢
        rw [take_end l x hl0]
        exact ⟨_, _, _, rfl, HS1⟩
  · obtain ⟨g, tl, rfl, hm2, _, _, hlen, HS1⟩ := HS0.rowBlkF (hl := Last.len) (h1 := Last.one) 0 rfl (by omega)
    simp only [aZ] at HS1
    have HNE := Aside0.mk (show g1 ≠ g from fun h => HS1.apart 1 0 _ _ (by decide) rfl rfl g1 rfl h)
    have HM := Aside0.mk hm
    have HLEN := Aside0.mk hlen
    have hil : i ≤ l.length := by omega
    have HSL := Aside0.mk (show ((l.drop i).flatMap Last.enc).length = (n - i) * 6 by rw [flat_drop Last.len, HM.out])
    have HTL := Aside0.mk (show n + 1 ≤ c → 6 ≤ tl.length by
      intro h
      have := length_flat Last.len l
      rw [List.length_append] at hlen
      omega)
    have HIC := Aside0.mk (fun ht => ins_cells Last.len l tl i hil x ht)
    have HIZ := Aside0.mk (fun zs tl' hz => insZ_cells Last.len l zs tl' i hil x hz)
    have HFC := Aside0.mk (fun (w : World) h => flat_cell Last.len l tl i hil (w := w) (g := g) (e := 76) h)
    have HTK := Aside0.mk (show (l.flatMap Last.enc ++ tl).take (i * 6) = (l.take i).flatMap Last.enc by
      rw [flat_split Last.enc l i, List.append_assoc, ← flat_take Last.len l i hil, List.take_left])
    have HONE := Aside0.mk (flat_one Last.one (l.drop i))
    obtain ⟨cs, hcs⟩ : ∃ cs, l.flatMap Last.enc ++ tl = cs := ⟨_, rfl⟩
    obtain ⟨seg, hseg⟩ : ∃ seg, (l.drop i).flatMap Last.enc = seg := ⟨_, rfl⟩
    obtain ⟨hd, hhd⟩ : ∃ hd, (l.take i).flatMap Last.enc = hd := ⟨_, rfl⟩
    rw [hcs] at HLEN HIC HS1 HFC HTK
    rw [hseg] at HSL HIC HFC HONE HIZ
    rw [hhd] at HTK HIZ
    rw [hcx] at HS1 HIC HIZ
    have HS := Aside0.mk HS1
    have HCX := Aside0.mk hcx
    clear HS0 HS1 hcs hseg hm hm2 hhd hcx hlen hA
    have hb1 : ¬ (c = i) := by omega
    have hb2 : ¬ (i = n) := by omega
    have hb3 : (↑i == (↑n : Int)) = false := beq_eq_false_iff_ne.2 (by omega)
    have q1 : (i : Int) ≤ (n : Int) := by omega
    have q2 : i ≤ n := by omega
    by_cases hroom : n + 1 ≤ c
    · have hr1 : decide ((c : Int) < (n : Int) + 1) = false := decide_eq_false (by omega)
      have q3 : (0 : Int) ≤ (n : Int) + 1 := by omega
      have q4 : (n : Int) + 1 ≤ (c : Int) := by omega
      have q5 : (0 : Int) ≤ (i : Int) + 1 := by omega
      have q6 : (i : Int) + 1 ≤ (n : Int) + 1 := by omega
      have q7 : (i : Int) ≤ (n : Int) + 1 := by omega
      have q8 : i ≤ n + 1 := by omega
      have hb4 : ¬ (c = i + 1) := by omega
      have qw : IntKind.i64.wrap ((i : Int) + 1) = (i : Int) + 1 := IntWalk.i64_in _ (by omega)
      have HOV := Aside0.mk (fun off la ca lb cb => ovLast w (HS.out.blk 1 rfl) (HS.out.blk 0 rfl) HNE.out (by have := HLEN.out; omega) off la ca lb cb)
      go_enter Try.func83, Try.ntmps83
      go_upto_region 15 with (simp only [HOV.out])
      have HC := Aside0.mk (HS.out.pick [] rfl (by decide))
      refine held_start mixed HC.out (fun HC1 => ?_)
      have HS1 := HS.out.drew
      clear HS HC
      have HS := Aside0.mk HS1
      have HC := Aside0.mk HC1
      clear HS1 HC1
      refine h_val 0 (v := _) (by simp only [aG, aH, aI]; rfl) (by kernel_rfl) (by kernel_rfl) (by kernel_rfl) (by exact fun _ _ _ h => h) HC.out (by kernel_rfl) (fun w hs => by (repeat (rename ∀ (_ : Act) (_ : World), _ => hK9; clear hK9)); go_simp; rfl) ?_
      (try simp only [aP, aN, aT, aZ, aS])
      refine h_val 1 (v := _) (by simp only [aG, aH, aI]; rfl) (by kernel_rfl) (by kernel_rfl) (by kernel_rfl) (by exact fun _ _ _ h => h) HC.out (by kernel_rfl) (fun w hs => by (repeat (rename ∀ (_ : Act) (_ : World), _ => hK9; clear hK9)); go_simp; rfl) ?_
      (try simp only [aP, aN, aT, aZ, aS])
      refine h_val 2 (v := _) (by simp only [aG, aH, aI]; rfl) (by kernel_rfl) (by kernel_rfl) (by kernel_rfl) (by exact fun _ _ _ h => h) HC.out (by kernel_rfl) (fun w hs => by (repeat (rename ∀ (_ : Act) (_ : World), _ => hK9; clear hK9)); go_simp; rfl) ?_
      (try simp only [aP, aN, aT, aZ, aS])
      refine h_val 3 (v := _) (by simp only [aG, aH, aI]; rfl) (by kernel_rfl) (by kernel_rfl) (by kernel_rfl) (by exact fun _ _ _ h => h) HC.out (by kernel_rfl) (fun w hs => by (repeat (rename ∀ (_ : Act) (_ : World), _ => hK9; clear hK9)); go_simp; rfl) ?_
      (try simp only [aP, aN, aT, aZ, aS])
      refine h_val 4 (v := _) (by simp only [aG, aH, aI]; rfl) (by kernel_rfl) (by kernel_rfl) (by kernel_rfl) (by exact fun _ _ _ h => h) HC.out (by kernel_rfl) (fun w hs => by (repeat (rename ∀ (_ : Act) (_ : World), _ => hK9; clear hK9)); go_simp; rfl) ?_
      (try simp only [aP, aN, aT, aZ, aS])
      refine h_val 5 (v := _) (by simp only [aG, aH, aI]; rfl) (by kernel_rfl) (by kernel_rfl) (by kernel_rfl) (by exact fun _ _ _ h => h) HC.out (by kernel_rfl) (fun w hs => by (repeat (rename ∀ (_ : Act) (_ : World), _ => hK9; clear hK9)); go_simp; rfl) ?_
      (try simp only [aP, aN, aT, aZ, aS])
      refine h_val 6 (v := _) (by simp only [aG, aH, aI]; rfl) (by kernel_rfl) (by kernel_rfl) (by kernel_rfl) (by exact fun _ _ _ h => h) HC.out (by kernel_rfl) (fun w hs => by (repeat (rename ∀ (_ : Act) (_ : World), _ => hK9; clear hK9)); go_simp; rfl) ?_
      (try simp only [aP, aN, aT, aZ, aS])
      refine h_val 7 (v := _) (by simp only [aG, aH, aI]; rfl) (by kernel_rfl) (by kernel_rfl) (by kernel_rfl) (by exact fun _ _ _ h => h) HC.out (by kernel_rfl) (fun w hs => by (repeat (rename ∀ (_ : Act) (_ : World), _ => hK9; clear hK9)); go_simp; rfl) ?_
      (try simp only [aP, aN, aT, aZ, aS])
      refine h_one 8 (by simp only [aG, aH, aI]; rfl) (by kernel_rfl) ?_
      ((with_reducible refine gCb (b := .copy) rfl ?_); refine sh_copyG HS.out rfl rfl rfl rfl 0 rfl Try.underlying25 (sz := 6) ((szT _ (by decide)).trans rfl) (n - i) (by simp only [Nat.min_def]; split <;> omega) seg HSL.out (HFC.out _ (HS.out.blk 0 rfl)) HONE.out (by have := HLEN.out; omega) ?_; clear HS; intro w1 HS1; (simp only [aZ, aS] at HS1); have HS := Aside0.mk HS1; clear HS1; (try simp only [aP, aN, aT, aZ, aS]))
      have HC1 := HS.out.pick [] rfl (by decide)
      clear HC
      have HC := Aside0.mk HC1
      clear HC1
      refine only_nil HC.out ?_
      (try simp only [aP, aN, aT, aZ, aS])
      refine wpAnyH_done (by kernel_rfl) ?_ _
      go_wp2_with (first | ((with_reducible refine gCb (b := .copy) rfl ?_); refine sh_copyG HS.out rfl rfl rfl rfl 0 rfl Try.underlying25 (sz := 6) ((szT _ (by decide)).trans rfl) 1 (by simp only [Nat.min_def]; split <;> omega) cx HCL.out (fun j v hj => by rw [add_plain2, Nat.zero_add, blk_cell (HS.out.blk 1 rfl)]; simpa using hj) HC1.out (by rw [length_putSeg _ _ _ (by have := HSL.out; have := HLEN.out; omega), HLEN.out]; omega) ?_; clear HS; intro w1 HS1; (simp only [aZ, aS] at HS1); have HS := Aside0.mk HS1; clear HS1; (try simp only [aP, aN, aT, aZ, aS])))
      go_ret
      obtain ⟨tl', e1, e2⟩ := HIC.out (HTL.out hroom)
      have HS2 := HS.out
      rw [e1] at HS2
      have HS3 := HS2.blkRowF Last.len Last.one 0 rfl (l.take i ++ x :: l.drop i) tl' (k := n + 1) (c := c) (by have := HM.out; simp only [List.length_append, List.length_cons, List.length_take, List.length_drop]; omega) rfl (by rw [e2, HLEN.out]) hroom hc63
      rw [HCX.out]
      exact ⟨_, _, _, rfl, HS3⟩
    · have hr1 : decide ((c : Int) < (n : Int) + 1) = true := decide_eq_true (by omega)
      have q3 : i ≤ c := by omega
      have q5 : (0 : Int) ≤ (i : Int) + 1 := by omega
      have q6 : (i : Int) + 1 ≤ (n : Int) + 1 := by omega
      have q7 : (i : Int) ≤ (n : Int) + 1 := by omega
      have q8 : i ≤ n + 1 := by omega
      go_enter Try.func83, Try.ntmps83
      have qw : IntKind.i64.wrap ((i : Int) + 1) = (i : Int) + 1 := IntWalk.i64_in _ (by omega)
      have HCAST := Aside0.mk (show (n : Int) + 1 - (i : Int) = ((n + 1 - i : Nat) : Int) by omega)
      have HADD := Aside0.mk (show i + (n + 1 - i) = n + 1 by omega)
      go_upto_region 10 with (first | ((with_reducible refine gC (b := .append) rfl ?_); rw [HCAST.out]; refine sh_appZ HS.out rfl rfl rfl rfl 0 rfl Try.underlying25 (show Try.prog.underlying 3 = some (.int .i64) by kernel_rfl) infoLast rfl (by decide) (by decide) (by omega) (by omega) (by have := HLEN.out; omega) (by omega) ?_; clear HS; intro g' c' w1 zs tlz hzs hc1 hc2 hcl HS1; rw [HTK.out] at hcl HS1; rw [HADD.out] at hc1 ⊢; (simp only [aC, aE] at HS1); have HS := Aside0.mk HS1; clear HS1))
      have hb5 : ¬ (c' = i) := by omega
      have hb6 : ¬ (c' = i + 1) := by omega
      have HCL2 := Aside0.mk hcl
      have HZL := Aside0.mk hzs
      clear hcl hzs
      obtain ⟨cz, hcz⟩ : ∃ cz, hd ++ zs ++ tlz = cz := ⟨_, rfl⟩
      have HIZ2 := Aside0.mk (HIZ.out zs tlz (by rw [HZL.out, HM.out]))
      clear HIZ
      rw [hcz] at HCL2 HS HIZ2
      clear hcz HZL
      go_upto_region 11 with (first | ((with_reducible refine gCb (b := .copy) rfl ?_); refine sh_copyG HS.out rfl rfl rfl rfl 3 rfl Try.underlying25 (sz := 6) ((szT _ (by decide)).trans rfl) 1 (by simp only [Nat.min_def]; split <;> omega) cx HCL.out (fun j v hj => by rw [add_plain2, Nat.zero_add, blk_cell (HS.out.blk 1 rfl)]; simpa using hj) HC1.out (by have := HCL2.out; omega) ?_; clear HS; intro w1 HS1; (simp only [aZ, aS] at HS1); have HS := Aside0.mk HS1; clear HS1; (try simp only [aP, aN, aT, aZ, aS])))
      have HC := Aside0.mk (HS.out.pick [] rfl (by decide))
      refine held_start mixed HC.out (fun HC1 => ?_)
      have HS1 := HS.out.drew
      clear HS HC
      have HS := Aside0.mk HS1
      have HC := Aside0.mk HC1
      clear HS1 HC1
      refine h_val 0 (v := _) (by simp only [aG, aH, aI]; rfl) (by kernel_rfl) (by kernel_rfl) (by kernel_rfl) (by exact fun _ _ _ h => h) HC.out (by kernel_rfl) (fun w hs => by (repeat (rename ∀ (_ : Act) (_ : World), _ => hK9; clear hK9)); go_simp; rfl) ?_
      (try simp only [aP, aN, aT, aZ, aS])
      refine h_val 1 (v := _) (by simp only [aG, aH, aI]; rfl) (by kernel_rfl) (by kernel_rfl) (by kernel_rfl) (by exact fun _ _ _ h => h) HC.out (by kernel_rfl) (fun w hs => by (repeat (rename ∀ (_ : Act) (_ : World), _ => hK9; clear hK9)); go_simp; rfl) ?_
      (try simp only [aP, aN, aT, aZ, aS])
      refine h_val 2 (v := _) (by simp only [aG, aH, aI]; rfl) (by kernel_rfl) (by kernel_rfl) (by kernel_rfl) (by exact fun _ _ _ h => h) HC.out (by kernel_rfl) (fun w hs => by (repeat (rename ∀ (_ : Act) (_ : World), _ => hK9; clear hK9)); go_simp; rfl) ?_
      (try simp only [aP, aN, aT, aZ, aS])
      refine h_val 3 (v := _) (by simp only [aG, aH, aI]; rfl) (by kernel_rfl) (by kernel_rfl) (by kernel_rfl) (by exact fun _ _ _ h => h) HC.out (by kernel_rfl) (fun w hs => by (repeat (rename ∀ (_ : Act) (_ : World), _ => hK9; clear hK9)); go_simp; rfl) ?_
      (try simp only [aP, aN, aT, aZ, aS])
      refine h_val 4 (v := _) (by simp only [aG, aH, aI]; rfl) (by kernel_rfl) (by kernel_rfl) (by kernel_rfl) (by exact fun _ _ _ h => h) HC.out (by kernel_rfl) (fun w hs => by (repeat (rename ∀ (_ : Act) (_ : World), _ => hK9; clear hK9)); go_simp; rfl) ?_
      (try simp only [aP, aN, aT, aZ, aS])
      refine h_val 5 (v := _) (by simp only [aG, aH, aI]; rfl) (by kernel_rfl) (by kernel_rfl) (by kernel_rfl) (by exact fun _ _ _ h => h) HC.out (by kernel_rfl) (fun w hs => by (repeat (rename ∀ (_ : Act) (_ : World), _ => hK9; clear hK9)); go_simp; rfl) ?_
      (try simp only [aP, aN, aT, aZ, aS])
      refine h_val 6 (v := _) (by simp only [aG, aH, aI]; rfl) (by kernel_rfl) (by kernel_rfl) (by kernel_rfl) (by exact fun _ _ _ h => h) HC.out (by kernel_rfl) (fun w hs => by (repeat (rename ∀ (_ : Act) (_ : World), _ => hK9; clear hK9)); go_simp; rfl) ?_
      (try simp only [aP, aN, aT, aZ, aS])
      refine h_val 7 (v := _) (by simp only [aG, aH, aI]; rfl) (by kernel_rfl) (by kernel_rfl) (by kernel_rfl) (by exact fun _ _ _ h => h) HC.out (by kernel_rfl) (fun w hs => by (repeat (rename ∀ (_ : Act) (_ : World), _ => hK9; clear hK9)); go_simp; rfl) ?_
      (try simp only [aP, aN, aT, aZ, aS])
      refine h_one 8 (by simp only [aG, aH, aI]; rfl) (by kernel_rfl) ?_
      ((with_reducible refine gCb (b := .copy) rfl ?_); refine sh_copyG HS.out rfl rfl rfl rfl 3 rfl Try.underlying25 (sz := 6) ((szT _ (by decide)).trans rfl) (n - i) (by simp only [Nat.min_def]; split <;> omega) seg HSL.out (HFC.out _ (HS.out.blk 0 rfl)) HONE.out (by rw [length_putSeg _ _ _ (by have := HCL.out; have := HCL2.out; omega), HCL2.out]; omega) ?_; clear HS; intro w1 HS1; (simp only [aZ, aS] at HS1); have HS := Aside0.mk HS1; clear HS1; (try simp only [aP, aN, aT, aZ, aS]))
      have HC1 := HS.out.pick [] rfl (by decide)
      clear HC
      have HC := Aside0.mk HC1
      clear HC1
      refine only_nil HC.out ?_
      (try simp only [aP, aN, aT, aZ, aS])
      refine wpAnyH_done (by kernel_rfl) ?_ _
      go_wp2
      go_ret
      obtain ⟨tl', e1, e2⟩ := HIZ2.out
      have HS2 := HS.out
      rw [e1] at HS2
      have HS4 := HS2.pick [3, 1, 2] rfl (by decide)
      have HS3 := HS4.blkRowF Last.len Last.one 0 rfl (l.take i ++ x :: l.drop i) tl' (k := n + 1) (c := c') (by have := HM.out; simp only [List.length_append, List.length_cons, List.length_take, List.length_drop]; omega) rfl (by rw [e2, HCL2.out]) hc1 hc2
      rw [HCX.out]
      exact ⟨_, _, _, rfl, HS3⟩
end Go.Proofs.Ytekjihmepdhmeaa.Led
