/- Lemmas towards the law: what of the text DkU it needs. -/
import Derived.Test.YtgcgnhcjjlnloaaDoorDkTq
namespace Go.Proofs.YtgcgnhcjjlnloaaDoor.Dk
open Go.RowKit Go.Proofs.YtgcgnhcjjlnloaaDoorW.PrintWords Go.Proofs.YtgcgnhcjjlnloaaDoor.Sl
set_option linter.unusedVariables false
set_option linter.unusedSimpArgs false
theorem flat_take {α : Type} {enc : α → List Value} {sz : Nat} (hl : ∀ x, (enc x).length = sz) (xs : List α) (i : Nat) (hi : i ≤ xs.length) : ((xs.take i).flatMap enc).length = i * sz := by
  rw [length_flat hl, List.length_take, Nat.min_eq_left hi]
/-- one cell of an element is turned -/
theorem set_cells {α : Type} {enc : α → List Value} {sz : Nat} (hl : ∀ x, (enc x).length = sz) (xs : List α) (tl : List Value) (i j : Nat) (hi : i < xs.length) (z : α) (y : α) (v : Value) (hj : j < sz) (hy : enc y = (enc (xs.getD i z)).set j v) :
    (xs.flatMap enc ++ tl).set (i * sz + j) v = (xs.set i y).flatMap enc ++ tl := by
  have e2 := flat_take hl xs i (by omega)
  have hg : xs.getD i z = xs[i] := by rw [List.getD_eq_getElem?_getD, List.getElem?_eq_getElem hi, Option.getD_some]
  have e1 : xs = xs.take i ++ xs[i] :: xs.drop (i + 1) := by rw [← List.drop_eq_getElem_cons hi, List.take_append_drop]
  have e3 : xs.set i y = xs.take i ++ y :: xs.drop (i + 1) := by
    rw [List.set_eq_take_append_cons_drop, if_pos hi]
  have e4 : xs.flatMap enc ++ tl = (xs.take i).flatMap enc ++ (enc xs[i] ++ ((xs.drop (i + 1)).flatMap enc ++ tl)) := by
    conv => lhs; rw [e1]
    simp only [List.flatMap_append, List.flatMap_cons, List.append_assoc]
  rw [e4, e3, List.set_append, if_neg (by omega), e2, Nat.add_sub_cancel_left, List.set_append, if_pos (by rw [hl]; exact hj)]
  simp only [List.flatMap_append, List.flatMap_cons, List.append_assoc, hy, hg]
section
variable {P : Program} {ops : Array Oper} {rest : List Oper} {o : Oper} {a : Act} {Q : Exit → Act → World → Prop}
/-- A store into one cell of an element of a row of one's own. -/
theorem sh_storeE {α : Type} {enc : α → List Value} {sz : Nat} {hl : ∀ x, (enc x).length = sz} {h1 : ∀ x, (enc x).all (·.oneCell') = true} {w0 W : World} {is : List HP} (HS : SH w0 W is) (hw : Region.wanted o (yielded ops a.tmps) = true) (hN : o.dst = none) {t : TypeId} {p x : Operand} (ho : o.op = .store t p x)
    {ad : Addr} {i j : Nat} (haddr : a.eval p = .pointer (some (ad.add (i * sz + j)))) (n : Nat) {e : TypeId} {m c : Nat} {xs : List α} {S : Nat → Prop} (hn : is[n]? = some (row (flk enc sz hl h1) e (.slice (some ad) m c) xs S)) (hi : i < m) (hj : j < sz) {u : Value} (hx : a.eval x = u) (h0 : segOf u = [u])
    (ht : (P.info? t).map (·.size) = some 1) (hu : u.oneCell' = true) (z : α) (y : α) (hy : enc y = (enc (xs.getD i z)).set j u)
    (h : ∀ w1 S1, SH w0 w1 (is.set n (row (flk enc sz hl h1) e (.slice (some ad) m c) (xs.set i y) S1)) → wpList P ops Q rest a w1) : WP P ops Q (o :: rest) a W := by
  obtain ⟨g, tl, had, hm, hmc, hcm, hlen, HS1⟩ := HS.rowBlkF n hn (by omega)
  injection had with had
  subst had
  have hnl : n < is.length := (List.getElem?_eq_some_iff.1 hn).1
  have hsc := set_cells hl xs tl i j (by omega) z y u hj hy
  rw [add0] at haddr
  have hle : i * sz + j < c * sz := by
    have h2 : (i + 1) * sz ≤ c * sz := Nat.mul_le_mul_right _ (by omega)
    rw [Nat.succ_mul] at h2
    omega
  refine sh_storeX HS1 hw hN ho haddr n (by rw [List.getElem?_set_self hnl]) hx h0 ht hu (by rw [hlen]; exact hle) (fun w1 HS2 => h w1 (fun b => b = g) ?_)
  rw [List.set_set, hsc] at HS2
  have HS3 := HS2.blkRowF hl h1 n (by rw [List.getElem?_set_self hnl]) (xs.set i y) tl (k := m) (c := c) (by rw [List.length_set]; exact hm) rfl (by rw [← hsc, List.length_set, hlen]) hmc hcm
  rwa [List.set_set] at HS3
end
section
variable {P : Program} {o : Oper} {a : Act} {Q : Exit → Act → World → Prop} {w0 w : World} {is : List HP} {fuel i : Nat} {listed : Array Bool} {ops : Array Oper}
theorem k_rdf {ks : List Nat} (i : Nat) (hi : ops[i]? = some o) (hs : Region.noSelect ops = true) (hf : Region.free .any ops listed i = true) (hr : (Region.ready .any ops listed).contains i = true) (hk : (kWait ops ks i && !kDone ks listed) = true) {α : Type} {enc : α → List Value} {sz : Nat} {ad : Addr} {n : Nat} {xs : List α} (f : α → Value) (z : α) {k : Nat}
    (hQ : ∀ c a w, Q (.panic c) (a.put o.dst (f (xs.getD k z))) w → Q (.panic c) a w) (hS : SH w0 w is) (hw : Region.wanted o (yielded ops a.tmps) = true) (HR : ∀ w, SH w0 w is → Rd enc sz w (some ad) n xs) {t : TypeId} {p : Operand} (ho : o.op = .load t p)
    (j : Nat) (haddr : a.eval p = .pointer (some (ad.add (k * sz + j)))) (hkn : k < n) (hd : (P.underlying t).map aggD = some false) (hf' : ∀ x, (enc x)[j]? = some (f x))
    (h : wpAnyK P ops Q (fun w => SH w0 w is) ks fuel (listed.setIfInBounds i true) (a.put o.dst (f (xs.getD k z))) w) : wpAnyK P ops Q (fun w => SH w0 w is) ks (fuel + 1) listed a w := by
  obtain ⟨d, hd, hd1⟩ := Option.map_eq_some_iff.1 hd
  refine k_val i hi hs hf hr hk hQ hS hw (fun w hs => ?_) h
  have hc := (HR w hs).cell z hkn j (hf' _)
  unfold execOp
  simp only [ho, haddr]
  cases d <;> first | (simp [aggD] at hd1; done) | simp [Instr.loadAt, Instr.sureAddr, loadVar, isAgg, underlying, go_sem, hd, hc]
end
def rsyncF (F : List RF) (name : ByteArray) (off : Bool) : List RF := if off then F else if rfind F name < F.length then F.set (rfind F name) { F.getD (rfind F name) default with safe := ((F.getD (rfind F name) default).b.size : Int) } else F
section
variable {w0 w : World} {G : HP}
set_option maxHeartbeats 1600000 in
set_option maxRecDepth 100000 in
theorem rsync_any (gX : Nat) (A : Option Addr) (n c : Nat) (x1 : Value) (off : Bool) (F : List RF) (S : Nat → Prop) (name : ByteArray) (hn : n ≤ 1000) (HS0 : SH w0 w [blk gX [.slice A n c, x1, .bool off] 60, row rfK 65 (.slice A n c) F S, G]) :
    Calls Tryd.prog 24 #[.pointer (some ⟨gX, 0, none⟩), .string name] w (fun e w' => ∃ S', e = .returned (.int .i64 (rreadE F name off)) ∧ SH w0 w' [blk gX [.slice A n c, x1, .bool off] 60, row rfK 65 (.slice A n c) (rsyncF F name off) S', G]) := by
  have HM := Aside0.mk (row_rds (hl := RF.len) (h1 := RF.one) 1 rfl _ HS0).len.1
  have HS := Aside0.mk HS0
  clear HS0
  obtain ⟨i, hi⟩ : ∃ i, rfind F name = i := ⟨_, rfl⟩
  by_cases hlt : i < n
  · have hr : rfindI F name = i := rfindI_lt hi (by rw [HM.out]; exact hlt)
    have HR := Aside0.mk (row_rds (hl := RF.len) (h1 := RF.one) 1 rfl _ HS.out)
    obtain ⟨ad, rfl⟩ := HR.out.addr (by omega)
    clear HR
    obtain ⟨f, hf⟩ : ∃ f, F.getD i default = f := ⟨_, rfl⟩
    have HX := Aside0.mk hf
    have HA : ∀ o, Aside0 (rsyncF F name o = (if o then F else F.set i { f with safe := f.b.size }) ∧ rreadE F name o = (if o then 7 else 0)) := fun o => ⟨by unfold rsyncF; rw [hi, hf, if_pos (show i < F.length by rw [HM.out]; exact hlt)], by unfold rreadE; rw [hi, if_pos (show i < F.length by rw [HM.out]; exact hlt)]⟩
    clear hf hi
    have hge : decide ((i : Int) < 0) = false := by rw [decide_eq_false_iff_not]; omega
    have hib : (i : Int) ≤ 1000 := by omega
    cases off
    · go_enter Tryd.func24, Tryd.ntmps24
      go_upto_region 6 with (first | (go_at_call 39; (with_reducible refine (rfind_any gX (some ad) n c x1 (.bool false) F S name hn HS.out).mono ?_); rintro e w2 ⟨rfl, HS9⟩; (rw [hr]); clear HS; have HS := Aside0.mk HS9; clear HS9) | ((first | ((first | ((with_reducible refine gA rfl ?_); refine sh_alloc HS.out rfl rfl (zeT _ (by decide)) ?_) | ((with_reducible refine gB rfl ?_); refine bx HS.out rfl rfl ?_; first | refine bv (v := .agg (List.toArray _)) rfl ?_ | refine bv (v := .int _ _) rfl ?_ | refine bv (v := .slice _ _ _) rfl ?_ | refine bv (v := .bool _) rfl ?_ | refine bv (v := .pointer _) rfl ?_) | ((with_reducible refine gL rfl ?_); refine sh_lit HS.out rfl rfl (by go_simp; exact ⟨⟨rfl, rfl⟩, rfl⟩) ?_)); clear HS; intro g w1 hg HS1; (simp only [RF.enc, zeF, segOf, aL, aC, aE] at HS1); have HS := Aside0.mk HS1; clear HS1) | ((with_reducible refine gLd rfl ?_); refine ld2 HS.out rfl rfl rfl (by repeat (first | exact AtI.here | apply AtI.there)) ?_; (first | refine LdK.one ((agT _ (by decide)).trans rfl) rfl ?_ | (refine LdK.agg ((agT _ (by decide)).trans rfl) (szT _ (by decide)) (lb rfl) ?_; try simp only [szL, aP, aN, aT, aZ, aS, aD, aF, aJ, aK, aM, aO]))) | ((with_reducible refine gSt rfl ?_); refine st2 HS.out rfl rfl rfl rfl (by repeat (first | exact AtI.here | apply AtI.there)) ?_; (first | refine sv (u := .agg (List.toArray _)) rfl ?_ | refine sv (u := .int _ _) rfl ?_ | refine sv (u := .slice _ _ _) rfl ?_ | refine sv (u := .bool _) rfl ?_ | refine sv (u := .pointer _) rfl ?_); refine sw (szT _ (by decide)) rfl (lb rfl) ?_; clear HS; intro w1 HS1; (simp only [RF.enc, segOf, aL, aZ, aS, putSeg] at HS1); have HS := Aside0.mk HS1; clear HS1)); try simp only [aP, aN, aT, aZ, aS]))
      have HC := Aside0.mk (HS.out.pick [0, 1] rfl (by decide))
      refine kheld_start [16] mixed HC.out (fun HC1 => ?_)
      have HS1 := HS.out.drew
      clear HS HC
      have HS := Aside0.mk HS1
      have HC := Aside0.mk HC1
      clear HS1 HC1
      refine k_any 0 (v := _) (by simp only [aG, aH, aI]; rfl) (by kernel_rfl) (by kernel_rfl) (by kernel_rfl) (by kernel_rfl) (by exact fun _ _ _ h => h) (.inr HC.out) (by kernel_rfl) (fun w => by (repeat (rename ∀ (_ : Act) (_ : World), _ => hK9; clear hK9)); go_simp; rfl) ?_
      (try simp only [aP, aN, aT, aZ, aS])
      refine k_any 1 (v := _) (by simp only [aG, aH, aI]; rfl) (by kernel_rfl) (by kernel_rfl) (by kernel_rfl) (by kernel_rfl) (by exact fun _ _ _ h => h) (.inr HC.out) (by kernel_rfl) (fun w => by (repeat (rename ∀ (_ : Act) (_ : World), _ => hK9; clear hK9)); go_simp; rfl) ?_
      (try simp only [aP, aN, aT, aZ, aS])
      refine k_any 2 (v := _) (by simp only [aG, aH, aI]; rfl) (by kernel_rfl) (by kernel_rfl) (by kernel_rfl) (by kernel_rfl) (by exact fun _ _ _ h => h) (.inr HC.out) (by kernel_rfl) (fun w => by (repeat (rename ∀ (_ : Act) (_ : World), _ => hK9; clear hK9)); go_simp; rfl) ?_
      (try simp only [aP, aN, aT, aZ, aS])
      refine k_load 3 (by simp only [aG, aH, aI]; rfl) (by kernel_rfl) (by kernel_rfl) (by kernel_rfl) (by kernel_rfl) (by exact fun _ _ _ h => h) HC.out (by kernel_rfl) rfl rfl 0 rfl ((agT _ (by decide)).trans rfl) rfl ?_
      (try simp only [aP, aN, aT, aZ, aS])
      refine k_any 4 (v := _) (by simp only [aG, aH, aI]; rfl) (by kernel_rfl) (by kernel_rfl) (by kernel_rfl) (by kernel_rfl) (by exact fun _ _ _ h => h) (.inr HC.out) (by kernel_rfl) (fun w => by (repeat (rename ∀ (_ : Act) (_ : World), _ => hK9; clear hK9)); go_simp; rfl) ?_
      (try simp only [aP, aN, aT, aZ, aS])
      refine k_any 5 (v := _) (by simp only [aG, aH, aI]; rfl) (by kernel_rfl) (by kernel_rfl) (by kernel_rfl) (by kernel_rfl) (by exact fun _ _ _ h => h) (.inr HC.out) (by kernel_rfl) (fun w => by (repeat (rename ∀ (_ : Act) (_ : World), _ => hK9; clear hK9)); go_simp; rfl) ?_
      (try simp only [aP, aN, aT, aZ, aS])
      refine k_any 6 (v := _) (by simp only [aG, aH, aI]; rfl) (by kernel_rfl) (by kernel_rfl) (by kernel_rfl) (by kernel_rfl) (by exact fun _ _ _ h => h) (.inr HC.out) (by kernel_rfl) (fun w => by (repeat (rename ∀ (_ : Act) (_ : World), _ => hK9; clear hK9)); go_simp; rfl) ?_
      (try simp only [aP, aN, aT, aZ, aS])
      refine k_any 7 (v := _) (by simp only [aG, aH, aI]; rfl) (by kernel_rfl) (by kernel_rfl) (by kernel_rfl) (by kernel_rfl) (by exact fun _ _ _ h => h) (.inr HC.out) (by kernel_rfl) (fun w => by (repeat (rename ∀ (_ : Act) (_ : World), _ => hK9; clear hK9)); go_simp; rfl) ?_
      (try simp only [aP, aN, aT, aZ, aS])
      refine k_load 8 (by simp only [aG, aH, aI]; rfl) (by kernel_rfl) (by kernel_rfl) (by kernel_rfl) (by kernel_rfl) (by exact fun _ _ _ h => h) HC.out (by kernel_rfl) rfl rfl 0 rfl ((agT _ (by decide)).trans rfl) rfl ?_
      (try simp only [aP, aN, aT, aZ, aS])
      refine k_any 9 (v := _) (by simp only [aG, aH, aI]; rfl) (by kernel_rfl) (by kernel_rfl) (by kernel_rfl) (by kernel_rfl) (by exact fun _ _ _ h => h) (.inr HC.out) (by kernel_rfl) (fun w => by (repeat (rename ∀ (_ : Act) (_ : World), _ => hK9; clear hK9)); go_simp; rfl) ?_
      (try simp only [aP, aN, aT, aZ, aS])
      refine k_any 10 (v := _) (by simp only [aG, aH, aI]; rfl) (by kernel_rfl) (by kernel_rfl) (by kernel_rfl) (by kernel_rfl) (by exact fun _ _ _ h => h) (.inr HC.out) (by kernel_rfl) (fun w => by (repeat (rename ∀ (_ : Act) (_ : World), _ => hK9; clear hK9)); go_simp; rfl) ?_
      (try simp only [aP, aN, aT, aZ, aS])
      refine k_any 11 (v := _) (by simp only [aG, aH, aI]; rfl) (by kernel_rfl) (by kernel_rfl) (by kernel_rfl) (by kernel_rfl) (by exact fun _ _ _ h => h) (.inr HC.out) (by kernel_rfl) (fun w => by (repeat (rename ∀ (_ : Act) (_ : World), _ => hK9; clear hK9)); go_simp; rfl) ?_
      (try simp only [aP, aN, aT, aZ, aS])
      refine k_rdf 12 (by simp only [aG, aH, aI]; rfl) (by kernel_rfl) (by kernel_rfl) (by kernel_rfl) (by kernel_rfl) (fun e => Value.string e.b) default (by exact fun _ _ _ h => h) HC.out (by kernel_rfl) (row_rds (hl := RF.len) (h1 := RF.one) 1 rfl) rfl 1 (by exact addf ad (i * 3) 1 (by decide)) hlt ((agT _ (by decide)).trans rfl) (fun _ => rfl) ?_; (rw [HX.out])
      (try simp only [aP, aN, aT, aZ, aS])
      refine k_any 13 (v := _) (by simp only [aG, aH, aI]; rfl) (by kernel_rfl) (by kernel_rfl) (by kernel_rfl) (by kernel_rfl) (by exact fun _ _ _ h => h) (.inr HC.out) (by kernel_rfl) (fun w => by (repeat (rename ∀ (_ : Act) (_ : World), _ => hK9; clear hK9)); go_simp; rfl) ?_
      (try simp only [aP, aN, aT, aZ, aS])
      refine k_any 14 (v := _) (by simp only [aG, aH, aI]; rfl) (by kernel_rfl) (by kernel_rfl) (by kernel_rfl) (by kernel_rfl) (by exact fun _ _ _ h => h) (.inr HC.out) (by kernel_rfl) (fun w => by (repeat (rename ∀ (_ : Act) (_ : World), _ => hK9; clear hK9)); go_simp; rfl) ?_
      (try simp only [aP, aN, aT, aZ, aS])
      refine k_any 15 (v := _) (by simp only [aG, aH, aI]; rfl) (by kernel_rfl) (by kernel_rfl) (by kernel_rfl) (by kernel_rfl) (by exact fun _ _ _ h => h) (.inr HC.out) (by kernel_rfl) (fun w => by (repeat (rename ∀ (_ : Act) (_ : World), _ => hK9; clear hK9)); go_simp; rfl) ?_
      (try simp only [aP, aN, aT, aZ, aS])
      refine k_one 16 (by simp only [aG, aH, aI]; rfl) (by kernel_rfl) ?_
      refine gSt rfl ?_; refine sh_storeE (hl := RF.len) (h1 := RF.one) HS.out rfl rfl rfl (addf ad (i * 3) 2 (by decide)) 1 rfl hlt (by decide) (u := .int .i64 (f.b.size : Int)) rfl rfl (szT _ (by decide)) rfl default { f with safe := f.b.size } (by rw [HX.out]; rfl) ?_; clear HS; intro w1 S1 HS1; (simp only [aZ, aS] at HS1); have HS := Aside0.mk HS1; clear HS1
      refine k_nil (.inl (by kernel_rfl)) ?_
      (try simp only [aP, aN, aT, aZ, aS])
      refine k_done (by kernel_rfl) ?_ _
      go_wp2
      go_ret
      exact ⟨_, by rw [(HA false).out.2]; rfl, by rw [(HA false).out.1]; exact HS.out⟩
    · go_enter Tryd.func24, Tryd.ntmps24
      go_wp2_with (first | (go_at_call 39; (with_reducible refine (rfind_any gX (some ad) n c x1 (.bool true) F S name hn HS.out).mono ?_); rintro e w2 ⟨rfl, HS9⟩; (rw [hr]); clear HS; have HS := Aside0.mk HS9; clear HS9) | ((first | ((first | ((with_reducible refine gA rfl ?_); refine sh_alloc HS.out rfl rfl (zeT _ (by decide)) ?_) | ((with_reducible refine gB rfl ?_); refine bx HS.out rfl rfl ?_; first | refine bv (v := .agg (List.toArray _)) rfl ?_ | refine bv (v := .int _ _) rfl ?_ | refine bv (v := .slice _ _ _) rfl ?_ | refine bv (v := .bool _) rfl ?_ | refine bv (v := .pointer _) rfl ?_) | ((with_reducible refine gL rfl ?_); refine sh_lit HS.out rfl rfl (by go_simp; exact ⟨⟨rfl, rfl⟩, rfl⟩) ?_)); clear HS; intro g w1 hg HS1; (simp only [RF.enc, zeF, segOf, aL, aC, aE] at HS1); have HS := Aside0.mk HS1; clear HS1) | ((with_reducible refine gLd rfl ?_); refine ld2 HS.out rfl rfl rfl (by repeat (first | exact AtI.here | apply AtI.there)) ?_; (first | refine LdK.one ((agT _ (by decide)).trans rfl) rfl ?_ | (refine LdK.agg ((agT _ (by decide)).trans rfl) (szT _ (by decide)) (lb rfl) ?_; try simp only [szL, aP, aN, aT, aZ, aS, aD, aF, aJ, aK, aM, aO]))) | ((with_reducible refine gSt rfl ?_); refine st2 HS.out rfl rfl rfl rfl (by repeat (first | exact AtI.here | apply AtI.there)) ?_; (first | refine sv (u := .agg (List.toArray _)) rfl ?_ | refine sv (u := .int _ _) rfl ?_ | refine sv (u := .slice _ _ _) rfl ?_ | refine sv (u := .bool _) rfl ?_ | refine sv (u := .pointer _) rfl ?_); refine sw (szT _ (by decide)) rfl (lb rfl) ?_; clear HS; intro w1 HS1; (simp only [RF.enc, segOf, aL, aZ, aS, putSeg] at HS1); have HS := Aside0.mk HS1; clear HS1)); try simp only [aP, aN, aT, aZ, aS]))
      go_ret
      exact ⟨_, by rw [(HA true).out.2]; rfl, by rw [(HA true).out.1]; exact HS.out⟩
  · have hr : rfindI F name = -1 := rfindI_ge (by rw [hi, HM.out]; exact hlt)
    have HA : ∀ o, Aside0 (rsyncF F name o = F ∧ rreadE F name o = (if o then 7 else 4)) := fun o => ⟨by unfold rsyncF; rw [hi, if_neg (show ¬ i < F.length by rw [HM.out]; exact hlt)]; cases o <;> rfl, by unfold rreadE; rw [hi, if_neg (show ¬ i < F.length by rw [HM.out]; exact hlt)]⟩
    clear hi
    cases off
    all_goals
      go_enter Tryd.func24, Tryd.ntmps24
      go_wp2_with (first | (go_at_call 39; (with_reducible refine (rfind_any gX A n c x1 _ F S name hn HS.out).mono ?_); rintro e w2 ⟨rfl, HS9⟩; (rw [hr]); clear HS; have HS := Aside0.mk HS9; clear HS9) | ((first | ((first | ((with_reducible refine gA rfl ?_); refine sh_alloc HS.out rfl rfl (zeT _ (by decide)) ?_) | ((with_reducible refine gB rfl ?_); refine bx HS.out rfl rfl ?_; first | refine bv (v := .agg (List.toArray _)) rfl ?_ | refine bv (v := .int _ _) rfl ?_ | refine bv (v := .slice _ _ _) rfl ?_ | refine bv (v := .bool _) rfl ?_ | refine bv (v := .pointer _) rfl ?_) | ((with_reducible refine gL rfl ?_); refine sh_lit HS.out rfl rfl (by go_simp; exact ⟨⟨rfl, rfl⟩, rfl⟩) ?_)); clear HS; intro g w1 hg HS1; (simp only [RF.enc, zeF, segOf, aL, aC, aE] at HS1); have HS := Aside0.mk HS1; clear HS1) | ((with_reducible refine gLd rfl ?_); refine ld2 HS.out rfl rfl rfl (by repeat (first | exact AtI.here | apply AtI.there)) ?_; (first | refine LdK.one ((agT _ (by decide)).trans rfl) rfl ?_ | (refine LdK.agg ((agT _ (by decide)).trans rfl) (szT _ (by decide)) (lb rfl) ?_; try simp only [szL, aP, aN, aT, aZ, aS, aD, aF, aJ, aK, aM, aO]))) | ((with_reducible refine gSt rfl ?_); refine st2 HS.out rfl rfl rfl rfl (by repeat (first | exact AtI.here | apply AtI.there)) ?_; (first | refine sv (u := .agg (List.toArray _)) rfl ?_ | refine sv (u := .int _ _) rfl ?_ | refine sv (u := .slice _ _ _) rfl ?_ | refine sv (u := .bool _) rfl ?_ | refine sv (u := .pointer _) rfl ?_); refine sw (szT _ (by decide)) rfl (lb rfl) ?_; clear HS; intro w1 HS1; (simp only [RF.enc, segOf, aL, aZ, aS, putSeg] at HS1); have HS := Aside0.mk HS1; clear HS1)); try simp only [aP, aN, aT, aZ, aS]))
      go_ret
      exact ⟨_, by rw [(HA _).out.2]; rfl, by rw [(HA _).out.1]; exact HS.out⟩
end
end Go.Proofs.YtgcgnhcjjlnloaaDoor.Dk
