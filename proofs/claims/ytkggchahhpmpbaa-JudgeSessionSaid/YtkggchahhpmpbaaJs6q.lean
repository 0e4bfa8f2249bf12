/- Lemmas towards the law: what of the text Js6 it needs. -/
import Derived.Test.YtkggchahhpmpbaaJs5q
namespace Go.Proofs.Ytkggchahhpmpbaa.Jud
open Go.RowKit Go.Proofs.YtkggchahhpmpbaaW.PrintWords Go.Proofs.Ytkggchahhpmpbaa.Sl
set_option linter.unusedVariables false
set_option linter.unusedSimpArgs false
theorem bs_getD (l : List UInt8) (n : Nat) (b : UInt8) (h : l[n]? = some b) (hn : n < (bs l).size) : (bs l)[n] = b := by
  have h1 := (List.getElem?_eq_some_iff.1 h)
  obtain ⟨h2, h3⟩ := h1
  show l.toArray[n] = b
  simpa using h3
theorem bs_extract (l : List UInt8) (a b : Nat) : (bs l).extract a b = bs ((l.drop a).take (b - a)) := by
  apply ByteArray.ext
  rw [ByteArray.data_extract]
  simp [bs, List.extract]
section
variable {P : Program} {ops : Array Oper} {rest : List Oper} {o : Oper} {a : Act} {Q : Exit → Act → World → Prop}
theorem gIx {W : World} {t : TypeId} {x i : Operand} (_ho : o.op = .index t x i) (h : WP P ops Q (o :: rest) a W) : wpList P ops Q (o :: rest) a W := h.out
theorem gSx {W : World} {t : TypeId} {x : Operand} {lo hi mx : Option Operand} (_ho : o.op = .slice t x lo hi mx) (h : WP P ops Q (o :: rest) a W) : wpList P ops Q (o :: rest) a W := h.out
theorem qIx {C : World → Prop} {Qa : Act → Prop} {t : TypeId} {x i : Operand} (_ho : o.op = .index t x i) (h : WQ P ops C Qa (o :: rest) a) : wpQuiet P ops C Qa (o :: rest) a := h.out
theorem run_ix {W : World} {t : TypeId} {x i : Operand} (ho : o.op = .index t x i) {s : ByteArray} {l : List UInt8} (hx : a.eval x = .string s) {n : Nat} (hi : a.eval i = .int .i64 (n : Int)) (hs : s = bs l) {b : UInt8} (hb : l[n]? = some b) {m : Int} (hm : (b.toNat : Int) = m) (ht : P.underlying t = some .string) :
    (execOp a.eval o).run P W = .ok (.value (.int .u8 m)) W := by
  subst hs
  have hlt : n < (bs l).size := by rw [bs_size]; exact (List.getElem?_eq_some_iff.1 hb).1
  have h1 := run_index_string (P := P) W t (bs l) .i64 (n : Int) ht
  rw [dif_pos ⟨by omega, by omega⟩] at h1
  have h2 : (bs l)[(n : Int).toNat]'(by simpa using hlt) = b := by
    have := bs_getD l n b hb hlt
    simpa using this
  rw [h2, hm] at h1
  unfold execOp
  simp only [ho, hx, hi]
  simp [go_sem, h1]
theorem sh_ix {W : World} (hw : Region.wanted o (yielded ops a.tmps) = true) {t : TypeId} {x i : Operand} (ho : o.op = .index t x i) {s : ByteArray} {l : List UInt8} (hx : a.eval x = .string s) {n : Nat} (hi : a.eval i = .int .i64 (n : Int)) (hs : s = bs l) {b : UInt8} (hb : l[n]? = some b) {m : Int} (hm : (b.toNat : Int) = m) (ht : P.underlying t = some .string)
    (h : wpList P ops Q rest (a.put o.dst (.int .u8 m)) W) : WP P ops Q (o :: rest) a W := ⟨run_step hw (run_ix ho hx hi hs hb hm ht) h⟩
theorem sh_slo {W : World} (hw : Region.wanted o (yielded ops a.tmps) = true) {t : TypeId} {x lo : Operand} (ho : o.op = .slice t x (some lo) none none) {s : ByteArray} {l : List UInt8} (hx : a.eval x = .string s) {n : Nat} (hlo : a.eval lo = .int .i64 (n : Int)) (hs : s = bs l) (hn : n ≤ l.length) (ht : P.underlying t = some .string)
    (h : wpList P ops Q rest (a.put o.dst (.string (bs (l.drop n)))) W) : WP P ops Q (o :: rest) a W := by
  subst hs
  refine ⟨run_step hw ?_ h⟩
  have h1 := run_slice_string_l (P := P) W t (bs l) ht .i64 (n : Int) (by omega) (by rw [bs_size]; omega)
  rw [bs_extract, bs_size] at h1
  have h2 : (l.drop (n : Int).toNat).take (l.length - (n : Int).toNat) = l.drop n := by
    rw [Int.toNat_natCast, ← List.length_drop, List.take_length]
  rw [h2] at h1
  have h3 := run_sliceAt_string (P := P) W t (.string (bs l)) (some (.int .i64 (n : Int))) none none ht
  rw [h1] at h3
  unfold execOp
  simp only [ho, hx, hlo, Option.map_some, Option.map_none]
  simp [go_sem, h3, h1]
theorem sh_slh {W : World} (hw : Region.wanted o (yielded ops a.tmps) = true) {t : TypeId} {x lo hi : Operand} (ho : o.op = .slice t x (some lo) (some hi) none) {s : ByteArray} {l : List UInt8} (hx : a.eval x = .string s) {n m : Nat} (hlo : a.eval lo = .int .i64 (n : Int)) (hhi : a.eval hi = .int .i64 (m : Int)) (hs : s = bs l) (hnm : n ≤ m) (hm : m ≤ l.length) {r : ByteArray} (hr : bs ((l.drop n).take (m - n)) = r) (ht : P.underlying t = some .string)
    (h : wpList P ops Q rest (a.put o.dst (.string r)) W) : WP P ops Q (o :: rest) a W := by
  subst hs hr
  refine ⟨run_step hw ?_ h⟩
  have hsz := bs_size l
  have hb1 : ((n : Int)) ≤ ((bs l).size : Int) := by rw [hsz]; omega
  have hb2 : ((m : Int)) ≤ ((bs l).size : Int) := by rw [hsz]; omega
  have h1 : (Instr.slice t (.string (bs l)) (some (.int .i64 (n : Int))) (some (.int .i64 (m : Int))) none).run P W = .ok (.string ((bs l).extract n m)) W := by
    have b1 := run_sliceBound (P := P) W .i64 (m : Int) l.length .sliceAlen (by omega) (by omega)
    have b2 := run_sliceBound (P := P) W .i64 (n : Int) m .sliceB (by omega) (by omega)
    rw [Int.toNat_natCast] at b1 b2
    simp [Instr.slice, run_underlying ht, Instr.sliceBounds, sliced, hsz, b1, b2]
  rw [bs_extract] at h1
  have h3 := run_sliceAt_string (P := P) W t (.string (bs l)) (some (.int .i64 (n : Int))) (some (.int .i64 (m : Int))) none ht
  rw [h1] at h3
  unfold execOp
  simp only [ho, hx, hlo, hhi, Option.map_some, Option.map_none]
  simp [go_sem, h3, h1]
end
def lenS : Value → Nat
  | .slice _ n _ => n
  | _ => 0
theorem encAll_drop {l : List Frm} {k : Nat} {f : Frm} (hk : k < l.length) (hf : l.getD k default = f) : encAll (l.drop k) = encF f ++ encAll (l.drop (k + 1)) := by
  unfold encAll
  rw [List.drop_eq_getElem_cons hk, List.flatMap_cons]
  rw [List.getD_eq_getElem?_getD, List.getElem?_eq_getElem hk, Option.getD_some] at hf
  rw [hf]
theorem take_snoc {l : List Frm} {k : Nat} {f : Frm} (hk : k < l.length) (hf : l.getD k default = f) : l.take (k + 1) = l.take k ++ [f] := by
  rw [List.take_succ_eq_append_getElem hk]
  rw [List.getD_eq_getElem?_getD, List.getElem?_eq_getElem hk, Option.getD_some] at hf
  rw [hf]
theorem bs_ne {x : UInt8} {l : List UInt8} : (bs (x :: l)).toList.isEmpty = false := by
  rw [ByteArray.toList_eq]
  rfl
theorem bs_nil : (bs []).toList.isEmpty = true := by
  rw [ByteArray.toList_eq]
  rfl
def RfPost (w0 : World) (F : HP) (gS : Nat) (x2 x3 x4 x5 x6 : Value) (l : List Frm) (e : Ending) (w' : World) : Prop := ∃ (A : Option Addr) (c : Nat) (S : Nat → Prop), e = .returned (.slice A l.length c) ∧ l.length ≤ c ∧ SH w0 w' [blk gS [.string (bs []), .bool false, x2, x3, x4, x5, x6] 42, F, row frmK 63 (.slice A l.length c) l S]
set_option maxHeartbeats 6400000 in
set_option maxRecDepth 100000 in
theorem rfeed_any {w0 : World} {F : HP} (gS : Nat) (x2 x3 x4 x5 x6 : Value) (l : List Frm) (w : World) (hv : ∀ f ∈ l, valid f) (hl : l.length ≤ 1000) (HS0 : SH w0 w [blk gS [.string (bs []), .bool false, x2, x3, x4, x5, x6] 42, F]) :
    Calls Try.prog 30 #[.pointer (some ⟨gS, 0, none⟩), .string (bs (encAll l))] w (RfPost w0 F gS x2 x3 x4 x5 x6 l) := by
  have HS := Aside0.mk HS0
  clear HS0
  have HV := Aside0.mk hv
  have HSZ := Aside0.mk (encAll_len l hv)
  clear hv
  obtain ⟨s0, hs0⟩ : ∃ s0, bs (encAll l) = s0 := ⟨_, rfl⟩
  have hsz : s0.size ≤ 50000 := by rw [← hs0, bs_size]; have := HSZ.out; omega
  have HB0 := Aside0.mk hs0
  rw [hs0]
  clear hs0
  obtain ⟨sE, hsE⟩ : ∃ sE, bs [] = sE := ⟨_, rfl⟩
  have hszE : sE.size = 0 := by rw [← hsE]; rfl
  have HBE := Aside0.mk hsE
  rw [hsE] at HS
  unfold RfPost
  rw [hsE]
  clear hsE
  go_enter Try.func30, Try.ntmps30
  go_upto_region 5 with (first | ((first | ((first | ((with_reducible refine gA rfl ?_); refine sh_alloc HS.out rfl rfl (zeT _ (by decide)) ?_) | ((with_reducible refine gB rfl ?_); refine bx HS.out rfl rfl ?_; first | refine bv (v := .agg (List.toArray _)) rfl ?_ | refine bv (v := .int _ _) rfl ?_ | refine bv (v := .slice _ _ _) rfl ?_ | refine bv (v := .bool _) rfl ?_ | refine bv (v := .pointer _) rfl ?_ | refine bv (v := .string _) rfl ?_ | refine bv (v := .map _) rfl ?_ | refine bv (v := .func _ _ _) rfl ?_) | ((with_reducible refine gL rfl ?_); refine sh_lit HS.out rfl rfl (by go_simp; exact ⟨⟨rfl, rfl⟩, rfl⟩) ?_)); clear HS; intro g w1 hg HS1; (simp only [Frm.enc, Rep.enc, zeF, segOf, aL, aC, aE] at HS1); have HS := Aside0.mk HS1; clear HS1) | ((with_reducible refine gLd rfl ?_); refine ld2 HS.out rfl rfl rfl (by repeat (first | exact AtI.here | apply AtI.there)) ?_; (first | refine LdK.one ((agT _ (by decide)).trans rfl) rfl ?_ | (refine LdK.agg ((agT _ (by decide)).trans rfl) (szT _ (by decide)) (lb rfl) ?_; try simp only [szL, aP, aN, aT, aZ, aS, aD, aF, aJ, aK, aM, aO]))) | ((with_reducible refine gSt rfl ?_); refine st2 HS.out rfl rfl rfl rfl (by repeat (first | exact AtI.here | apply AtI.there)) ?_; (first | refine sv (u := .agg (List.toArray _)) rfl ?_ | refine sv (u := .int _ _) rfl ?_ | refine sv (u := .slice _ _ _) rfl ?_ | refine sv (u := .bool _) rfl ?_ | refine sv (u := .pointer _) rfl ?_ | refine sv (u := .string _) rfl ?_ | refine sv (u := .map _) rfl ?_ | refine sv (u := .func _ _ _) rfl ?_); refine sw (szT _ (by decide)) rfl (lb rfl) ?_; clear HS; intro w1 HS1; (simp only [Frm.enc, Rep.enc, segOf, aL, aZ, aS, putSeg] at HS1); have HS := Aside0.mk HS1; clear HS1)); try simp only [aP, aN, aT, aZ, aS]))
  all_goals (try (exfalso; omega))
  have HSN := HS.out.nil frmK 63
  simp only [aC, aE] at HSN
  clear HS
  have HS := Aside0.mk HSN
  clear HSN
  go_loopw [5] (fun v5 wr => ∃ (k : Nat) (sB : ByteArray) (S : Nat → Prop), k ≤ l.length ∧ Aside0 (sB = bs (encAll (l.drop k))) ∧ Aside0 (SH w0 wr [blk gS [.string sB, .bool false, x2, x3, x4, x5, x6] 42, F, row frmK 63 v5 (l.take k) S])) (fun v5 _ => l.length - lenS v5)
  case atStart => exact ⟨0, _, _, Nat.zero_le _, ⟨by rw [← HB0.out, ← HBE.out, bs_append]; rfl⟩, HS⟩
  case round =>
    clear HS
    obtain ⟨k, sB, S, hk, HB, HS⟩ := hrel
    obtain ⟨A9, c9, rfl, hc9, _⟩ := row_rd HS.out 2 rfl
    have hlk : (l.take k).length ≤ 1000 := by rw [List.length_take]; omega
    have HLKN := Aside0.mk (show (l.take k).length = k by rw [List.length_take]; omega)
    obtain ⟨Lk, hLk⟩ : ∃ Lk, l.take k = Lk := ⟨_, rfl⟩
    have HLK := Aside0.mk hLk
    rw [hLk] at HS hc9 hlk HLKN ⊢
    clear hLk
    by_cases hlt : k < l.length
    · obtain ⟨f, hf⟩ : ∃ f, l.getD k default = f := ⟨_, rfl⟩
      have hvf : valid f := by
        refine HV.out f ?_
        rw [← hf, List.getD_eq_getElem?_getD, List.getElem?_eq_getElem hlt]
        exact List.getElem_mem hlt
      have HTS := Aside0.mk ((take_snoc hlt hf).trans (congrArg (· ++ [f]) HLK.out))
      have HE := Aside0.mk (HB.out.trans (congrArg bs (encAll_drop hlt hf)))
      clear hf
      obtain ⟨fk, ft⟩ := f
      rcases valid_kind hvf with e | e | e
      · obtain rfl : fk = 81 := e
        have h48 : ft.size ≤ 48 := by
          unfold valid rFrame at hvf
          simp at hvf
          omega
        clear hvf
        have he : sB.toList.isEmpty = false := by rw [HE.out]; exact bs_ne
        obtain ⟨tl, htl⟩ : ∃ tl, encAll (l.drop (k + 1)) = tl := ⟨_, rfl⟩
        have HE1 := Aside0.mk (show sB = bs ([81, UInt8.ofNat ft.size] ++ ft.data.toList ++ tl) by rw [← htl]; exact HE.out)
        have hfl : ft.data.toList.length = ft.size := Array.length_toList
        have hs : sB.size = 2 + ft.size + tl.length := by
          rw [HE1.out, bs_size, List.length_append, List.length_append, hfl]
          rfl
        have HFL := Aside0.mk hfl
        clear hfl
        obtain ⟨m, hm⟩ : ∃ m : Nat, ft.size = m := ⟨_, rfl⟩
        have HM := Aside0.mk hm
        have hm48 : m ≤ 48 := by omega
        rw [hm] at hs
        clear hm h48
        obtain ⟨n, hn⟩ : ∃ n : Nat, sB.size = n := ⟨_, rfl⟩
        have hn2 : 2 + m ≤ n := by omega
        have hw1 : IntKind.i64.wrap (m : Int) = (m : Int) := IntWalk.i64_in _ (by omega)
        have hw2 : IntKind.i64.wrap (2 + (m : Int)) = 2 + (m : Int) := IntWalk.i64_in _ (by omega)
        have g1 : decide ((1 : Int) < (n : Int)) = true := by rw [decide_eq_true_eq]; omega
        have g1' : decide (1 < n) = true := by rw [decide_eq_true_eq]; omega
        have g2 : decide ((48 : Int) < (m : Int)) = false := by rw [decide_eq_false_iff_not]; omega
        have g2' : decide (48 < m) = false := by rw [decide_eq_false_iff_not]; omega
        have g3 : decide ((n : Int) < 2) = false := by rw [decide_eq_false_iff_not]; omega
        have g3' : decide (n < 2) = false := by rw [decide_eq_false_iff_not]; omega
        have g4 : decide ((n : Int) < 2 + (m : Int)) = false := by rw [decide_eq_false_iff_not]; omega
        have g4' : decide (n < 2 + m) = false := by rw [decide_eq_false_iff_not]; omega
        have HB1 := Aside0.mk (show ([81, UInt8.ofNat ft.size] ++ ft.data.toList ++ tl)[1]? = some (UInt8.ofNat ft.size) from rfl)
        have HB2 := Aside0.mk (show ((UInt8.ofNat ft.size).toNat : Int) = (m : Int) by rw [HM.out]; simp; omega)
        have HLN := Aside0.mk (show ([81, UInt8.ofNat ft.size] ++ ft.data.toList ++ tl).length = 2 + m + tl.length by rw [List.length_append, List.length_append, HFL.out, HM.out]; rfl)
        have HD1 := Aside0.mk (show bs (((([81, UInt8.ofNat ft.size] ++ ft.data.toList ++ tl).drop 2).take (2 + m - 2))) = ft by
          have e1 : ([81, UInt8.ofNat ft.size] ++ ft.data.toList ++ tl).drop 2 = ft.data.toList ++ tl := rfl
          rw [e1, Nat.add_sub_cancel_left, List.take_append_of_le_length (by rw [HFL.out, HM.out]; exact Nat.le_refl _), List.take_of_length_le (by rw [HFL.out, HM.out]; exact Nat.le_refl _)]
          exact bs_text ft)
        have HD2 := Aside0.mk (show ([81, UInt8.ofNat ft.size] ++ ft.data.toList ++ tl).drop (2 + m) = tl by
          have e1 : ([81, UInt8.ofNat ft.size] ++ ft.data.toList ++ tl) = ([81, UInt8.ofNat ft.size] ++ ft.data.toList) ++ tl := rfl
          rw [e1, List.drop_append_of_le_length (by rw [List.length_append, HFL.out, HM.out]; exact Nat.le_refl _), List.drop_of_length_le (by rw [List.length_append, HFL.out, HM.out]; exact Nat.le_refl _)]
          rfl)
        clear hs
        go_upto_region 14 with (first | ((with_reducible refine gIx rfl ?_); first | refine sh_ix rfl rfl rfl (n := 0) rfl HE1.out rfl (m := 81) rfl Try.underlying9 ?_ | refine sh_ix rfl rfl rfl (n := 1) rfl HE1.out HB1.out HB2.out Try.underlying9 ?_) | ((first | ((first | ((with_reducible refine gA rfl ?_); refine sh_alloc HS.out rfl rfl (zeT _ (by decide)) ?_) | ((with_reducible refine gB rfl ?_); refine bx HS.out rfl rfl ?_; first | refine bv (v := .agg (List.toArray _)) rfl ?_ | refine bv (v := .int _ _) rfl ?_ | refine bv (v := .slice _ _ _) rfl ?_ | refine bv (v := .bool _) rfl ?_ | refine bv (v := .pointer _) rfl ?_ | refine bv (v := .string _) rfl ?_ | refine bv (v := .map _) rfl ?_ | refine bv (v := .func _ _ _) rfl ?_) | ((with_reducible refine gL rfl ?_); refine sh_lit HS.out rfl rfl (by go_simp; exact ⟨⟨rfl, rfl⟩, rfl⟩) ?_)); clear HS; intro g w1 hg HS1; (simp only [Frm.enc, Rep.enc, zeF, segOf, aL, aC, aE] at HS1); have HS := Aside0.mk HS1; clear HS1) | ((with_reducible refine gLd rfl ?_); refine ld2 HS.out rfl rfl rfl (by repeat (first | exact AtI.here | apply AtI.there)) ?_; (first | refine LdK.one ((agT _ (by decide)).trans rfl) rfl ?_ | (refine LdK.agg ((agT _ (by decide)).trans rfl) (szT _ (by decide)) (lb rfl) ?_; try simp only [szL, aP, aN, aT, aZ, aS, aD, aF, aJ, aK, aM, aO]))) | ((with_reducible refine gSt rfl ?_); refine st2 HS.out rfl rfl rfl rfl (by repeat (first | exact AtI.here | apply AtI.there)) ?_; (first | refine sv (u := .agg (List.toArray _)) rfl ?_ | refine sv (u := .int _ _) rfl ?_ | refine sv (u := .slice _ _ _) rfl ?_ | refine sv (u := .bool _) rfl ?_ | refine sv (u := .pointer _) rfl ?_ | refine sv (u := .string _) rfl ?_ | refine sv (u := .map _) rfl ?_ | refine sv (u := .func _ _ _) rfl ?_); refine sw (szT _ (by decide)) rfl (lb rfl) ?_; clear HS; intro w1 HS1; (simp only [Frm.enc, Rep.enc, segOf, aL, aZ, aS, putSeg] at HS1); have HS := Aside0.mk HS1; clear HS1)); try simp only [aP, aN, aT, aZ, aS]))
        ((with_reducible refine wp_region_sh mixed (by kernel_rfl) HS.out ?_); (repeat' (first | go_big_quiet_skip | ((with_reducible refine qMv rfl ?_); go_big_quiet_step (fail)) | ((with_reducible refine qAs rfl ?_); go_big_quiet_step (fail)) | ((with_reducible refine qPk rfl ?_); go_big_quiet_step (fail)) | ((with_reducible refine qIx rfl ?_); refine q_val rfl (fun w hs => run_ix rfl rfl (n := 1) rfl HE1.out HB1.out HB2.out Try.underlying9) ?_; try simp only [aP, aN, aT, aZ, aS]) | ((with_reducible refine qLd rfl ?_); (first | refine q_load rfl rfl rfl 0 rfl ((agT _ (by decide)).trans rfl) rfl ?_); try simp only [aP, aN, aT, aZ, aS]) | ((with_reducible refine qLd rfl ?_); (first | refine q_loads rfl rfl rfl 0 rfl ((agT _ (by decide)).trans rfl) (szT _ (by decide)) (lb rfl) ?_); (try simp only [szL, aP, aN, aT, aZ, aS, aD, aF, aJ, aK, aM, aO])) | ((with_reducible refine qAny ?_); refine q_val rfl (fun w hs => by (repeat (rename ∀ (_ : Act) (_ : World), _ => hK9; clear hK9)); go_simp; rfl) ?_; try simp only [aP, aN, aT, aZ, aS]))); all_goals (refine wpQuiet_nil ?_; clear HS; intro w1 HS1; have HS := Aside0.mk HS1; clear HS1))
        go_wp2_with (first | ((with_reducible refine gIx rfl ?_); refine sh_ix rfl rfl rfl (n := 1) rfl HE1.out HB1.out HB2.out Try.underlying9 ?_) | ((with_reducible refine gSx rfl ?_); first | refine sh_slh rfl rfl rfl (n := 2) (m := 2 + m) rfl rfl HE1.out (by omega) (by rw [HLN.out]; omega) HD1.out Try.underlying9 ?_ | refine sh_slo rfl rfl rfl (n := 2 + m) rfl HE1.out (by rw [HLN.out]; omega) Try.underlying9 ?_) | ((with_reducible refine gC (b := .append) rfl ?_); refine sh_append HS.out rfl rfl rfl 2 rfl rfl (Rd.one Frm.len ⟨81, ft⟩ (HS.out.blk 3 rfl)) Try.underlying30 infoFrm rfl (by decide) (by decide) (by omega) ?_; clear HS; intro v1 w1 S1 HS1; (simp only [aZ, aS] at HS1); have HS := Aside0.mk HS1; clear HS1; try simp only [aP, aN, aT, aZ, aS]) | ((first | ((first | ((with_reducible refine gA rfl ?_); refine sh_alloc HS.out rfl rfl (zeT _ (by decide)) ?_) | ((with_reducible refine gB rfl ?_); refine bx HS.out rfl rfl ?_; first | refine bv (v := .agg (List.toArray _)) rfl ?_ | refine bv (v := .int _ _) rfl ?_ | refine bv (v := .slice _ _ _) rfl ?_ | refine bv (v := .bool _) rfl ?_ | refine bv (v := .pointer _) rfl ?_ | refine bv (v := .string _) rfl ?_ | refine bv (v := .map _) rfl ?_ | refine bv (v := .func _ _ _) rfl ?_) | ((with_reducible refine gL rfl ?_); refine sh_lit HS.out rfl rfl (by go_simp; exact ⟨⟨rfl, rfl⟩, rfl⟩) ?_)); clear HS; intro g w1 hg HS1; (simp only [Frm.enc, Rep.enc, zeF, segOf, aL, aC, aE] at HS1); have HS := Aside0.mk HS1; clear HS1) | ((with_reducible refine gLd rfl ?_); refine ld2 HS.out rfl rfl rfl (by repeat (first | exact AtI.here | apply AtI.there)) ?_; (first | refine LdK.one ((agT _ (by decide)).trans rfl) rfl ?_ | (refine LdK.agg ((agT _ (by decide)).trans rfl) (szT _ (by decide)) (lb rfl) ?_; try simp only [szL, aP, aN, aT, aZ, aS, aD, aF, aJ, aK, aM, aO]))) | ((with_reducible refine gSt rfl ?_); refine st2 HS.out rfl rfl rfl rfl (by repeat (first | exact AtI.here | apply AtI.there)) ?_; (first | refine sv (u := .agg (List.toArray _)) rfl ?_ | refine sv (u := .int _ _) rfl ?_ | refine sv (u := .slice _ _ _) rfl ?_ | refine sv (u := .bool _) rfl ?_ | refine sv (u := .pointer _) rfl ?_ | refine sv (u := .string _) rfl ?_ | refine sv (u := .map _) rfl ?_ | refine sv (u := .func _ _ _) rfl ?_); refine sw (szT _ (by decide)) rfl (lb rfl) ?_; clear HS; intro w1 HS1; (simp only [Frm.enc, Rep.enc, segOf, aL, aZ, aS, putSeg] at HS1); have HS := Aside0.mk HS1; clear HS1)); try simp only [aP, aN, aT, aZ, aS]))
        have HSP := HS.out.pick [0, 1, 2] rfl (by decide)
        rw [← HTS.out] at HSP
        obtain ⟨A8, c8, rfl, hc8, _⟩ := row_rd HSP 2 rfl
        go_roundw
        case rel => exact ⟨k + 1, _, S1, by omega, ⟨by rw [htl]; exact congrArg bs HD2.out⟩, ⟨HSP⟩⟩
        case measure =>
          simp only [lenS, HTS.out, List.length_append, List.length_singleton]
          have := HLKN.out
          omega
      · obtain rfl : fk = 66 := e
        have hft : ft = ⟨#[]⟩ := by
          unfold valid rFrame at hvf
          simp only [Bool.and_eq_true] at hvf
          have h2 : ft.toList.isEmpty = true := by simpa using hvf
          have h3 := noText_size h2
          cases ft
          rename_i d
          have : d.size = 0 := h3
          have : d = #[] := Array.eq_empty_of_size_eq_zero this
          rw [this]
        subst hft
        clear hvf
        have he : sB.toList.isEmpty = false := by rw [HE.out]; exact bs_ne
        have HE1 := Aside0.mk (show sB = bs ([66] ++ encAll (l.drop (k + 1))) from HE.out)
        go_wp2_with (first | ((with_reducible refine gIx rfl ?_); refine sh_ix rfl rfl rfl (n := 0) rfl HE1.out rfl (m := 66) rfl Try.underlying9 ?_) | ((with_reducible refine gSx rfl ?_); refine sh_slo rfl rfl rfl (n := 1) rfl HE1.out (by simp) Try.underlying9 ?_) | ((with_reducible refine gC (b := .append) rfl ?_); refine sh_append HS.out rfl rfl rfl 2 rfl rfl (Rd.one Frm.len ⟨66, ⟨#[]⟩⟩ (HS.out.blk 3 rfl)) Try.underlying30 infoFrm rfl (by decide) (by decide) (by omega) ?_; clear HS; intro v1 w1 S1 HS1; (simp only [aZ, aS] at HS1); have HS := Aside0.mk HS1; clear HS1; try simp only [aP, aN, aT, aZ, aS]) | ((first | ((first | ((with_reducible refine gA rfl ?_); refine sh_alloc HS.out rfl rfl (zeT _ (by decide)) ?_) | ((with_reducible refine gB rfl ?_); refine bx HS.out rfl rfl ?_; first | refine bv (v := .agg (List.toArray _)) rfl ?_ | refine bv (v := .int _ _) rfl ?_ | refine bv (v := .slice _ _ _) rfl ?_ | refine bv (v := .bool _) rfl ?_ | refine bv (v := .pointer _) rfl ?_ | refine bv (v := .string _) rfl ?_ | refine bv (v := .map _) rfl ?_ | refine bv (v := .func _ _ _) rfl ?_) | ((with_reducible refine gL rfl ?_); refine sh_lit HS.out rfl rfl (by go_simp; exact ⟨⟨rfl, rfl⟩, rfl⟩) ?_)); clear HS; intro g w1 hg HS1; (simp only [Frm.enc, Rep.enc, zeF, segOf, aL, aC, aE] at HS1); have HS := Aside0.mk HS1; clear HS1) | ((with_reducible refine gLd rfl ?_); refine ld2 HS.out rfl rfl rfl (by repeat (first | exact AtI.here | apply AtI.there)) ?_; (first | refine LdK.one ((agT _ (by decide)).trans rfl) rfl ?_ | (refine LdK.agg ((agT _ (by decide)).trans rfl) (szT _ (by decide)) (lb rfl) ?_; try simp only [szL, aP, aN, aT, aZ, aS, aD, aF, aJ, aK, aM, aO]))) | ((with_reducible refine gSt rfl ?_); refine st2 HS.out rfl rfl rfl rfl (by repeat (first | exact AtI.here | apply AtI.there)) ?_; (first | refine sv (u := .agg (List.toArray _)) rfl ?_ | refine sv (u := .int _ _) rfl ?_ | refine sv (u := .slice _ _ _) rfl ?_ | refine sv (u := .bool _) rfl ?_ | refine sv (u := .pointer _) rfl ?_ | refine sv (u := .string _) rfl ?_ | refine sv (u := .map _) rfl ?_ | refine sv (u := .func _ _ _) rfl ?_); refine sw (szT _ (by decide)) rfl (lb rfl) ?_; clear HS; intro w1 HS1; (simp only [Frm.enc, Rep.enc, segOf, aL, aZ, aS, putSeg] at HS1); have HS := Aside0.mk HS1; clear HS1)); try simp only [aP, aN, aT, aZ, aS]))
        have HSP := HS.out.pick [0, 1, 2] rfl (by decide)
        rw [← HTS.out] at HSP
        obtain ⟨A8, c8, rfl, hc8, _⟩ := row_rd HSP 2 rfl
        go_roundw
        case rel => exact ⟨k + 1, _, S1, by omega, ⟨rfl⟩, ⟨HSP⟩⟩
        case measure =>
          simp only [lenS, HTS.out, List.length_append, List.length_singleton]
          have := HLKN.out
          omega
      · obtain rfl : fk = 69 := e
        have hft : ft = ⟨#[]⟩ := by
          unfold valid rFrame at hvf
          simp only [Bool.and_eq_true] at hvf
          have h2 : ft.toList.isEmpty = true := by simpa using hvf
          have h3 := noText_size h2
          cases ft
          rename_i d
          have : d.size = 0 := h3
          have : d = #[] := Array.eq_empty_of_size_eq_zero this
          rw [this]
        subst hft
        clear hvf
        have he : sB.toList.isEmpty = false := by rw [HE.out]; exact bs_ne
        have HE1 := Aside0.mk (show sB = bs ([69] ++ encAll (l.drop (k + 1))) from HE.out)
        go_wp2_with (first | ((with_reducible refine gIx rfl ?_); refine sh_ix rfl rfl rfl (n := 0) rfl HE1.out rfl (m := 69) rfl Try.underlying9 ?_) | ((with_reducible refine gSx rfl ?_); refine sh_slo rfl rfl rfl (n := 1) rfl HE1.out (by simp) Try.underlying9 ?_) | ((with_reducible refine gC (b := .append) rfl ?_); refine sh_append HS.out rfl rfl rfl 2 rfl rfl (Rd.one Frm.len ⟨69, ⟨#[]⟩⟩ (HS.out.blk 3 rfl)) Try.underlying30 infoFrm rfl (by decide) (by decide) (by omega) ?_; clear HS; intro v1 w1 S1 HS1; (simp only [aZ, aS] at HS1); have HS := Aside0.mk HS1; clear HS1; try simp only [aP, aN, aT, aZ, aS]) | ((first | ((first | ((with_reducible refine gA rfl ?_); refine sh_alloc HS.out rfl rfl (zeT _ (by decide)) ?_) | ((with_reducible refine gB rfl ?_); refine bx HS.out rfl rfl ?_; first | refine bv (v := .agg (List.toArray _)) rfl ?_ | refine bv (v := .int _ _) rfl ?_ | refine bv (v := .slice _ _ _) rfl ?_ | refine bv (v := .bool _) rfl ?_ | refine bv (v := .pointer _) rfl ?_ | refine bv (v := .string _) rfl ?_ | refine bv (v := .map _) rfl ?_ | refine bv (v := .func _ _ _) rfl ?_) | ((with_reducible refine gL rfl ?_); refine sh_lit HS.out rfl rfl (by go_simp; exact ⟨⟨rfl, rfl⟩, rfl⟩) ?_)); clear HS; intro g w1 hg HS1; (simp only [Frm.enc, Rep.enc, zeF, segOf, aL, aC, aE] at HS1); have HS := Aside0.mk HS1; clear HS1) | ((with_reducible refine gLd rfl ?_); refine ld2 HS.out rfl rfl rfl (by repeat (first | exact AtI.here | apply AtI.there)) ?_; (first | refine LdK.one ((agT _ (by decide)).trans rfl) rfl ?_ | (refine LdK.agg ((agT _ (by decide)).trans rfl) (szT _ (by decide)) (lb rfl) ?_; try simp only [szL, aP, aN, aT, aZ, aS, aD, aF, aJ, aK, aM, aO]))) | ((with_reducible refine gSt rfl ?_); refine st2 HS.out rfl rfl rfl rfl (by repeat (first | exact AtI.here | apply AtI.there)) ?_; (first | refine sv (u := .agg (List.toArray _)) rfl ?_ | refine sv (u := .int _ _) rfl ?_ | refine sv (u := .slice _ _ _) rfl ?_ | refine sv (u := .bool _) rfl ?_ | refine sv (u := .pointer _) rfl ?_ | refine sv (u := .string _) rfl ?_ | refine sv (u := .map _) rfl ?_ | refine sv (u := .func _ _ _) rfl ?_); refine sw (szT _ (by decide)) rfl (lb rfl) ?_; clear HS; intro w1 HS1; (simp only [Frm.enc, Rep.enc, segOf, aL, aZ, aS, putSeg] at HS1); have HS := Aside0.mk HS1; clear HS1)); try simp only [aP, aN, aT, aZ, aS]))
        have HSP := HS.out.pick [0, 1, 2] rfl (by decide)
        rw [← HTS.out] at HSP
        obtain ⟨A8, c8, rfl, hc8, _⟩ := row_rd HSP 2 rfl
        go_roundw
        case rel => exact ⟨k + 1, _, S1, by omega, ⟨rfl⟩, ⟨HSP⟩⟩
        case measure =>
          simp only [lenS, HTS.out, List.length_append, List.length_singleton]
          have := HLKN.out
          omega
    · obtain rfl : k = l.length := by omega
      have he : sB.toList.isEmpty = true := by rw [HB.out, List.drop_length]; exact bs_nil
      go_wp2_with (first | ((first | ((first | ((with_reducible refine gA rfl ?_); refine sh_alloc HS.out rfl rfl (zeT _ (by decide)) ?_) | ((with_reducible refine gB rfl ?_); refine bx HS.out rfl rfl ?_; first | refine bv (v := .agg (List.toArray _)) rfl ?_ | refine bv (v := .int _ _) rfl ?_ | refine bv (v := .slice _ _ _) rfl ?_ | refine bv (v := .bool _) rfl ?_ | refine bv (v := .pointer _) rfl ?_ | refine bv (v := .string _) rfl ?_ | refine bv (v := .map _) rfl ?_ | refine bv (v := .func _ _ _) rfl ?_) | ((with_reducible refine gL rfl ?_); refine sh_lit HS.out rfl rfl (by go_simp; exact ⟨⟨rfl, rfl⟩, rfl⟩) ?_)); clear HS; intro g w1 hg HS1; (simp only [Frm.enc, Rep.enc, zeF, segOf, aL, aC, aE] at HS1); have HS := Aside0.mk HS1; clear HS1) | ((with_reducible refine gLd rfl ?_); refine ld2 HS.out rfl rfl rfl (by repeat (first | exact AtI.here | apply AtI.there)) ?_; (first | refine LdK.one ((agT _ (by decide)).trans rfl) rfl ?_ | (refine LdK.agg ((agT _ (by decide)).trans rfl) (szT _ (by decide)) (lb rfl) ?_; try simp only [szL, aP, aN, aT, aZ, aS, aD, aF, aJ, aK, aM, aO]))) | ((with_reducible refine gSt rfl ?_); refine st2 HS.out rfl rfl rfl rfl (by repeat (first | exact AtI.here | apply AtI.there)) ?_; (first | refine sv (u := .agg (List.toArray _)) rfl ?_ | refine sv (u := .int _ _) rfl ?_ | refine sv (u := .slice _ _ _) rfl ?_ | refine sv (u := .bool _) rfl ?_ | refine sv (u := .pointer _) rfl ?_ | refine sv (u := .string _) rfl ?_ | refine sv (u := .map _) rfl ?_ | refine sv (u := .func _ _ _) rfl ?_); refine sw (szT _ (by decide)) rfl (lb rfl) ?_; clear HS; intro w1 HS1; (simp only [Frm.enc, Rep.enc, segOf, aL, aZ, aS, putSeg] at HS1); have HS := Aside0.mk HS1; clear HS1)); try simp only [aP, aN, aT, aZ, aS]))
      all_goals
        go_ret
        have h := HS.out
        have hLl : Lk = l := by rw [← HLK.out, List.take_length]
        have hB : sB = sE := by rw [HB.out, List.drop_length, ← HBE.out]; rfl
        rw [hB, hLl] at h
        rw [hLl] at hc9
        exact ⟨A9, c9, S, by rw [hLl]; rfl, hc9, h⟩
end Go.Proofs.Ytkggchahhpmpbaa.Jud
