/- Lemmas towards the law: what of the text Jud4 it needs. -/
import Derived.Test.YtkggchahhpmpbaaJud2q
import Derived.Deep.DeepCutAuto
import Derived.Test.YtkggchahhpmpbaaSlXq
namespace Go.Proofs.Ytkggchahhpmpbaa.Jud
open Go.RowKit Go.Proofs.YtkggchahhpmpbaaW.PrintWords Go.Proofs.Ytkggchahhpmpbaa.Sl
set_option linter.unusedVariables false
set_option linter.unusedSimpArgs false
theorem drop_consP {α : Type} {l : List α} {k : Nat} {x d : α} (hk : k < l.length) (hx : l.getD k d = x) : l.drop k = x :: l.drop (k + 1) := by
  rw [List.drop_eq_getElem_cons hk]
  rw [List.getD_eq_getElem?_getD, List.getElem?_eq_getElem hk, Option.getD_some] at hx
  rw [hx]
theorem kinds3 (k : Int) : ((k == 81) = true ∧ (k == 66) = false ∧ (k == 69) = false) ∨ ((k == 81) = false ∧ (k == 66) = true ∧ (k == 69) = false) ∨ ((k == 81) = false ∧ (k == 66) = false ∧ (k == 69) = true) ∨ ((k == 81) = false ∧ (k == 66) = false ∧ (k == 69) = false) := by
  simp only [beq_eq_false_iff_ne, beq_iff_eq]
  omega
theorem kinds4 (k : Int) : ((k == 2) = true ∧ (k == 1) = false ∧ (k == 3) = false ∧ (k == 6) = false) ∨ ((k == 2) = false ∧ (k == 1) = true ∧ (k == 3) = false ∧ (k == 6) = false) ∨ ((k == 2) = false ∧ (k == 1) = false ∧ (k == 3) = true ∧ (k == 6) = false) ∨ ((k == 2) = false ∧ (k == 1) = false ∧ (k == 3) = false ∧ (k == 6) = true) ∨ ((k == 2) = false ∧ (k == 1) = false ∧ (k == 3) = false ∧ (k == 6) = false) := by
  simp only [beq_eq_false_iff_ne, beq_iff_eq]
  omega
theorem mayRd {w w' : World} {g : Nat} {l : List Int} (h : SH w w' [blk g (l.map (Value.int .i64)) 3]) (hm : l.length ≤ 9223372036854775807) : Rd (ints .i64) 1 w' (some ⟨g, 0, none⟩) l.length l :=
  Rd.lit (ints_len .i64) (h.blk 0 rfl) rfl (by rw [List.map_eq_flatMap]; rfl) hm
theorem rd_tail {w : World} {ad : Addr} {m : Nat} {xs : List ByteArray} (h : Rd strs 1 w (some ad) (m + 1) xs) : Rd strs 1 w (some (ad.add 1)) m (xs.drop 1) := by
  refine ⟨by rw [List.length_drop, h.len.1]; rfl, by have := h.len.2; omega, fun hm => ⟨_, rfl, fun j p hj => ?_⟩⟩
  obtain ⟨a1, ha1, hr⟩ := h.2.2 (by omega)
  injection ha1 with ha1
  subst ha1
  rw [List.getElem?_drop] at hj
  obtain ⟨cs, h1, h2, h3⟩ := hr (1 + j) p hj
  refine ⟨cs, h1, h2, fun i u hu => ?_⟩
  rw [← h3 i u hu, add_add, ← Nat.add_assoc]
  congr 2
  omega
theorem rd_tail1 {w : World} {ad : Addr} {m c : Nat} {xs : List ByteArray} (h : Rd strs 1 w (some ad) (m + 1) xs) (hc : m + 1 ≤ c) : Rd strs 1 w (if c = 1 then some ad else some { block := ad.block, off := ad.off + 1 }) m (xs.drop 1) := by
  by_cases h1 : c = 1
  · obtain rfl : m = 0 := by omega
    exact ⟨by rw [List.length_drop, h.len.1], by omega, fun h => absurd h (by omega)⟩
  · rw [if_neg h1]
    exact rd_tail h
theorem may_len (b : Bool) (k : Int) : (mayBe b k).length ≤ 9223372036854775807 := by
  unfold mayBe
  repeat' split
  all_goals decide
def FitsPostP (res : Int × Int) (w : World) (e : Ending) (w' : World) : Prop := e = .returned (.tuple #[.int .i64 res.1, .int .i64 res.2]) ∧ Below w.heap.size w w'
set_option maxHeartbeats 6400000 in
set_option maxRecDepth 100000 in
theorem fits_any (A B C : Option Addr) (c1 c2 c3 : Nat) (sent : List Frm) (served : List ByteArray) (told : List Rep) (w : World) {N1 N2 N3 : Nat} (hr1 : Rd Frm.enc 2 w A N1 sent) (hr2 : Rd strs 1 w B N2 served) (hr3 : Rd Rep.enc 3 w C N3 told) (hc2 : N2 ≤ c2) :
    Calls Try.prog 12 #[.slice A N1 c1, .slice B N2 c2, .slice C N3 c3] w (FitsPostP (pGo sent served told 0 false 0) w) := by
  obtain rfl := hr1.len.1
  obtain rfl := hr2.len.1
  obtain rfl := hr3.len.1
  have hm1 := hr1.len.2
  have hm2 := hr2.len.2
  have hm3 := hr3.len.2
  have HR1 := Aside0.mk hr1
  have HR2 := Aside0.mk hr2
  have HR3 := Aside0.mk hr3
  clear hr1 hr2 hr3
  generalize hres : pGo sent served told 0 false 0 = res
  have HRES := Aside0.mk (show pGo sent served (told.drop 0) 0 false 0 = res from hres)
  clear hres
  have HS := Aside0.mk (SH.start w)
  go_enter Try.func12, Try.ntmps12
  go_wp2
  go_loopw [1, 8, 16] (fun v1 v8 v16 wr => ∃ (k n m : Nat) (wi : Bool) (B' : Option Addr) (c' : Nat), k ≤ told.length ∧ v16 = .int .i64 k ∧ v8 = .bool wi ∧ v1 = .slice B' m c' ∧ Aside0 (m + n = served.length) ∧ m ≤ c' ∧ Aside0 (Rd strs 1 w B' m (served.drop n)) ∧ Aside0 (pGo sent served (told.drop k) k wi n = res) ∧ Aside0 (SH w wr [])) (fun _ _ v16 _ => told.length - (intOf v16).toNat)
  case atStart => exact ⟨0, 0, served.length, false, B, c2, Nat.zero_le _, rfl, rfl, rfl, ⟨rfl⟩, hc2, HR2, HRES, HS⟩
  case round =>
    clear HS HRES HR2
    obtain ⟨k, n, m, wi, B', c', hk, rfl, rfl, rfl, HN0, hc', HR2, HF, HS⟩ := hrel
    by_cases hlt : k < told.length
    · obtain ⟨ad3, rfl⟩ := HR3.out.addr (by omega)
      generalize hx : told.getD k default = x
      have hF := HF.out
      rw [drop_consP hlt hx, pGo] at hF
      clear HF
      have HF := Aside0.mk hF
      clear hF
      have HX := Aside0.mk hx
      clear hx
      have HRR := Aside0.mk (HR3.out.sh HS.out)
      by_cases hs : k < sent.length
      · obtain ⟨ad1, rfl⟩ := HR1.out.addr (by omega)
        generalize hy : sent.getD k default = y
        have HY := Aside0.mk hy
        clear hy
        have hF := HF.out
        rw [if_neg (by omega), HY.out] at hF
        clear HF
        have HF := Aside0.mk hF
        clear hF
        go_upto_region 7 with (first | ((with_reducible refine gLd rfl ?_); refine rd_load HRR.out rfl rfl (i := k) rfl hlt default Rep.len ((agT _ (by decide)).trans rfl) (szT _ (by decide)) ?_; intro x hx; obtain rfl := HX.out.symm.trans hx; (try simp only [Frm.enc, Rep.enc, aP, aN, aT, aZ, aS])) | ((first | ((first | ((with_reducible refine gA rfl ?_); refine sh_alloc HS.out rfl rfl (zeT _ (by decide)) ?_) | ((with_reducible refine gB rfl ?_); refine bx HS.out rfl rfl ?_; first | refine bv (v := .agg (List.toArray _)) rfl ?_ | refine bv (v := .int _ _) rfl ?_ | refine bv (v := .slice _ _ _) rfl ?_ | refine bv (v := .bool _) rfl ?_ | refine bv (v := .pointer _) rfl ?_ | refine bv (v := .string _) rfl ?_ | refine bv (v := .map _) rfl ?_ | refine bv (v := .func _ _ _) rfl ?_) | ((with_reducible refine gL rfl ?_); refine sh_lit HS.out rfl rfl (by go_simp; exact ⟨⟨rfl, rfl⟩, rfl⟩) ?_)); clear HS; intro g w1 hg HS1; (simp only [Frm.enc, Rep.enc, zeF, segOf, aL, aC, aE] at HS1); have HS := Aside0.mk HS1; clear HS1) | ((with_reducible refine gLd rfl ?_); refine ld2 HS.out rfl rfl rfl (by repeat (first | exact AtI.here | apply AtI.there)) ?_; (first | refine LdK.one ((agT _ (by decide)).trans rfl) rfl ?_ | (refine LdK.agg ((agT _ (by decide)).trans rfl) (szT _ (by decide)) (lb rfl) ?_; try simp only [szL, aP, aN, aT, aZ, aS, aD, aF, aJ, aK, aM, aO]))) | ((with_reducible refine gSt rfl ?_); refine st2 HS.out rfl rfl rfl rfl (by repeat (first | exact AtI.here | apply AtI.there)) ?_; (first | refine sv (u := .agg (List.toArray _)) rfl ?_ | refine sv (u := .int _ _) rfl ?_ | refine sv (u := .slice _ _ _) rfl ?_ | refine sv (u := .bool _) rfl ?_ | refine sv (u := .pointer _) rfl ?_ | refine sv (u := .string _) rfl ?_ | refine sv (u := .map _) rfl ?_ | refine sv (u := .func _ _ _) rfl ?_); refine sw (szT _ (by decide)) rfl (lb rfl) ?_; clear HS; intro w1 HS1; (simp only [Frm.enc, Rep.enc, segOf, aL, aZ, aS, putSeg] at HS1); have HS := Aside0.mk HS1; clear HS1)); try simp only [aP, aN, aT, aZ, aS]))
        obtain ⟨gr, hgr⟩ : ∃ gr, gr = g := ⟨_, rfl⟩
        subst hgr
        have HRR1 := Aside0.mk (HR1.out.sh HS.out)
        go_upto_region 9 with (first | ((with_reducible refine gLd rfl ?_); refine rd_load HRR1.out rfl rfl (i := k) rfl hs default Frm.len ((agT _ (by decide)).trans rfl) (szT _ (by decide)) ?_; intro x hx; obtain rfl := HY.out.symm.trans hx; (try simp only [Frm.enc, Rep.enc, aP, aN, aT, aZ, aS])) | ((first | ((first | ((with_reducible refine gA rfl ?_); refine sh_alloc HS.out rfl rfl (zeT _ (by decide)) ?_) | ((with_reducible refine gB rfl ?_); refine bx HS.out rfl rfl ?_; first | refine bv (v := .agg (List.toArray _)) rfl ?_ | refine bv (v := .int _ _) rfl ?_ | refine bv (v := .slice _ _ _) rfl ?_ | refine bv (v := .bool _) rfl ?_ | refine bv (v := .pointer _) rfl ?_ | refine bv (v := .string _) rfl ?_ | refine bv (v := .map _) rfl ?_ | refine bv (v := .func _ _ _) rfl ?_) | ((with_reducible refine gL rfl ?_); refine sh_lit HS.out rfl rfl (by go_simp; exact ⟨⟨rfl, rfl⟩, rfl⟩) ?_)); clear HS; intro g w1 hg HS1; (simp only [Frm.enc, Rep.enc, zeF, segOf, aL, aC, aE] at HS1); have HS := Aside0.mk HS1; clear HS1) | ((with_reducible refine gLd rfl ?_); refine ld2 HS.out rfl rfl rfl (by repeat (first | exact AtI.here | apply AtI.there)) ?_; (first | refine LdK.one ((agT _ (by decide)).trans rfl) rfl ?_ | (refine LdK.agg ((agT _ (by decide)).trans rfl) (szT _ (by decide)) (lb rfl) ?_; try simp only [szL, aP, aN, aT, aZ, aS, aD, aF, aJ, aK, aM, aO]))) | ((with_reducible refine gSt rfl ?_); refine st2 HS.out rfl rfl rfl rfl (by repeat (first | exact AtI.here | apply AtI.there)) ?_; (first | refine sv (u := .agg (List.toArray _)) rfl ?_ | refine sv (u := .int _ _) rfl ?_ | refine sv (u := .slice _ _ _) rfl ?_ | refine sv (u := .bool _) rfl ?_ | refine sv (u := .pointer _) rfl ?_ | refine sv (u := .string _) rfl ?_ | refine sv (u := .map _) rfl ?_ | refine sv (u := .func _ _ _) rfl ?_); refine sw (szT _ (by decide)) rfl (lb rfl) ?_; clear HS; intro w1 HS1; (simp only [Frm.enc, Rep.enc, segOf, aL, aZ, aS, putSeg] at HS1); have HS := Aside0.mk HS1; clear HS1)); try simp only [aP, aN, aT, aZ, aS]))
        obtain ⟨gf, hgf⟩ : ∃ gf, gf = g := ⟨_, rfl⟩
        subst hgf
        go_cut [12, 59] (fun v12 v59 wx => v12 = .bool (y.kind == 81) ∧ v59 = .bool (!pFrame y) ∧ Aside0 (SH w wx [blk gr [.int .i64 x.kind, .int .i64 x.node, .string x.text] 46, blk gf [.int .u8 y.kind, .string y.text] 63]))
        case first =>
          have HPF := Aside0.mk (rfl : pFrame y = pFrame y)
          rcases kinds3 y.kind with ⟨h1, h2, h3⟩ | ⟨h1, h2, h3⟩ | ⟨h1, h2, h3⟩ | ⟨h1, h2, h3⟩ <;> cases he : y.text.toList.isEmpty <;>
            (have h2' : (y.kind != 66) = !(y.kind == 66) := rfl
             have h3' : (y.kind != 69) = !(y.kind == 69) := rfl
             rw [h2] at h2'
             rw [h3] at h3'
             simp only [Bool.not_true, Bool.not_false] at h2' h3'
             go_wp2_with (first | ((first | ((first | ((with_reducible refine gA rfl ?_); refine sh_alloc HS.out rfl rfl (zeT _ (by decide)) ?_) | ((with_reducible refine gB rfl ?_); refine bx HS.out rfl rfl ?_; first | refine bv (v := .agg (List.toArray _)) rfl ?_ | refine bv (v := .int _ _) rfl ?_ | refine bv (v := .slice _ _ _) rfl ?_ | refine bv (v := .bool _) rfl ?_ | refine bv (v := .pointer _) rfl ?_ | refine bv (v := .string _) rfl ?_ | refine bv (v := .map _) rfl ?_ | refine bv (v := .func _ _ _) rfl ?_) | ((with_reducible refine gL rfl ?_); refine sh_lit HS.out rfl rfl (by go_simp; exact ⟨⟨rfl, rfl⟩, rfl⟩) ?_)); clear HS; intro g w1 hg HS1; (simp only [Frm.enc, Rep.enc, zeF, segOf, aL, aC, aE] at HS1); have HS := Aside0.mk HS1; clear HS1) | ((with_reducible refine gLd rfl ?_); refine ld2 HS.out rfl rfl rfl (by repeat (first | exact AtI.here | apply AtI.there)) ?_; (first | refine LdK.one ((agT _ (by decide)).trans rfl) rfl ?_ | (refine LdK.agg ((agT _ (by decide)).trans rfl) (szT _ (by decide)) (lb rfl) ?_; try simp only [szL, aP, aN, aT, aZ, aS, aD, aF, aJ, aK, aM, aO]))) | ((with_reducible refine gSt rfl ?_); refine st2 HS.out rfl rfl rfl rfl (by repeat (first | exact AtI.here | apply AtI.there)) ?_; (first | refine sv (u := .agg (List.toArray _)) rfl ?_ | refine sv (u := .int _ _) rfl ?_ | refine sv (u := .slice _ _ _) rfl ?_ | refine sv (u := .bool _) rfl ?_ | refine sv (u := .pointer _) rfl ?_ | refine sv (u := .string _) rfl ?_ | refine sv (u := .map _) rfl ?_ | refine sv (u := .func _ _ _) rfl ?_); refine sw (szT _ (by decide)) rfl (lb rfl) ?_; clear HS; intro w1 HS1; (simp only [Frm.enc, Rep.enc, segOf, aL, aZ, aS, putSeg] at HS1); have HS := Aside0.mk HS1; clear HS1)); try simp only [aP, aN, aT, aZ, aS]))
             go_meet
             case rel =>
               refine ⟨by rw [h1], ?_, HS⟩
               refine congrArg Value.bool ?_
               unfold pFrame
               rw [h1, h2, h3, he]
               simp)
        case rest =>
          clear HS HRR HRR1
          obtain ⟨rfl, hv59, HS⟩ := hcut
          generalize hbf : (!pFrame y) = bf at hv59
          obtain rfl := hv59
          have hF := HF.out
          rw [hbf] at hF
          clear HF hbf
          have HF := Aside0.mk hF
          clear hF
          cases bf with
          | true =>
            go_wp2_with (first | ((first | ((first | ((with_reducible refine gA rfl ?_); refine sh_alloc HS.out rfl rfl (zeT _ (by decide)) ?_) | ((with_reducible refine gB rfl ?_); refine bx HS.out rfl rfl ?_; first | refine bv (v := .agg (List.toArray _)) rfl ?_ | refine bv (v := .int _ _) rfl ?_ | refine bv (v := .slice _ _ _) rfl ?_ | refine bv (v := .bool _) rfl ?_ | refine bv (v := .pointer _) rfl ?_ | refine bv (v := .string _) rfl ?_ | refine bv (v := .map _) rfl ?_ | refine bv (v := .func _ _ _) rfl ?_) | ((with_reducible refine gL rfl ?_); refine sh_lit HS.out rfl rfl (by go_simp; exact ⟨⟨rfl, rfl⟩, rfl⟩) ?_)); clear HS; intro g w1 hg HS1; (simp only [Frm.enc, Rep.enc, zeF, segOf, aL, aC, aE] at HS1); have HS := Aside0.mk HS1; clear HS1) | ((with_reducible refine gLd rfl ?_); refine ld2 HS.out rfl rfl rfl (by repeat (first | exact AtI.here | apply AtI.there)) ?_; (first | refine LdK.one ((agT _ (by decide)).trans rfl) rfl ?_ | (refine LdK.agg ((agT _ (by decide)).trans rfl) (szT _ (by decide)) (lb rfl) ?_; try simp only [szL, aP, aN, aT, aZ, aS, aD, aF, aJ, aK, aM, aO]))) | ((with_reducible refine gSt rfl ?_); refine st2 HS.out rfl rfl rfl rfl (by repeat (first | exact AtI.here | apply AtI.there)) ?_; (first | refine sv (u := .agg (List.toArray _)) rfl ?_ | refine sv (u := .int _ _) rfl ?_ | refine sv (u := .slice _ _ _) rfl ?_ | refine sv (u := .bool _) rfl ?_ | refine sv (u := .pointer _) rfl ?_ | refine sv (u := .string _) rfl ?_ | refine sv (u := .map _) rfl ?_ | refine sv (u := .func _ _ _) rfl ?_); refine sw (szT _ (by decide)) rfl (lb rfl) ?_; clear HS; intro w1 HS1; (simp only [Frm.enc, Rep.enc, segOf, aL, aZ, aS, putSeg] at HS1); have HS := Aside0.mk HS1; clear HS1)); try simp only [aP, aN, aT, aZ, aS]))
            go_ret2
            exact ⟨by rw [← HF.out]; rfl, HS.out.below⟩
          | false =>
            go_upto_if 66 with (first | ((first | ((first | ((with_reducible refine gA rfl ?_); refine sh_alloc HS.out rfl rfl (zeT _ (by decide)) ?_) | ((with_reducible refine gB rfl ?_); refine bx HS.out rfl rfl ?_; first | refine bv (v := .agg (List.toArray _)) rfl ?_ | refine bv (v := .int _ _) rfl ?_ | refine bv (v := .slice _ _ _) rfl ?_ | refine bv (v := .bool _) rfl ?_ | refine bv (v := .pointer _) rfl ?_ | refine bv (v := .string _) rfl ?_ | refine bv (v := .map _) rfl ?_ | refine bv (v := .func _ _ _) rfl ?_) | ((with_reducible refine gL rfl ?_); refine sh_lit HS.out rfl rfl (by go_simp; exact ⟨⟨rfl, rfl⟩, rfl⟩) ?_)); clear HS; intro g w1 hg HS1; (simp only [Frm.enc, Rep.enc, zeF, segOf, aL, aC, aE] at HS1); have HS := Aside0.mk HS1; clear HS1) | ((with_reducible refine gLd rfl ?_); refine ld2 HS.out rfl rfl rfl (by repeat (first | exact AtI.here | apply AtI.there)) ?_; (first | refine LdK.one ((agT _ (by decide)).trans rfl) rfl ?_ | (refine LdK.agg ((agT _ (by decide)).trans rfl) (szT _ (by decide)) (lb rfl) ?_; try simp only [szL, aP, aN, aT, aZ, aS, aD, aF, aJ, aK, aM, aO]))) | ((with_reducible refine gSt rfl ?_); refine st2 HS.out rfl rfl rfl rfl (by repeat (first | exact AtI.here | apply AtI.there)) ?_; (first | refine sv (u := .agg (List.toArray _)) rfl ?_ | refine sv (u := .int _ _) rfl ?_ | refine sv (u := .slice _ _ _) rfl ?_ | refine sv (u := .bool _) rfl ?_ | refine sv (u := .pointer _) rfl ?_ | refine sv (u := .string _) rfl ?_ | refine sv (u := .map _) rfl ?_ | refine sv (u := .func _ _ _) rfl ?_); refine sw (szT _ (by decide)) rfl (lb rfl) ?_; clear HS; intro w1 HS1; (simp only [Frm.enc, Rep.enc, segOf, aL, aZ, aS, putSeg] at HS1); have HS := Aside0.mk HS1; clear HS1)); try simp only [aP, aN, aT, aZ, aS]))
            go_cut [13] (fun v13 wx => v13 = .bool (pNode x) ∧ Aside0 (SH w wx [blk gr [.int .i64 x.kind, .int .i64 x.node, .string x.text] 46, blk gf [.int .u8 y.kind, .string y.text] 63]))
            case first =>
              go_wp2_with (first | ((first | ((first | ((with_reducible refine gA rfl ?_); refine sh_alloc HS.out rfl rfl (zeT _ (by decide)) ?_) | ((with_reducible refine gB rfl ?_); refine bx HS.out rfl rfl ?_; first | refine bv (v := .agg (List.toArray _)) rfl ?_ | refine bv (v := .int _ _) rfl ?_ | refine bv (v := .slice _ _ _) rfl ?_ | refine bv (v := .bool _) rfl ?_ | refine bv (v := .pointer _) rfl ?_ | refine bv (v := .string _) rfl ?_ | refine bv (v := .map _) rfl ?_ | refine bv (v := .func _ _ _) rfl ?_) | ((with_reducible refine gL rfl ?_); refine sh_lit HS.out rfl rfl (by go_simp; exact ⟨⟨rfl, rfl⟩, rfl⟩) ?_)); clear HS; intro g w1 hg HS1; (simp only [Frm.enc, Rep.enc, zeF, segOf, aL, aC, aE] at HS1); have HS := Aside0.mk HS1; clear HS1) | ((with_reducible refine gLd rfl ?_); refine ld2 HS.out rfl rfl rfl (by repeat (first | exact AtI.here | apply AtI.there)) ?_; (first | refine LdK.one ((agT _ (by decide)).trans rfl) rfl ?_ | (refine LdK.agg ((agT _ (by decide)).trans rfl) (szT _ (by decide)) (lb rfl) ?_; try simp only [szL, aP, aN, aT, aZ, aS, aD, aF, aJ, aK, aM, aO]))) | ((with_reducible refine gSt rfl ?_); refine st2 HS.out rfl rfl rfl rfl (by repeat (first | exact AtI.here | apply AtI.there)) ?_; (first | refine sv (u := .agg (List.toArray _)) rfl ?_ | refine sv (u := .int _ _) rfl ?_ | refine sv (u := .slice _ _ _) rfl ?_ | refine sv (u := .bool _) rfl ?_ | refine sv (u := .pointer _) rfl ?_ | refine sv (u := .string _) rfl ?_ | refine sv (u := .map _) rfl ?_ | refine sv (u := .func _ _ _) rfl ?_); refine sw (szT _ (by decide)) rfl (lb rfl) ?_; clear HS; intro w1 HS1; (simp only [Frm.enc, Rep.enc, segOf, aL, aZ, aS, putSeg] at HS1); have HS := Aside0.mk HS1; clear HS1)); try simp only [aP, aN, aT, aZ, aS]) | ((with_reducible refine gGd rfl ?_); refine gsplit rfl rfl ?_ ?_ <;> (intro h; (fail_if_success guard_hyp h : true = true); (fail_if_success guard_hyp h : false = false); (fail_if_success guard_hyp h : true = false); (fail_if_success guard_hyp h : false = true); rewrite [h]; (try simp only [decide_eq_true_eq, decide_eq_false_iff_not, Bool.not_eq_true', Bool.not_eq_false', Int.not_lt, Int.not_le] at h);  (try first | contradiction | go_big_false); (try with_reducible refine WP.mk ?_))))
              all_goals
                go_meet
                case rel =>
                  refine ⟨?_, HS⟩
                  refine congrArg Value.bool ?_
                  clear HS HF HX HY HR1 HR2 HR3
                  (repeat (rename ∀ (_ : Act) (_ : World), _ => hK9; clear hK9))
                  unfold pNode
                  first | (simp_all; done) | (simp_all; omega) | grind
            case rest =>
              clear HS
              obtain ⟨rfl, HS⟩ := hcut
              generalize hbn : pNode x = bn
              have HBN := Aside0.mk hbn
              clear hbn
              go_upto_region 14 with (first | ((first | ((first | ((with_reducible refine gA rfl ?_); refine sh_alloc HS.out rfl rfl (zeT _ (by decide)) ?_) | ((with_reducible refine gB rfl ?_); refine bx HS.out rfl rfl ?_; first | refine bv (v := .agg (List.toArray _)) rfl ?_ | refine bv (v := .int _ _) rfl ?_ | refine bv (v := .slice _ _ _) rfl ?_ | refine bv (v := .bool _) rfl ?_ | refine bv (v := .pointer _) rfl ?_ | refine bv (v := .string _) rfl ?_ | refine bv (v := .map _) rfl ?_ | refine bv (v := .func _ _ _) rfl ?_) | ((with_reducible refine gL rfl ?_); refine sh_lit HS.out rfl rfl (by go_simp; exact ⟨⟨rfl, rfl⟩, rfl⟩) ?_)); clear HS; intro g w1 hg HS1; (simp only [Frm.enc, Rep.enc, zeF, segOf, aL, aC, aE] at HS1); have HS := Aside0.mk HS1; clear HS1) | ((with_reducible refine gLd rfl ?_); refine ld2 HS.out rfl rfl rfl (by repeat (first | exact AtI.here | apply AtI.there)) ?_; (first | refine LdK.one ((agT _ (by decide)).trans rfl) rfl ?_ | (refine LdK.agg ((agT _ (by decide)).trans rfl) (szT _ (by decide)) (lb rfl) ?_; try simp only [szL, aP, aN, aT, aZ, aS, aD, aF, aJ, aK, aM, aO]))) | ((with_reducible refine gSt rfl ?_); refine st2 HS.out rfl rfl rfl rfl (by repeat (first | exact AtI.here | apply AtI.there)) ?_; (first | refine sv (u := .agg (List.toArray _)) rfl ?_ | refine sv (u := .int _ _) rfl ?_ | refine sv (u := .slice _ _ _) rfl ?_ | refine sv (u := .bool _) rfl ?_ | refine sv (u := .pointer _) rfl ?_ | refine sv (u := .string _) rfl ?_ | refine sv (u := .map _) rfl ?_ | refine sv (u := .func _ _ _) rfl ?_); refine sw (szT _ (by decide)) rfl (lb rfl) ?_; clear HS; intro w1 HS1; (simp only [Frm.enc, Rep.enc, segOf, aL, aZ, aS, putSeg] at HS1); have HS := Aside0.mk HS1; clear HS1)); try simp only [aP, aN, aT, aZ, aS]))
              go_cut [96] (fun v96 wx => v96 = .bool (!pArg wi y x) ∧ Aside0 (SH w wx [blk gr [.int .i64 x.kind, .int .i64 x.node, .string x.text] 46, blk gf [.int .u8 y.kind, .string y.text] 63]))
              case first =>
                cases hin : isIn (mayBe wi y.kind) x.kind with
                | false =>
                  have HIN := Aside0.mk hin
                  clear hin
                  refine held_start mixed HS.out (fun HS1 => ?_)
                  clear HS
                  have HS := Aside0.mk HS1
                  clear HS1
                  refine h_val 0 (v := _) (by simp only [aG, aH, aI]; rfl) (by kernel_rfl) (by kernel_rfl) (by kernel_rfl) (by exact fun _ _ _ h => h) HS.out (by kernel_rfl) (fun w hs => by (repeat (rename ∀ (_ : Act) (_ : World), _ => hK9; clear hK9)); go_simp; rfl) ?_
                  (try simp only [aP, aN, aT, aZ, aS])
                  refine h_val 1 (v := _) (by simp only [aG, aH, aI]; rfl) (by kernel_rfl) (by kernel_rfl) (by kernel_rfl) (by exact fun _ _ _ h => h) HS.out (by kernel_rfl) (fun w hs => by (repeat (rename ∀ (_ : Act) (_ : World), _ => hK9; clear hK9)); go_simp; rfl) ?_
                  (try simp only [aP, aN, aT, aZ, aS])
                  refine h_load 2 (by simp only [aG, aH, aI]; rfl) (by kernel_rfl) (by kernel_rfl) (by kernel_rfl) (by exact fun _ _ _ h => h) HS.out (by kernel_rfl) rfl rfl 1 rfl ((agT _ (by decide)).trans rfl) rfl ?_
                  (try simp only [aP, aN, aT, aZ, aS])
                  refine h_val 4 (v := _) (by simp only [aG, aH, aI]; rfl) (by kernel_rfl) (by kernel_rfl) (by kernel_rfl) (by exact fun _ _ _ h => h) HS.out (by kernel_rfl) (fun w hs => by (repeat (rename ∀ (_ : Act) (_ : World), _ => hK9; clear hK9)); go_simp; rfl) ?_
                  (try simp only [aP, aN, aT, aZ, aS])
                  refine h_load 5 (by simp only [aG, aH, aI]; rfl) (by kernel_rfl) (by kernel_rfl) (by kernel_rfl) (by exact fun _ _ _ h => h) HS.out (by kernel_rfl) rfl rfl 0 rfl ((agT _ (by decide)).trans rfl) rfl ?_
                  (try simp only [aP, aN, aT, aZ, aS])
                  refine h_call 3 (by simp only [aG, aH, aI]; rfl) (by kernel_rfl) (by kernel_rfl) rfl (vs := #[.bool wi, .int .u8 y.kind]) (by kernel_rfl) (fnT _ (by decide)) (may_any wi y.kind _) (fun e w2 hpost => ?_); obtain ⟨gm, rfl, HM⟩ := hpost; have HS1 := HS.out.quiet HM.below; refine ⟨_, rfl, HS1, ?_⟩; clear HS; have HS := Aside0.mk HS1; clear HS1
                  (try simp only [aP, aN, aT, aZ, aS])
                  refine h_call 6 (by simp only [aG, aH, aI]; rfl) (by kernel_rfl) (by kernel_rfl) rfl (vs := #[.slice (some ⟨gm, 0, none⟩) (mayBe wi y.kind).length (mayBe wi y.kind).length, .int .i64 x.kind]) (by kernel_rfl) (fnT _ (by decide)) (contains_any _ _ (mayBe wi y.kind) x.kind _ (mayRd HM (may_len _ _))) (fun e w2 hpost => ?_); obtain ⟨rfl, rfl⟩ := hpost; rw [HIN.out]; refine ⟨_, rfl, HS.out, ?_⟩
                  (try simp only [aP, aN, aT, aZ, aS])
                  refine h_val 7 (v := _) (by simp only [aG, aH, aI]; rfl) (by kernel_rfl) (by kernel_rfl) (by kernel_rfl) (by exact fun _ _ _ h => h) HS.out (by kernel_rfl) (fun w hs => by (repeat (rename ∀ (_ : Act) (_ : World), _ => hK9; clear hK9)); go_simp; rfl) ?_
                  (try simp only [aP, aN, aT, aZ, aS])
                  refine h_val 8 (v := _) (by simp only [aG, aH, aI]; rfl) (by kernel_rfl) (by kernel_rfl) (by kernel_rfl) (by exact fun _ _ _ h => h) HS.out (by kernel_rfl) (fun w hs => by (repeat (rename ∀ (_ : Act) (_ : World), _ => hK9; clear hK9)); go_simp; rfl) ?_
                  (try simp only [aP, aN, aT, aZ, aS])
                  refine h_skip 9 (by simp only [aG, aH, aI]; rfl) (by kernel_rfl) (by kernel_rfl) (by kernel_rfl) (by exact fun _ _ _ h => h) HS.out (by kernel_rfl) ?_
                  (try simp only [aP, aN, aT, aZ, aS])
                  refine h_skip 10 (by simp only [aG, aH, aI]; rfl) (by kernel_rfl) (by kernel_rfl) (by kernel_rfl) (by exact fun _ _ _ h => h) HS.out (by kernel_rfl) ?_
                  (try simp only [aP, aN, aT, aZ, aS])
                  refine h_val 11 (v := _) (by simp only [aG, aH, aI]; rfl) (by kernel_rfl) (by kernel_rfl) (by kernel_rfl) (by exact fun _ _ _ h => h) HS.out (by kernel_rfl) (fun w hs => by (repeat (rename ∀ (_ : Act) (_ : World), _ => hK9; clear hK9)); go_simp; rfl) ?_
                  (try simp only [aP, aN, aT, aZ, aS])
                  refine h_val 12 (v := _) (by simp only [aG, aH, aI]; rfl) (by kernel_rfl) (by kernel_rfl) (by kernel_rfl) (by exact fun _ _ _ h => h) HS.out (by kernel_rfl) (fun w hs => by (repeat (rename ∀ (_ : Act) (_ : World), _ => hK9; clear hK9)); go_simp; rfl) ?_
                  (try simp only [aP, aN, aT, aZ, aS])
                  refine h_skip 13 (by simp only [aG, aH, aI]; rfl) (by kernel_rfl) (by kernel_rfl) (by kernel_rfl) (by exact fun _ _ _ h => h) HS.out (by kernel_rfl) ?_
                  (try simp only [aP, aN, aT, aZ, aS])
                  refine h_skip 14 (by simp only [aG, aH, aI]; rfl) (by kernel_rfl) (by kernel_rfl) (by kernel_rfl) (by exact fun _ _ _ h => h) HS.out (by kernel_rfl) ?_
                  (try simp only [aP, aN, aT, aZ, aS])
                  refine h_skip 15 (by simp only [aG, aH, aI]; rfl) (by kernel_rfl) (by kernel_rfl) (by kernel_rfl) (by exact fun _ _ _ h => h) HS.out (by kernel_rfl) ?_
                  (try simp only [aP, aN, aT, aZ, aS])
                  refine h_skip 16 (by simp only [aG, aH, aI]; rfl) (by kernel_rfl) (by kernel_rfl) (by kernel_rfl) (by exact fun _ _ _ h => h) HS.out (by kernel_rfl) ?_
                  (try simp only [aP, aN, aT, aZ, aS])
                  refine h_skip 17 (by simp only [aG, aH, aI]; rfl) (by kernel_rfl) (by kernel_rfl) (by kernel_rfl) (by exact fun _ _ _ h => h) HS.out (by kernel_rfl) ?_
                  (try simp only [aP, aN, aT, aZ, aS])
                  refine h_skip 18 (by simp only [aG, aH, aI]; rfl) (by kernel_rfl) (by kernel_rfl) (by kernel_rfl) (by exact fun _ _ _ h => h) HS.out (by kernel_rfl) ?_
                  (try simp only [aP, aN, aT, aZ, aS])
                  refine h_skip 19 (by simp only [aG, aH, aI]; rfl) (by kernel_rfl) (by kernel_rfl) (by kernel_rfl) (by exact fun _ _ _ h => h) HS.out (by kernel_rfl) ?_
                  (try simp only [aP, aN, aT, aZ, aS])
                  refine h_skip 20 (by simp only [aG, aH, aI]; rfl) (by kernel_rfl) (by kernel_rfl) (by kernel_rfl) (by exact fun _ _ _ h => h) HS.out (by kernel_rfl) ?_
                  (try simp only [aP, aN, aT, aZ, aS])
                  refine h_val 21 (v := _) (by simp only [aG, aH, aI]; rfl) (by kernel_rfl) (by kernel_rfl) (by kernel_rfl) (by exact fun _ _ _ h => h) HS.out (by kernel_rfl) (fun w hs => by (repeat (rename ∀ (_ : Act) (_ : World), _ => hK9; clear hK9)); go_simp; rfl) ?_
                  (try simp only [aP, aN, aT, aZ, aS])
                  refine wpAnyH_done (by kernel_rfl) ?_ _
                  go_wp2
                  go_meet
                  case rel =>
                    refine ⟨?_, HS⟩
                    refine congrArg Value.bool ?_
                    unfold pArg
                    rw [HIN.out, HBN.out]
                    simp_all
                | true =>
                  cases bn with
                  | false =>
                    have HIN := Aside0.mk hin
                    clear hin
                    refine held_start mixed HS.out (fun HS1 => ?_)
                    clear HS
                    have HS := Aside0.mk HS1
                    clear HS1
                    refine h_val 0 (v := _) (by simp only [aG, aH, aI]; rfl) (by kernel_rfl) (by kernel_rfl) (by kernel_rfl) (by exact fun _ _ _ h => h) HS.out (by kernel_rfl) (fun w hs => by (repeat (rename ∀ (_ : Act) (_ : World), _ => hK9; clear hK9)); go_simp; rfl) ?_
                    (try simp only [aP, aN, aT, aZ, aS])
                    refine h_val 1 (v := _) (by simp only [aG, aH, aI]; rfl) (by kernel_rfl) (by kernel_rfl) (by kernel_rfl) (by exact fun _ _ _ h => h) HS.out (by kernel_rfl) (fun w hs => by (repeat (rename ∀ (_ : Act) (_ : World), _ => hK9; clear hK9)); go_simp; rfl) ?_
                    (try simp only [aP, aN, aT, aZ, aS])
                    refine h_load 2 (by simp only [aG, aH, aI]; rfl) (by kernel_rfl) (by kernel_rfl) (by kernel_rfl) (by exact fun _ _ _ h => h) HS.out (by kernel_rfl) rfl rfl 1 rfl ((agT _ (by decide)).trans rfl) rfl ?_
                    (try simp only [aP, aN, aT, aZ, aS])
                    refine h_val 4 (v := _) (by simp only [aG, aH, aI]; rfl) (by kernel_rfl) (by kernel_rfl) (by kernel_rfl) (by exact fun _ _ _ h => h) HS.out (by kernel_rfl) (fun w hs => by (repeat (rename ∀ (_ : Act) (_ : World), _ => hK9; clear hK9)); go_simp; rfl) ?_
                    (try simp only [aP, aN, aT, aZ, aS])
                    refine h_load 5 (by simp only [aG, aH, aI]; rfl) (by kernel_rfl) (by kernel_rfl) (by kernel_rfl) (by exact fun _ _ _ h => h) HS.out (by kernel_rfl) rfl rfl 0 rfl ((agT _ (by decide)).trans rfl) rfl ?_
                    (try simp only [aP, aN, aT, aZ, aS])
                    refine h_call 3 (by simp only [aG, aH, aI]; rfl) (by kernel_rfl) (by kernel_rfl) rfl (vs := #[.bool wi, .int .u8 y.kind]) (by kernel_rfl) (fnT _ (by decide)) (may_any wi y.kind _) (fun e w2 hpost => ?_); obtain ⟨gm, rfl, HM⟩ := hpost; have HS1 := HS.out.quiet HM.below; refine ⟨_, rfl, HS1, ?_⟩; clear HS; have HS := Aside0.mk HS1; clear HS1
                    (try simp only [aP, aN, aT, aZ, aS])
                    refine h_call 6 (by simp only [aG, aH, aI]; rfl) (by kernel_rfl) (by kernel_rfl) rfl (vs := #[.slice (some ⟨gm, 0, none⟩) (mayBe wi y.kind).length (mayBe wi y.kind).length, .int .i64 x.kind]) (by kernel_rfl) (fnT _ (by decide)) (contains_any _ _ (mayBe wi y.kind) x.kind _ (mayRd HM (may_len _ _))) (fun e w2 hpost => ?_); obtain ⟨rfl, rfl⟩ := hpost; rw [HIN.out]; refine ⟨_, rfl, HS.out, ?_⟩
                    (try simp only [aP, aN, aT, aZ, aS])
                    refine h_val 7 (v := _) (by simp only [aG, aH, aI]; rfl) (by kernel_rfl) (by kernel_rfl) (by kernel_rfl) (by exact fun _ _ _ h => h) HS.out (by kernel_rfl) (fun w hs => by (repeat (rename ∀ (_ : Act) (_ : World), _ => hK9; clear hK9)); go_simp; rfl) ?_
                    (try simp only [aP, aN, aT, aZ, aS])
                    refine h_val 8 (v := _) (by simp only [aG, aH, aI]; rfl) (by kernel_rfl) (by kernel_rfl) (by kernel_rfl) (by exact fun _ _ _ h => h) HS.out (by kernel_rfl) (fun w hs => by (repeat (rename ∀ (_ : Act) (_ : World), _ => hK9; clear hK9)); go_simp; rfl) ?_
                    (try simp only [aP, aN, aT, aZ, aS])
                    refine h_val 9 (v := _) (by simp only [aG, aH, aI]; rfl) (by kernel_rfl) (by kernel_rfl) (by kernel_rfl) (by exact fun _ _ _ h => h) HS.out (by kernel_rfl) (fun w hs => by (repeat (rename ∀ (_ : Act) (_ : World), _ => hK9; clear hK9)); go_simp; rfl) ?_
                    (try simp only [aP, aN, aT, aZ, aS])
                    refine h_val 10 (v := _) (by simp only [aG, aH, aI]; rfl) (by kernel_rfl) (by kernel_rfl) (by kernel_rfl) (by exact fun _ _ _ h => h) HS.out (by kernel_rfl) (fun w hs => by (repeat (rename ∀ (_ : Act) (_ : World), _ => hK9; clear hK9)); go_simp; rfl) ?_
                    (try simp only [aP, aN, aT, aZ, aS])
                    refine h_val 11 (v := _) (by simp only [aG, aH, aI]; rfl) (by kernel_rfl) (by kernel_rfl) (by kernel_rfl) (by exact fun _ _ _ h => h) HS.out (by kernel_rfl) (fun w hs => by (repeat (rename ∀ (_ : Act) (_ : World), _ => hK9; clear hK9)); go_simp; rfl) ?_
                    (try simp only [aP, aN, aT, aZ, aS])
                    refine h_val 12 (v := _) (by simp only [aG, aH, aI]; rfl) (by kernel_rfl) (by kernel_rfl) (by kernel_rfl) (by exact fun _ _ _ h => h) HS.out (by kernel_rfl) (fun w hs => by (repeat (rename ∀ (_ : Act) (_ : World), _ => hK9; clear hK9)); go_simp; rfl) ?_
                    (try simp only [aP, aN, aT, aZ, aS])
                    refine h_skip 13 (by simp only [aG, aH, aI]; rfl) (by kernel_rfl) (by kernel_rfl) (by kernel_rfl) (by exact fun _ _ _ h => h) HS.out (by kernel_rfl) ?_
                    (try simp only [aP, aN, aT, aZ, aS])
                    refine h_skip 14 (by simp only [aG, aH, aI]; rfl) (by kernel_rfl) (by kernel_rfl) (by kernel_rfl) (by exact fun _ _ _ h => h) HS.out (by kernel_rfl) ?_
                    (try simp only [aP, aN, aT, aZ, aS])
                    refine h_skip 15 (by simp only [aG, aH, aI]; rfl) (by kernel_rfl) (by kernel_rfl) (by kernel_rfl) (by exact fun _ _ _ h => h) HS.out (by kernel_rfl) ?_
                    (try simp only [aP, aN, aT, aZ, aS])
                    refine h_skip 16 (by simp only [aG, aH, aI]; rfl) (by kernel_rfl) (by kernel_rfl) (by kernel_rfl) (by exact fun _ _ _ h => h) HS.out (by kernel_rfl) ?_
                    (try simp only [aP, aN, aT, aZ, aS])
                    refine h_skip 17 (by simp only [aG, aH, aI]; rfl) (by kernel_rfl) (by kernel_rfl) (by kernel_rfl) (by exact fun _ _ _ h => h) HS.out (by kernel_rfl) ?_
                    (try simp only [aP, aN, aT, aZ, aS])
                    refine h_skip 18 (by simp only [aG, aH, aI]; rfl) (by kernel_rfl) (by kernel_rfl) (by kernel_rfl) (by exact fun _ _ _ h => h) HS.out (by kernel_rfl) ?_
                    (try simp only [aP, aN, aT, aZ, aS])
                    refine h_skip 19 (by simp only [aG, aH, aI]; rfl) (by kernel_rfl) (by kernel_rfl) (by kernel_rfl) (by exact fun _ _ _ h => h) HS.out (by kernel_rfl) ?_
                    (try simp only [aP, aN, aT, aZ, aS])
                    refine h_skip 20 (by simp only [aG, aH, aI]; rfl) (by kernel_rfl) (by kernel_rfl) (by kernel_rfl) (by exact fun _ _ _ h => h) HS.out (by kernel_rfl) ?_
                    (try simp only [aP, aN, aT, aZ, aS])
                    refine h_val 21 (v := _) (by simp only [aG, aH, aI]; rfl) (by kernel_rfl) (by kernel_rfl) (by kernel_rfl) (by exact fun _ _ _ h => h) HS.out (by kernel_rfl) (fun w hs => by (repeat (rename ∀ (_ : Act) (_ : World), _ => hK9; clear hK9)); go_simp; rfl) ?_
                    (try simp only [aP, aN, aT, aZ, aS])
                    refine wpAnyH_done (by kernel_rfl) ?_ _
                    go_wp2
                    go_meet
                    case rel =>
                      refine ⟨?_, HS⟩
                      refine congrArg Value.bool ?_
                      unfold pArg
                      rw [HIN.out, HBN.out]
                      simp_all
                  | true =>
                    cases hk2 : (x.kind != 2) with
                    | false =>
                      have HIN := Aside0.mk hin
                      clear hin
                      refine held_start mixed HS.out (fun HS1 => ?_)
                      clear HS
                      have HS := Aside0.mk HS1
                      clear HS1
                      refine h_val 0 (v := _) (by simp only [aG, aH, aI]; rfl) (by kernel_rfl) (by kernel_rfl) (by kernel_rfl) (by exact fun _ _ _ h => h) HS.out (by kernel_rfl) (fun w hs => by (repeat (rename ∀ (_ : Act) (_ : World), _ => hK9; clear hK9)); go_simp; rfl) ?_
                      (try simp only [aP, aN, aT, aZ, aS])
                      refine h_val 1 (v := _) (by simp only [aG, aH, aI]; rfl) (by kernel_rfl) (by kernel_rfl) (by kernel_rfl) (by exact fun _ _ _ h => h) HS.out (by kernel_rfl) (fun w hs => by (repeat (rename ∀ (_ : Act) (_ : World), _ => hK9; clear hK9)); go_simp; rfl) ?_
                      (try simp only [aP, aN, aT, aZ, aS])
                      refine h_load 2 (by simp only [aG, aH, aI]; rfl) (by kernel_rfl) (by kernel_rfl) (by kernel_rfl) (by exact fun _ _ _ h => h) HS.out (by kernel_rfl) rfl rfl 1 rfl ((agT _ (by decide)).trans rfl) rfl ?_
                      (try simp only [aP, aN, aT, aZ, aS])
                      refine h_val 4 (v := _) (by simp only [aG, aH, aI]; rfl) (by kernel_rfl) (by kernel_rfl) (by kernel_rfl) (by exact fun _ _ _ h => h) HS.out (by kernel_rfl) (fun w hs => by (repeat (rename ∀ (_ : Act) (_ : World), _ => hK9; clear hK9)); go_simp; rfl) ?_
                      (try simp only [aP, aN, aT, aZ, aS])
                      refine h_load 5 (by simp only [aG, aH, aI]; rfl) (by kernel_rfl) (by kernel_rfl) (by kernel_rfl) (by exact fun _ _ _ h => h) HS.out (by kernel_rfl) rfl rfl 0 rfl ((agT _ (by decide)).trans rfl) rfl ?_
                      (try simp only [aP, aN, aT, aZ, aS])
                      refine h_call 3 (by simp only [aG, aH, aI]; rfl) (by kernel_rfl) (by kernel_rfl) rfl (vs := #[.bool wi, .int .u8 y.kind]) (by kernel_rfl) (fnT _ (by decide)) (may_any wi y.kind _) (fun e w2 hpost => ?_); obtain ⟨gm, rfl, HM⟩ := hpost; have HS1 := HS.out.quiet HM.below; refine ⟨_, rfl, HS1, ?_⟩; clear HS; have HS := Aside0.mk HS1; clear HS1
                      (try simp only [aP, aN, aT, aZ, aS])
                      refine h_call 6 (by simp only [aG, aH, aI]; rfl) (by kernel_rfl) (by kernel_rfl) rfl (vs := #[.slice (some ⟨gm, 0, none⟩) (mayBe wi y.kind).length (mayBe wi y.kind).length, .int .i64 x.kind]) (by kernel_rfl) (fnT _ (by decide)) (contains_any _ _ (mayBe wi y.kind) x.kind _ (mayRd HM (may_len _ _))) (fun e w2 hpost => ?_); obtain ⟨rfl, rfl⟩ := hpost; rw [HIN.out]; refine ⟨_, rfl, HS.out, ?_⟩
                      (try simp only [aP, aN, aT, aZ, aS])
                      refine h_val 7 (v := _) (by simp only [aG, aH, aI]; rfl) (by kernel_rfl) (by kernel_rfl) (by kernel_rfl) (by exact fun _ _ _ h => h) HS.out (by kernel_rfl) (fun w hs => by (repeat (rename ∀ (_ : Act) (_ : World), _ => hK9; clear hK9)); go_simp; rfl) ?_
                      (try simp only [aP, aN, aT, aZ, aS])
                      refine h_val 8 (v := _) (by simp only [aG, aH, aI]; rfl) (by kernel_rfl) (by kernel_rfl) (by kernel_rfl) (by exact fun _ _ _ h => h) HS.out (by kernel_rfl) (fun w hs => by (repeat (rename ∀ (_ : Act) (_ : World), _ => hK9; clear hK9)); go_simp; rfl) ?_
                      (try simp only [aP, aN, aT, aZ, aS])
                      refine h_val 9 (v := _) (by simp only [aG, aH, aI]; rfl) (by kernel_rfl) (by kernel_rfl) (by kernel_rfl) (by exact fun _ _ _ h => h) HS.out (by kernel_rfl) (fun w hs => by (repeat (rename ∀ (_ : Act) (_ : World), _ => hK9; clear hK9)); go_simp; rfl) ?_
                      (try simp only [aP, aN, aT, aZ, aS])
                      refine h_val 10 (v := _) (by simp only [aG, aH, aI]; rfl) (by kernel_rfl) (by kernel_rfl) (by kernel_rfl) (by exact fun _ _ _ h => h) HS.out (by kernel_rfl) (fun w hs => by (repeat (rename ∀ (_ : Act) (_ : World), _ => hK9; clear hK9)); go_simp; rfl) ?_
                      (try simp only [aP, aN, aT, aZ, aS])
                      refine h_val 11 (v := _) (by simp only [aG, aH, aI]; rfl) (by kernel_rfl) (by kernel_rfl) (by kernel_rfl) (by exact fun _ _ _ h => h) HS.out (by kernel_rfl) (fun w hs => by (repeat (rename ∀ (_ : Act) (_ : World), _ => hK9; clear hK9)); go_simp; rfl) ?_
                      (try simp only [aP, aN, aT, aZ, aS])
                      refine h_val 12 (v := _) (by simp only [aG, aH, aI]; rfl) (by kernel_rfl) (by kernel_rfl) (by kernel_rfl) (by exact fun _ _ _ h => h) HS.out (by kernel_rfl) (fun w hs => by (repeat (rename ∀ (_ : Act) (_ : World), _ => hK9; clear hK9)); go_simp; rfl) ?_
                      (try simp only [aP, aN, aT, aZ, aS])
                      refine h_val 13 (v := _) (by simp only [aG, aH, aI]; rfl) (by kernel_rfl) (by kernel_rfl) (by kernel_rfl) (by exact fun _ _ _ h => h) HS.out (by kernel_rfl) (fun w hs => by (repeat (rename ∀ (_ : Act) (_ : World), _ => hK9; clear hK9)); go_simp; rfl) ?_
                      (try simp only [aP, aN, aT, aZ, aS])
                      refine h_load 14 (by simp only [aG, aH, aI]; rfl) (by kernel_rfl) (by kernel_rfl) (by kernel_rfl) (by exact fun _ _ _ h => h) HS.out (by kernel_rfl) rfl rfl 0 rfl ((agT _ (by decide)).trans rfl) rfl ?_
                      (try simp only [aP, aN, aT, aZ, aS])
                      refine h_val 15 (v := _) (by simp only [aG, aH, aI]; rfl) (by kernel_rfl) (by kernel_rfl) (by kernel_rfl) (by exact fun _ _ _ h => h) HS.out (by kernel_rfl) (fun w hs => by (repeat (rename ∀ (_ : Act) (_ : World), _ => hK9; clear hK9)); go_simp; rfl) ?_
                      (try simp only [aP, aN, aT, aZ, aS])
                      refine h_val 16 (v := _) (by simp only [aG, aH, aI]; rfl) (by kernel_rfl) (by kernel_rfl) (by kernel_rfl) (by exact fun _ _ _ h => h) HS.out (by kernel_rfl) (fun w hs => by (repeat (rename ∀ (_ : Act) (_ : World), _ => hK9; clear hK9)); go_simp; rfl) ?_
                      (try simp only [aP, aN, aT, aZ, aS])
                      refine h_skip 17 (by simp only [aG, aH, aI]; rfl) (by kernel_rfl) (by kernel_rfl) (by kernel_rfl) (by exact fun _ _ _ h => h) HS.out (by kernel_rfl) ?_
                      (try simp only [aP, aN, aT, aZ, aS])
                      refine h_skip 18 (by simp only [aG, aH, aI]; rfl) (by kernel_rfl) (by kernel_rfl) (by kernel_rfl) (by exact fun _ _ _ h => h) HS.out (by kernel_rfl) ?_
                      (try simp only [aP, aN, aT, aZ, aS])
                      refine h_skip 19 (by simp only [aG, aH, aI]; rfl) (by kernel_rfl) (by kernel_rfl) (by kernel_rfl) (by exact fun _ _ _ h => h) HS.out (by kernel_rfl) ?_
                      (try simp only [aP, aN, aT, aZ, aS])
                      refine h_val 20 (v := _) (by simp only [aG, aH, aI]; rfl) (by kernel_rfl) (by kernel_rfl) (by kernel_rfl) (by exact fun _ _ _ h => h) HS.out (by kernel_rfl) (fun w hs => by (repeat (rename ∀ (_ : Act) (_ : World), _ => hK9; clear hK9)); go_simp; rfl) ?_
                      (try simp only [aP, aN, aT, aZ, aS])
                      refine h_val 21 (v := _) (by simp only [aG, aH, aI]; rfl) (by kernel_rfl) (by kernel_rfl) (by kernel_rfl) (by exact fun _ _ _ h => h) HS.out (by kernel_rfl) (fun w hs => by (repeat (rename ∀ (_ : Act) (_ : World), _ => hK9; clear hK9)); go_simp; rfl) ?_
                      (try simp only [aP, aN, aT, aZ, aS])
                      refine wpAnyH_done (by kernel_rfl) ?_ _
                      go_wp2
                      go_meet
                      case rel =>
                        refine ⟨?_, HS⟩
                        refine congrArg Value.bool ?_
                        unfold pArg
                        rw [HIN.out, HBN.out]
                        simp_all
                    | true =>
                      have HIN := Aside0.mk hin
                      clear hin
                      refine held_start mixed HS.out (fun HS1 => ?_)
                      clear HS
                      have HS := Aside0.mk HS1
                      clear HS1
                      refine h_val 0 (v := _) (by simp only [aG, aH, aI]; rfl) (by kernel_rfl) (by kernel_rfl) (by kernel_rfl) (by exact fun _ _ _ h => h) HS.out (by kernel_rfl) (fun w hs => by (repeat (rename ∀ (_ : Act) (_ : World), _ => hK9; clear hK9)); go_simp; rfl) ?_
                      (try simp only [aP, aN, aT, aZ, aS])
                      refine h_val 1 (v := _) (by simp only [aG, aH, aI]; rfl) (by kernel_rfl) (by kernel_rfl) (by kernel_rfl) (by exact fun _ _ _ h => h) HS.out (by kernel_rfl) (fun w hs => by (repeat (rename ∀ (_ : Act) (_ : World), _ => hK9; clear hK9)); go_simp; rfl) ?_
                      (try simp only [aP, aN, aT, aZ, aS])
                      refine h_load 2 (by simp only [aG, aH, aI]; rfl) (by kernel_rfl) (by kernel_rfl) (by kernel_rfl) (by exact fun _ _ _ h => h) HS.out (by kernel_rfl) rfl rfl 1 rfl ((agT _ (by decide)).trans rfl) rfl ?_
                      (try simp only [aP, aN, aT, aZ, aS])
                      refine h_val 4 (v := _) (by simp only [aG, aH, aI]; rfl) (by kernel_rfl) (by kernel_rfl) (by kernel_rfl) (by exact fun _ _ _ h => h) HS.out (by kernel_rfl) (fun w hs => by (repeat (rename ∀ (_ : Act) (_ : World), _ => hK9; clear hK9)); go_simp; rfl) ?_
                      (try simp only [aP, aN, aT, aZ, aS])
                      refine h_load 5 (by simp only [aG, aH, aI]; rfl) (by kernel_rfl) (by kernel_rfl) (by kernel_rfl) (by exact fun _ _ _ h => h) HS.out (by kernel_rfl) rfl rfl 0 rfl ((agT _ (by decide)).trans rfl) rfl ?_
                      (try simp only [aP, aN, aT, aZ, aS])
                      refine h_call 3 (by simp only [aG, aH, aI]; rfl) (by kernel_rfl) (by kernel_rfl) rfl (vs := #[.bool wi, .int .u8 y.kind]) (by kernel_rfl) (fnT _ (by decide)) (may_any wi y.kind _) (fun e w2 hpost => ?_); obtain ⟨gm, rfl, HM⟩ := hpost; have HS1 := HS.out.quiet HM.below; refine ⟨_, rfl, HS1, ?_⟩; clear HS; have HS := Aside0.mk HS1; clear HS1
                      (try simp only [aP, aN, aT, aZ, aS])
                      refine h_call 6 (by simp only [aG, aH, aI]; rfl) (by kernel_rfl) (by kernel_rfl) rfl (vs := #[.slice (some ⟨gm, 0, none⟩) (mayBe wi y.kind).length (mayBe wi y.kind).length, .int .i64 x.kind]) (by kernel_rfl) (fnT _ (by decide)) (contains_any _ _ (mayBe wi y.kind) x.kind _ (mayRd HM (may_len _ _))) (fun e w2 hpost => ?_); obtain ⟨rfl, rfl⟩ := hpost; rw [HIN.out]; refine ⟨_, rfl, HS.out, ?_⟩
                      (try simp only [aP, aN, aT, aZ, aS])
                      refine h_val 7 (v := _) (by simp only [aG, aH, aI]; rfl) (by kernel_rfl) (by kernel_rfl) (by kernel_rfl) (by exact fun _ _ _ h => h) HS.out (by kernel_rfl) (fun w hs => by (repeat (rename ∀ (_ : Act) (_ : World), _ => hK9; clear hK9)); go_simp; rfl) ?_
                      (try simp only [aP, aN, aT, aZ, aS])
                      refine h_val 8 (v := _) (by simp only [aG, aH, aI]; rfl) (by kernel_rfl) (by kernel_rfl) (by kernel_rfl) (by exact fun _ _ _ h => h) HS.out (by kernel_rfl) (fun w hs => by (repeat (rename ∀ (_ : Act) (_ : World), _ => hK9; clear hK9)); go_simp; rfl) ?_
                      (try simp only [aP, aN, aT, aZ, aS])
                      refine h_val 9 (v := _) (by simp only [aG, aH, aI]; rfl) (by kernel_rfl) (by kernel_rfl) (by kernel_rfl) (by exact fun _ _ _ h => h) HS.out (by kernel_rfl) (fun w hs => by (repeat (rename ∀ (_ : Act) (_ : World), _ => hK9; clear hK9)); go_simp; rfl) ?_
                      (try simp only [aP, aN, aT, aZ, aS])
                      refine h_val 10 (v := _) (by simp only [aG, aH, aI]; rfl) (by kernel_rfl) (by kernel_rfl) (by kernel_rfl) (by exact fun _ _ _ h => h) HS.out (by kernel_rfl) (fun w hs => by (repeat (rename ∀ (_ : Act) (_ : World), _ => hK9; clear hK9)); go_simp; rfl) ?_
                      (try simp only [aP, aN, aT, aZ, aS])
                      refine h_val 11 (v := _) (by simp only [aG, aH, aI]; rfl) (by kernel_rfl) (by kernel_rfl) (by kernel_rfl) (by exact fun _ _ _ h => h) HS.out (by kernel_rfl) (fun w hs => by (repeat (rename ∀ (_ : Act) (_ : World), _ => hK9; clear hK9)); go_simp; rfl) ?_
                      (try simp only [aP, aN, aT, aZ, aS])
                      refine h_val 12 (v := _) (by simp only [aG, aH, aI]; rfl) (by kernel_rfl) (by kernel_rfl) (by kernel_rfl) (by exact fun _ _ _ h => h) HS.out (by kernel_rfl) (fun w hs => by (repeat (rename ∀ (_ : Act) (_ : World), _ => hK9; clear hK9)); go_simp; rfl) ?_
                      (try simp only [aP, aN, aT, aZ, aS])
                      refine h_val 13 (v := _) (by simp only [aG, aH, aI]; rfl) (by kernel_rfl) (by kernel_rfl) (by kernel_rfl) (by exact fun _ _ _ h => h) HS.out (by kernel_rfl) (fun w hs => by (repeat (rename ∀ (_ : Act) (_ : World), _ => hK9; clear hK9)); go_simp; rfl) ?_
                      (try simp only [aP, aN, aT, aZ, aS])
                      refine h_load 14 (by simp only [aG, aH, aI]; rfl) (by kernel_rfl) (by kernel_rfl) (by kernel_rfl) (by exact fun _ _ _ h => h) HS.out (by kernel_rfl) rfl rfl 0 rfl ((agT _ (by decide)).trans rfl) rfl ?_
                      (try simp only [aP, aN, aT, aZ, aS])
                      refine h_val 15 (v := _) (by simp only [aG, aH, aI]; rfl) (by kernel_rfl) (by kernel_rfl) (by kernel_rfl) (by exact fun _ _ _ h => h) HS.out (by kernel_rfl) (fun w hs => by (repeat (rename ∀ (_ : Act) (_ : World), _ => hK9; clear hK9)); go_simp; rfl) ?_
                      (try simp only [aP, aN, aT, aZ, aS])
                      refine h_val 16 (v := _) (by simp only [aG, aH, aI]; rfl) (by kernel_rfl) (by kernel_rfl) (by kernel_rfl) (by exact fun _ _ _ h => h) HS.out (by kernel_rfl) (fun w hs => by (repeat (rename ∀ (_ : Act) (_ : World), _ => hK9; clear hK9)); go_simp; rfl) ?_
                      (try simp only [aP, aN, aT, aZ, aS])
                      refine h_val 17 (v := _) (by simp only [aG, aH, aI]; rfl) (by kernel_rfl) (by kernel_rfl) (by kernel_rfl) (by exact fun _ _ _ h => h) HS.out (by kernel_rfl) (fun w hs => by (repeat (rename ∀ (_ : Act) (_ : World), _ => hK9; clear hK9)); go_simp; rfl) ?_
                      (try simp only [aP, aN, aT, aZ, aS])
                      refine h_load 18 (by simp only [aG, aH, aI]; rfl) (by kernel_rfl) (by kernel_rfl) (by kernel_rfl) (by exact fun _ _ _ h => h) HS.out (by kernel_rfl) rfl rfl 0 rfl ((agT _ (by decide)).trans rfl) rfl ?_
                      (try simp only [aP, aN, aT, aZ, aS])
                      refine h_val 19 (v := _) (by simp only [aG, aH, aI]; rfl) (by kernel_rfl) (by kernel_rfl) (by kernel_rfl) (by exact fun _ _ _ h => h) HS.out (by kernel_rfl) (fun w hs => by (repeat (rename ∀ (_ : Act) (_ : World), _ => hK9; clear hK9)); go_simp; rfl) ?_
                      (try simp only [aP, aN, aT, aZ, aS])
                      refine h_val 20 (v := _) (by simp only [aG, aH, aI]; rfl) (by kernel_rfl) (by kernel_rfl) (by kernel_rfl) (by exact fun _ _ _ h => h) HS.out (by kernel_rfl) (fun w hs => by (repeat (rename ∀ (_ : Act) (_ : World), _ => hK9; clear hK9)); go_simp; rfl) ?_
                      (try simp only [aP, aN, aT, aZ, aS])
                      refine h_val 21 (v := _) (by simp only [aG, aH, aI]; rfl) (by kernel_rfl) (by kernel_rfl) (by kernel_rfl) (by exact fun _ _ _ h => h) HS.out (by kernel_rfl) (fun w hs => by (repeat (rename ∀ (_ : Act) (_ : World), _ => hK9; clear hK9)); go_simp; rfl) ?_
                      (try simp only [aP, aN, aT, aZ, aS])
                      refine wpAnyH_done (by kernel_rfl) ?_ _
                      go_wp2
                      go_meet
                      case rel =>
                        refine ⟨?_, HS⟩
                        refine congrArg Value.bool ?_
                        unfold pArg
                        rw [HIN.out, HBN.out]
                        simp_all
              case rest =>
                clear HS
                obtain ⟨rfl, HS⟩ := hcut
                generalize hba : (!pArg wi y x) = ba
                have hF := HF.out
                rw [hba] at hF
                clear HF hba
                have HF := Aside0.mk hF
                clear hF
                cases ba with
                | true =>
                  go_wp2_with (first | ((first | ((first | ((with_reducible refine gA rfl ?_); refine sh_alloc HS.out rfl rfl (zeT _ (by decide)) ?_) | ((with_reducible refine gB rfl ?_); refine bx HS.out rfl rfl ?_; first | refine bv (v := .agg (List.toArray _)) rfl ?_ | refine bv (v := .int _ _) rfl ?_ | refine bv (v := .slice _ _ _) rfl ?_ | refine bv (v := .bool _) rfl ?_ | refine bv (v := .pointer _) rfl ?_ | refine bv (v := .string _) rfl ?_ | refine bv (v := .map _) rfl ?_ | refine bv (v := .func _ _ _) rfl ?_) | ((with_reducible refine gL rfl ?_); refine sh_lit HS.out rfl rfl (by go_simp; exact ⟨⟨rfl, rfl⟩, rfl⟩) ?_)); clear HS; intro g w1 hg HS1; (simp only [Frm.enc, Rep.enc, zeF, segOf, aL, aC, aE] at HS1); have HS := Aside0.mk HS1; clear HS1) | ((with_reducible refine gLd rfl ?_); refine ld2 HS.out rfl rfl rfl (by repeat (first | exact AtI.here | apply AtI.there)) ?_; (first | refine LdK.one ((agT _ (by decide)).trans rfl) rfl ?_ | (refine LdK.agg ((agT _ (by decide)).trans rfl) (szT _ (by decide)) (lb rfl) ?_; try simp only [szL, aP, aN, aT, aZ, aS, aD, aF, aJ, aK, aM, aO]))) | ((with_reducible refine gSt rfl ?_); refine st2 HS.out rfl rfl rfl rfl (by repeat (first | exact AtI.here | apply AtI.there)) ?_; (first | refine sv (u := .agg (List.toArray _)) rfl ?_ | refine sv (u := .int _ _) rfl ?_ | refine sv (u := .slice _ _ _) rfl ?_ | refine sv (u := .bool _) rfl ?_ | refine sv (u := .pointer _) rfl ?_ | refine sv (u := .string _) rfl ?_ | refine sv (u := .map _) rfl ?_ | refine sv (u := .func _ _ _) rfl ?_); refine sw (szT _ (by decide)) rfl (lb rfl) ?_; clear HS; intro w1 HS1; (simp only [Frm.enc, Rep.enc, segOf, aL, aZ, aS, putSeg] at HS1); have HS := Aside0.mk HS1; clear HS1)); try simp only [aP, aN, aT, aZ, aS]))
                  go_ret2
                  exact ⟨by rw [← HF.out]; rfl, HS.out.below⟩
                | false =>
                  rcases kinds4 x.kind with ⟨hk2, h1, h3, h6⟩ | ⟨hk2, h1, h3, h6⟩ | ⟨hk2, h1, h3, h6⟩ | ⟨hk2, h1, h3, h6⟩ | ⟨hk2, h1, h3, h6⟩
                  · have HK2 := Aside0.mk hk2
                    go_upto_region 17 with (first | ((first | ((first | ((with_reducible refine gA rfl ?_); refine sh_alloc HS.out rfl rfl (zeT _ (by decide)) ?_) | ((with_reducible refine gB rfl ?_); refine bx HS.out rfl rfl ?_; first | refine bv (v := .agg (List.toArray _)) rfl ?_ | refine bv (v := .int _ _) rfl ?_ | refine bv (v := .slice _ _ _) rfl ?_ | refine bv (v := .bool _) rfl ?_ | refine bv (v := .pointer _) rfl ?_ | refine bv (v := .string _) rfl ?_ | refine bv (v := .map _) rfl ?_ | refine bv (v := .func _ _ _) rfl ?_) | ((with_reducible refine gL rfl ?_); refine sh_lit HS.out rfl rfl (by go_simp; exact ⟨⟨rfl, rfl⟩, rfl⟩) ?_)); clear HS; intro g w1 hg HS1; (simp only [Frm.enc, Rep.enc, zeF, segOf, aL, aC, aE] at HS1); have HS := Aside0.mk HS1; clear HS1) | ((with_reducible refine gLd rfl ?_); refine ld2 HS.out rfl rfl rfl (by repeat (first | exact AtI.here | apply AtI.there)) ?_; (first | refine LdK.one ((agT _ (by decide)).trans rfl) rfl ?_ | (refine LdK.agg ((agT _ (by decide)).trans rfl) (szT _ (by decide)) (lb rfl) ?_; try simp only [szL, aP, aN, aT, aZ, aS, aD, aF, aJ, aK, aM, aO]))) | ((with_reducible refine gSt rfl ?_); refine st2 HS.out rfl rfl rfl rfl (by repeat (first | exact AtI.here | apply AtI.there)) ?_; (first | refine sv (u := .agg (List.toArray _)) rfl ?_ | refine sv (u := .int _ _) rfl ?_ | refine sv (u := .slice _ _ _) rfl ?_ | refine sv (u := .bool _) rfl ?_ | refine sv (u := .pointer _) rfl ?_ | refine sv (u := .string _) rfl ?_ | refine sv (u := .map _) rfl ?_ | refine sv (u := .func _ _ _) rfl ?_); refine sw (szT _ (by decide)) rfl (lb rfl) ?_; clear HS; intro w1 HS1; (simp only [Frm.enc, Rep.enc, segOf, aL, aZ, aS, putSeg] at HS1); have HS := Aside0.mk HS1; clear HS1)); try simp only [aP, aN, aT, aZ, aS]))
                    cases m with
                    | zero =>
                      ((with_reducible refine wp_region_sh mixed (by kernel_rfl) HS.out ?_); (repeat' (first | go_big_quiet_skip | ((with_reducible refine qMv rfl ?_); go_big_quiet_step (fail)) | ((with_reducible refine qAs rfl ?_); go_big_quiet_step (fail)) | ((with_reducible refine qPk rfl ?_); go_big_quiet_step (fail)) | ((with_reducible refine qGd rfl ?_); refine qsplit rfl rfl ?_ ?_ <;> (intro h; (fail_if_success guard_hyp h : true = true); (fail_if_success guard_hyp h : false = false); (fail_if_success guard_hyp h : true = false); (fail_if_success guard_hyp h : false = true); rewrite [h]; (try simp only [decide_eq_true_eq, decide_eq_false_iff_not, Bool.not_eq_true', Bool.not_eq_false', Int.not_lt, Int.not_le] at h);  (try first | contradiction | go_big_false); (try with_reducible refine WQ.mk ?_))) | ((with_reducible refine qLd rfl ?_); (first | refine q_load rfl rfl rfl 0 rfl ((agT _ (by decide)).trans rfl) rfl ?_); try simp only [aP, aN, aT, aZ, aS]) | ((with_reducible refine qLd rfl ?_); (first | refine q_loads rfl rfl rfl 0 rfl ((agT _ (by decide)).trans rfl) (szT _ (by decide)) (lb rfl) ?_); (try simp only [szL, aP, aN, aT, aZ, aS, aD, aF, aJ, aK, aM, aO])) | ((with_reducible refine qAny ?_); refine q_val rfl (fun w hs => by (repeat (rename ∀ (_ : Act) (_ : World), _ => hK9; clear hK9)); go_simp; rfl) ?_; try simp only [aP, aN, aT, aZ, aS]))); all_goals (refine wpQuiet_nil ?_; clear HS; intro w1 HS1; have HS := Aside0.mk HS1; clear HS1))
                      go_wp2_with (first | ((first | ((first | ((with_reducible refine gA rfl ?_); refine sh_alloc HS.out rfl rfl (zeT _ (by decide)) ?_) | ((with_reducible refine gB rfl ?_); refine bx HS.out rfl rfl ?_; first | refine bv (v := .agg (List.toArray _)) rfl ?_ | refine bv (v := .int _ _) rfl ?_ | refine bv (v := .slice _ _ _) rfl ?_ | refine bv (v := .bool _) rfl ?_ | refine bv (v := .pointer _) rfl ?_ | refine bv (v := .string _) rfl ?_ | refine bv (v := .map _) rfl ?_ | refine bv (v := .func _ _ _) rfl ?_) | ((with_reducible refine gL rfl ?_); refine sh_lit HS.out rfl rfl (by go_simp; exact ⟨⟨rfl, rfl⟩, rfl⟩) ?_)); clear HS; intro g w1 hg HS1; (simp only [Frm.enc, Rep.enc, zeF, segOf, aL, aC, aE] at HS1); have HS := Aside0.mk HS1; clear HS1) | ((with_reducible refine gLd rfl ?_); refine ld2 HS.out rfl rfl rfl (by repeat (first | exact AtI.here | apply AtI.there)) ?_; (first | refine LdK.one ((agT _ (by decide)).trans rfl) rfl ?_ | (refine LdK.agg ((agT _ (by decide)).trans rfl) (szT _ (by decide)) (lb rfl) ?_; try simp only [szL, aP, aN, aT, aZ, aS, aD, aF, aJ, aK, aM, aO]))) | ((with_reducible refine gSt rfl ?_); refine st2 HS.out rfl rfl rfl rfl (by repeat (first | exact AtI.here | apply AtI.there)) ?_; (first | refine sv (u := .agg (List.toArray _)) rfl ?_ | refine sv (u := .int _ _) rfl ?_ | refine sv (u := .slice _ _ _) rfl ?_ | refine sv (u := .bool _) rfl ?_ | refine sv (u := .pointer _) rfl ?_ | refine sv (u := .string _) rfl ?_ | refine sv (u := .map _) rfl ?_ | refine sv (u := .func _ _ _) rfl ?_); refine sw (szT _ (by decide)) rfl (lb rfl) ?_; clear HS; intro w1 HS1; (simp only [Frm.enc, Rep.enc, segOf, aL, aZ, aS, putSeg] at HS1); have HS := Aside0.mk HS1; clear HS1)); try simp only [aP, aN, aT, aZ, aS]))
                      go_ret2
                      have e1 : servedOk served n x = false := by
                        unfold servedOk
                        rw [HK2.out, decide_eq_false (by have := HN0.out; omega)]
                        rfl
                      have hF := HF.out
                      rw [e1] at hF
                      exact ⟨by rw [← hF]; rfl, HS.out.below⟩
                    | succ m =>
                      obtain ⟨ad2, rfl⟩ := HR2.out.addr (by omega)
                      generalize hz : (served.drop n).getD 0 noText = z
                      have HZ := Aside0.mk hz
                      clear hz
                      have HRT := Aside0.mk (HR2.out.rds [blk gr [.int .i64 x.kind, .int .i64 x.node, .string x.text] 46, blk gf [.int .u8 y.kind, .string y.text] 63])
                      have hm0 : (((m : Int) + 1) == 0) = false := by rw [beq_eq_false_iff_ne]; omega
                      have HE1 := Aside0.mk (show servedOk served n x = (z.toList == x.text.toList) by
                        have hn : n < served.length := by have := HN0.out; omega
                        unfold servedOk
                        rw [HK2.out, decide_eq_true hn, ← HZ.out, List.getD_eq_getElem?_getD, List.getD_eq_getElem?_getD, List.getElem?_drop]
                        rfl)
                      cases ht : (z.toList == x.text.toList) with
                      | true =>
                        have HT := Aside0.mk ht
                        ((with_reducible refine wp_region_sh mixed (by kernel_rfl) HS.out ?_); (repeat' (first | go_big_quiet_skip | ((with_reducible refine qMv rfl ?_); go_big_quiet_step (fail)) | ((with_reducible refine qAs rfl ?_); go_big_quiet_step (fail)) | ((with_reducible refine qPk rfl ?_); go_big_quiet_step (fail)) | ((with_reducible refine qGd rfl ?_); refine qsplit rfl rfl ?_ ?_ <;> (intro h; (fail_if_success guard_hyp h : true = true); (fail_if_success guard_hyp h : false = false); (fail_if_success guard_hyp h : true = false); (fail_if_success guard_hyp h : false = true); rewrite [h]; (try simp only [decide_eq_true_eq, decide_eq_false_iff_not, Bool.not_eq_true', Bool.not_eq_false', Int.not_lt, Int.not_le] at h);  (try first | contradiction | go_big_false); (try with_reducible refine WQ.mk ?_))) | ((with_reducible refine qLd rfl ?_); refine q_rd1 (enc := Value.string) HRT.out rfl rfl (i := 0) rfl (by omega) noText ((agT _ (by decide)).trans rfl) ?_; intro z1 hz1; obtain rfl := HZ.out.symm.trans hz1; (try simp only [aP, aN, aT, aZ, aS])) | ((with_reducible refine qLd rfl ?_); (first | refine q_load rfl rfl rfl 0 rfl ((agT _ (by decide)).trans rfl) rfl ?_); try simp only [aP, aN, aT, aZ, aS]) | ((with_reducible refine qLd rfl ?_); (first | refine q_loads rfl rfl rfl 0 rfl ((agT _ (by decide)).trans rfl) (szT _ (by decide)) (lb rfl) ?_); (try simp only [szL, aP, aN, aT, aZ, aS, aD, aF, aJ, aK, aM, aO])) | ((with_reducible refine qAny ?_); refine q_val rfl (fun w hs => by (repeat (rename ∀ (_ : Act) (_ : World), _ => hK9; clear hK9)); go_simp; rfl) ?_; try simp only [aP, aN, aT, aZ, aS]))); all_goals (refine wpQuiet_nil ?_; clear HS; intro w1 HS1; have HS := Aside0.mk HS1; clear HS1))
                        go_wp2_with (first | ((first | ((first | ((with_reducible refine gA rfl ?_); refine sh_alloc HS.out rfl rfl (zeT _ (by decide)) ?_) | ((with_reducible refine gB rfl ?_); refine bx HS.out rfl rfl ?_; first | refine bv (v := .agg (List.toArray _)) rfl ?_ | refine bv (v := .int _ _) rfl ?_ | refine bv (v := .slice _ _ _) rfl ?_ | refine bv (v := .bool _) rfl ?_ | refine bv (v := .pointer _) rfl ?_ | refine bv (v := .string _) rfl ?_ | refine bv (v := .map _) rfl ?_ | refine bv (v := .func _ _ _) rfl ?_) | ((with_reducible refine gL rfl ?_); refine sh_lit HS.out rfl rfl (by go_simp; exact ⟨⟨rfl, rfl⟩, rfl⟩) ?_)); clear HS; intro g w1 hg HS1; (simp only [Frm.enc, Rep.enc, zeF, segOf, aL, aC, aE] at HS1); have HS := Aside0.mk HS1; clear HS1) | ((with_reducible refine gLd rfl ?_); refine ld2 HS.out rfl rfl rfl (by repeat (first | exact AtI.here | apply AtI.there)) ?_; (first | refine LdK.one ((agT _ (by decide)).trans rfl) rfl ?_ | (refine LdK.agg ((agT _ (by decide)).trans rfl) (szT _ (by decide)) (lb rfl) ?_; try simp only [szL, aP, aN, aT, aZ, aS, aD, aF, aJ, aK, aM, aO]))) | ((with_reducible refine gSt rfl ?_); refine st2 HS.out rfl rfl rfl rfl (by repeat (first | exact AtI.here | apply AtI.there)) ?_; (first | refine sv (u := .agg (List.toArray _)) rfl ?_ | refine sv (u := .int _ _) rfl ?_ | refine sv (u := .slice _ _ _) rfl ?_ | refine sv (u := .bool _) rfl ?_ | refine sv (u := .pointer _) rfl ?_ | refine sv (u := .string _) rfl ?_ | refine sv (u := .map _) rfl ?_ | refine sv (u := .func _ _ _) rfl ?_); refine sw (szT _ (by decide)) rfl (lb rfl) ?_; clear HS; intro w1 HS1; (simp only [Frm.enc, Rep.enc, segOf, aL, aZ, aS, putSeg] at HS1); have HS := Aside0.mk HS1; clear HS1)); try simp only [aP, aN, aT, aZ, aS]))
                        have HS1 := HS.out.pick [] rfl (by decide)
                        clear HS
                        have HS := Aside0.mk HS1
                        clear HS1
                        have e2 : used n x = n + 1 := by unfold used; rw [HK2.out]; rfl
                        have e3 : nxt wi x = wi := by unfold nxt; rw [h1, h3, h6]; rfl
                        have hF := HF.out
                        rw [HE1.out, HT.out, e2, e3] at hF
                        go_roundw
                        case rel => exact ⟨k + 1, n + 1, m, wi, _, _, by omega, by go_num, rfl, rfl, ⟨by have := HN0.out; omega⟩, by omega, ⟨by have := rd_tail1 HR2.out hc'; rw [List.drop_drop] at this; exact this⟩, ⟨hF⟩, HS⟩
                        case measure => simp [intOf]; omega
                      | false =>
                        have HT := Aside0.mk ht
                        ((with_reducible refine wp_region_sh mixed (by kernel_rfl) HS.out ?_); (repeat' (first | go_big_quiet_skip | ((with_reducible refine qMv rfl ?_); go_big_quiet_step (fail)) | ((with_reducible refine qAs rfl ?_); go_big_quiet_step (fail)) | ((with_reducible refine qPk rfl ?_); go_big_quiet_step (fail)) | ((with_reducible refine qGd rfl ?_); refine qsplit rfl rfl ?_ ?_ <;> (intro h; (fail_if_success guard_hyp h : true = true); (fail_if_success guard_hyp h : false = false); (fail_if_success guard_hyp h : true = false); (fail_if_success guard_hyp h : false = true); rewrite [h]; (try simp only [decide_eq_true_eq, decide_eq_false_iff_not, Bool.not_eq_true', Bool.not_eq_false', Int.not_lt, Int.not_le] at h);  (try first | contradiction | go_big_false); (try with_reducible refine WQ.mk ?_))) | ((with_reducible refine qLd rfl ?_); refine q_rd1 (enc := Value.string) HRT.out rfl rfl (i := 0) rfl (by omega) noText ((agT _ (by decide)).trans rfl) ?_; intro z1 hz1; obtain rfl := HZ.out.symm.trans hz1; (try simp only [aP, aN, aT, aZ, aS])) | ((with_reducible refine qLd rfl ?_); (first | refine q_load rfl rfl rfl 0 rfl ((agT _ (by decide)).trans rfl) rfl ?_); try simp only [aP, aN, aT, aZ, aS]) | ((with_reducible refine qLd rfl ?_); (first | refine q_loads rfl rfl rfl 0 rfl ((agT _ (by decide)).trans rfl) (szT _ (by decide)) (lb rfl) ?_); (try simp only [szL, aP, aN, aT, aZ, aS, aD, aF, aJ, aK, aM, aO])) | ((with_reducible refine qAny ?_); refine q_val rfl (fun w hs => by (repeat (rename ∀ (_ : Act) (_ : World), _ => hK9; clear hK9)); go_simp; rfl) ?_; try simp only [aP, aN, aT, aZ, aS]))); all_goals (refine wpQuiet_nil ?_; clear HS; intro w1 HS1; have HS := Aside0.mk HS1; clear HS1))
                        go_wp2_with (first | ((first | ((first | ((with_reducible refine gA rfl ?_); refine sh_alloc HS.out rfl rfl (zeT _ (by decide)) ?_) | ((with_reducible refine gB rfl ?_); refine bx HS.out rfl rfl ?_; first | refine bv (v := .agg (List.toArray _)) rfl ?_ | refine bv (v := .int _ _) rfl ?_ | refine bv (v := .slice _ _ _) rfl ?_ | refine bv (v := .bool _) rfl ?_ | refine bv (v := .pointer _) rfl ?_ | refine bv (v := .string _) rfl ?_ | refine bv (v := .map _) rfl ?_ | refine bv (v := .func _ _ _) rfl ?_) | ((with_reducible refine gL rfl ?_); refine sh_lit HS.out rfl rfl (by go_simp; exact ⟨⟨rfl, rfl⟩, rfl⟩) ?_)); clear HS; intro g w1 hg HS1; (simp only [Frm.enc, Rep.enc, zeF, segOf, aL, aC, aE] at HS1); have HS := Aside0.mk HS1; clear HS1) | ((with_reducible refine gLd rfl ?_); refine ld2 HS.out rfl rfl rfl (by repeat (first | exact AtI.here | apply AtI.there)) ?_; (first | refine LdK.one ((agT _ (by decide)).trans rfl) rfl ?_ | (refine LdK.agg ((agT _ (by decide)).trans rfl) (szT _ (by decide)) (lb rfl) ?_; try simp only [szL, aP, aN, aT, aZ, aS, aD, aF, aJ, aK, aM, aO]))) | ((with_reducible refine gSt rfl ?_); refine st2 HS.out rfl rfl rfl rfl (by repeat (first | exact AtI.here | apply AtI.there)) ?_; (first | refine sv (u := .agg (List.toArray _)) rfl ?_ | refine sv (u := .int _ _) rfl ?_ | refine sv (u := .slice _ _ _) rfl ?_ | refine sv (u := .bool _) rfl ?_ | refine sv (u := .pointer _) rfl ?_ | refine sv (u := .string _) rfl ?_ | refine sv (u := .map _) rfl ?_ | refine sv (u := .func _ _ _) rfl ?_); refine sw (szT _ (by decide)) rfl (lb rfl) ?_; clear HS; intro w1 HS1; (simp only [Frm.enc, Rep.enc, segOf, aL, aZ, aS, putSeg] at HS1); have HS := Aside0.mk HS1; clear HS1)); try simp only [aP, aN, aT, aZ, aS]))
                        all_goals
                          first
                          | (exfalso; rename_i h; rw [HT.out] at h; cases h; done)
                          | (go_ret2
                             have hF := HF.out
                             rw [HE1.out, HT.out] at hF
                             exact ⟨by rw [← hF]; rfl, HS.out.below⟩)
                  all_goals
                    have HK2 := Aside0.mk hk2
                    go_wp2_with (first | ((first | ((first | ((with_reducible refine gA rfl ?_); refine sh_alloc HS.out rfl rfl (zeT _ (by decide)) ?_) | ((with_reducible refine gB rfl ?_); refine bx HS.out rfl rfl ?_; first | refine bv (v := .agg (List.toArray _)) rfl ?_ | refine bv (v := .int _ _) rfl ?_ | refine bv (v := .slice _ _ _) rfl ?_ | refine bv (v := .bool _) rfl ?_ | refine bv (v := .pointer _) rfl ?_ | refine bv (v := .string _) rfl ?_ | refine bv (v := .map _) rfl ?_ | refine bv (v := .func _ _ _) rfl ?_) | ((with_reducible refine gL rfl ?_); refine sh_lit HS.out rfl rfl (by go_simp; exact ⟨⟨rfl, rfl⟩, rfl⟩) ?_)); clear HS; intro g w1 hg HS1; (simp only [Frm.enc, Rep.enc, zeF, segOf, aL, aC, aE] at HS1); have HS := Aside0.mk HS1; clear HS1) | ((with_reducible refine gLd rfl ?_); refine ld2 HS.out rfl rfl rfl (by repeat (first | exact AtI.here | apply AtI.there)) ?_; (first | refine LdK.one ((agT _ (by decide)).trans rfl) rfl ?_ | (refine LdK.agg ((agT _ (by decide)).trans rfl) (szT _ (by decide)) (lb rfl) ?_; try simp only [szL, aP, aN, aT, aZ, aS, aD, aF, aJ, aK, aM, aO]))) | ((with_reducible refine gSt rfl ?_); refine st2 HS.out rfl rfl rfl rfl (by repeat (first | exact AtI.here | apply AtI.there)) ?_; (first | refine sv (u := .agg (List.toArray _)) rfl ?_ | refine sv (u := .int _ _) rfl ?_ | refine sv (u := .slice _ _ _) rfl ?_ | refine sv (u := .bool _) rfl ?_ | refine sv (u := .pointer _) rfl ?_ | refine sv (u := .string _) rfl ?_ | refine sv (u := .map _) rfl ?_ | refine sv (u := .func _ _ _) rfl ?_); refine sw (szT _ (by decide)) rfl (lb rfl) ?_; clear HS; intro w1 HS1; (simp only [Frm.enc, Rep.enc, segOf, aL, aZ, aS, putSeg] at HS1); have HS := Aside0.mk HS1; clear HS1)); try simp only [aP, aN, aT, aZ, aS]))
                    have HS1 := HS.out.pick [] rfl (by decide)
                    clear HS
                    have HS := Aside0.mk HS1
                    clear HS1
                    have e1 : servedOk served n x = true := by unfold servedOk; rw [HK2.out]; rfl
                    have e2 : used n x = n := by unfold used; rw [HK2.out]; rfl
                    have e3 := (rfl : nxt wi x = nxt wi x)
                    conv at e3 => lhs; unfold nxt; rw [h1, h3, h6]
                    have hF := HF.out
                    rw [e1, e2, ← e3] at hF
                    go_roundw
                    case rel => exact ⟨k + 1, n, m, _, B', c', by omega, by go_num, rfl, rfl, HN0, hc', HR2, ⟨hF⟩, HS⟩
                    case measure => simp [intOf]; omega
      · have hs' : sent.length ≤ k := by omega
        have hs2 : decide ((sent.length : Int) ≤ (k : Int)) = true := by rw [decide_eq_true_eq]; omega
        have hF := HF.out
        rw [if_pos (by omega)] at hF
        clear HF
        have HF := Aside0.mk hF
        clear hF
        go_wp2_with (first | ((with_reducible refine gLd rfl ?_); refine rd_load HRR.out rfl rfl (i := k) rfl hlt default Rep.len ((agT _ (by decide)).trans rfl) (szT _ (by decide)) ?_; intro x hx; obtain rfl := HX.out.symm.trans hx; (try simp only [Frm.enc, Rep.enc, aP, aN, aT, aZ, aS])) | ((first | ((first | ((with_reducible refine gA rfl ?_); refine sh_alloc HS.out rfl rfl (zeT _ (by decide)) ?_) | ((with_reducible refine gB rfl ?_); refine bx HS.out rfl rfl ?_; first | refine bv (v := .agg (List.toArray _)) rfl ?_ | refine bv (v := .int _ _) rfl ?_ | refine bv (v := .slice _ _ _) rfl ?_ | refine bv (v := .bool _) rfl ?_ | refine bv (v := .pointer _) rfl ?_ | refine bv (v := .string _) rfl ?_ | refine bv (v := .map _) rfl ?_ | refine bv (v := .func _ _ _) rfl ?_) | ((with_reducible refine gL rfl ?_); refine sh_lit HS.out rfl rfl (by go_simp; exact ⟨⟨rfl, rfl⟩, rfl⟩) ?_)); clear HS; intro g w1 hg HS1; (simp only [Frm.enc, Rep.enc, zeF, segOf, aL, aC, aE] at HS1); have HS := Aside0.mk HS1; clear HS1) | ((with_reducible refine gLd rfl ?_); refine ld2 HS.out rfl rfl rfl (by repeat (first | exact AtI.here | apply AtI.there)) ?_; (first | refine LdK.one ((agT _ (by decide)).trans rfl) rfl ?_ | (refine LdK.agg ((agT _ (by decide)).trans rfl) (szT _ (by decide)) (lb rfl) ?_; try simp only [szL, aP, aN, aT, aZ, aS, aD, aF, aJ, aK, aM, aO]))) | ((with_reducible refine gSt rfl ?_); refine st2 HS.out rfl rfl rfl rfl (by repeat (first | exact AtI.here | apply AtI.there)) ?_; (first | refine sv (u := .agg (List.toArray _)) rfl ?_ | refine sv (u := .int _ _) rfl ?_ | refine sv (u := .slice _ _ _) rfl ?_ | refine sv (u := .bool _) rfl ?_ | refine sv (u := .pointer _) rfl ?_ | refine sv (u := .string _) rfl ?_ | refine sv (u := .map _) rfl ?_ | refine sv (u := .func _ _ _) rfl ?_); refine sw (szT _ (by decide)) rfl (lb rfl) ?_; clear HS; intro w1 HS1; (simp only [Frm.enc, Rep.enc, segOf, aL, aZ, aS, putSeg] at HS1); have HS := Aside0.mk HS1; clear HS1)); try simp only [aP, aN, aT, aZ, aS]))
        go_ret2
        exact ⟨by rw [← HF.out]; rfl, HS.out.below⟩
    · obtain rfl : k = told.length := by omega
      have hF := HF.out
      rw [List.drop_length, pGo] at hF
      clear HF
      have HF := Aside0.mk hF
      clear hF
      go_wp2
      go_ret2
      exact ⟨by rw [← HF.out]; rfl, HS.out.below⟩
end Go.Proofs.Ytkggchahhpmpbaa.Jud
