import Derived.Test.YtekjihmepdhmeaaNod0j
import Derived.Test.YtekjihmepdhmeaaLec3j
import Derived.Test.YtekjihmepdhmeaaSlXq
import Derived.Test.YtekjihmepdhmeaaLec4j
import Derived.Deep.DeepCutAuto
/- Lemmas towards the law: what of the text Rlo3 it needs. -/
namespace Go.Proofs.Ytekjihmepdhmeaa.Rlo
open Go.RowKit Go.Proofs.YtekjihmepdhmeaaW.PrintWords Go.Proofs.Ytekjihmepdhmeaa.Sl
set_option linter.unusedVariables false
set_option linter.unusedSimpArgs false
def IdxL (p : Held → Bool) (l : List Held) (r : Int) : Prop := (r = -1 ∧ ∀ j, j < l.length → p (l.getD j default) = false) ∨ (∃ i : Nat, r = i ∧ i < l.length ∧ p (l.getD i default) = true)
def isLate (si : Int) (h : Held) : Bool := decide (si < h.stamp)
theorem idxL_late {si : Int} {l : List Held} {r : Int} (h : IdxL (isLate si) l r) : decide (0 ≤ r) = !(l.all (fun h => decide (h.stamp ≤ si))) := by
  rcases h with ⟨rfl, h⟩ | ⟨i, rfl, hi, h⟩
  · have : (l.all (fun h => decide (h.stamp ≤ si))) = true := by
      rw [List.all_eq_true]
      intro y hy
      obtain ⟨j, hj, rfl⟩ := List.getElem_of_mem hy
      have := h j hj
      rw [List.getD_eq_getElem?_getD, List.getElem?_eq_getElem hj, Option.getD_some] at this
      simp only [isLate, decide_eq_false_iff_not, Int.not_lt] at this
      simpa using this
    rw [this]
    rfl
  · have : (l.all (fun h => decide (h.stamp ≤ si))) = false := by
      rw [List.all_eq_false]
      refine ⟨l[i], List.getElem_mem hi, ?_⟩
      rw [List.getD_eq_getElem?_getD, List.getElem?_eq_getElem hi, Option.getD_some] at h
      simp only [isLate, decide_eq_true_eq] at h
      simp
      omega
    rw [this]
    simp
theorem clos_any (ad : Addr) (si : Int) (y : Held) (w : World) (hr : Rd (ints .u64) 1 w (some ad) 1 [si]) :
    Calls Try.prog 67 #[.agg #[.int .i64 y.token, .int .i64 y.node, .int .u64 y.boot, .int .u64 y.serial, .int .u64 y.stamp], .pointer (some ad)] w (fun e w' => e = .returned (.bool (isLate si y)) ∧ Below w.heap.size w w') := by
  have HR := Aside0.mk hr
  clear hr
  have HX := Aside0.mk (show [si].getD 0 0 = si from rfl)
  have HS := Aside0.mk (SH.start w)
  go_enter Try.func67, Try.ntmps67
  go_upto_region 1 with (first | ((first | ((first | ((with_reducible refine gA rfl ?_); refine sh_alloc HS.out rfl rfl (zeT _ (by decide)) ?_) | ((with_reducible refine gB rfl ?_); refine bx HS.out rfl rfl ?_; first | refine bv (v := .agg (List.toArray _)) rfl ?_ | refine bv (v := .int _ _) rfl ?_ | refine bv (v := .slice _ _ _) rfl ?_ | refine bv (v := .bool _) rfl ?_ | refine bv (v := .pointer _) rfl ?_) | ((with_reducible refine gL rfl ?_); refine sh_lit HS.out rfl rfl (by go_simp; exact ⟨⟨rfl, rfl⟩, rfl⟩) ?_)); clear HS; intro g w1 hg HS1; (simp only [Led.Held.enc, Led.Last.enc, zeF, segOf, aL, aC, aE] at HS1); have HS := Aside0.mk HS1; clear HS1) | ((with_reducible refine gLd rfl ?_); refine ld2 HS.out rfl rfl rfl (by repeat (first | exact AtI.here | apply AtI.there)) ?_; (first | refine LdK.one ((agT _ (by decide)).trans rfl) rfl ?_ | (refine LdK.agg ((agT _ (by decide)).trans rfl) (szT _ (by decide)) (lb rfl) ?_; try simp only [szL, aP, aN, aT, aZ, aS, aD, aF, aJ, aK, aM, aO]))) | ((with_reducible refine gSt rfl ?_); refine st2 HS.out rfl rfl rfl rfl (by repeat (first | exact AtI.here | apply AtI.there)) ?_; (first | refine sv (u := .agg (List.toArray _)) rfl ?_ | refine sv (u := .int _ _) rfl ?_ | refine sv (u := .slice _ _ _) rfl ?_ | refine sv (u := .bool _) rfl ?_ | refine sv (u := .pointer _) rfl ?_); refine sw (szT _ (by decide)) rfl (lb rfl) ?_; clear HS; intro w1 HS1; (simp only [Led.Held.enc, Led.Last.enc, segOf, aL, aZ, aS, putSeg] at HS1); have HS := Aside0.mk HS1; clear HS1)); try simp only [aP, aN, aT, aZ, aS]))
  have HRR := Aside0.mk (HR.out.sh HS.out)
  go_wp2_with (first | ((with_reducible refine gLd rfl ?_); refine rd_load1 (enc := Value.int .u64) HRR.out rfl rfl (i := 0) rfl (by decide) 0 ((agT _ (by decide)).trans rfl) ?_; intro x hx; obtain rfl := HX.out.symm.trans hx; (try simp only [aP, aN, aT, aZ, aS])) | ((first | ((first | ((with_reducible refine gA rfl ?_); refine sh_alloc HS.out rfl rfl (zeT _ (by decide)) ?_) | ((with_reducible refine gB rfl ?_); refine bx HS.out rfl rfl ?_; first | refine bv (v := .agg (List.toArray _)) rfl ?_ | refine bv (v := .int _ _) rfl ?_ | refine bv (v := .slice _ _ _) rfl ?_ | refine bv (v := .bool _) rfl ?_ | refine bv (v := .pointer _) rfl ?_) | ((with_reducible refine gL rfl ?_); refine sh_lit HS.out rfl rfl (by go_simp; exact ⟨⟨rfl, rfl⟩, rfl⟩) ?_)); clear HS; intro g w1 hg HS1; (simp only [Led.Held.enc, Led.Last.enc, zeF, segOf, aL, aC, aE] at HS1); have HS := Aside0.mk HS1; clear HS1) | ((with_reducible refine gLd rfl ?_); refine ld2 HS.out rfl rfl rfl (by repeat (first | exact AtI.here | apply AtI.there)) ?_; (first | refine LdK.one ((agT _ (by decide)).trans rfl) rfl ?_ | (refine LdK.agg ((agT _ (by decide)).trans rfl) (szT _ (by decide)) (lb rfl) ?_; try simp only [szL, aP, aN, aT, aZ, aS, aD, aF, aJ, aK, aM, aO]))) | ((with_reducible refine gSt rfl ?_); refine st2 HS.out rfl rfl rfl rfl (by repeat (first | exact AtI.here | apply AtI.there)) ?_; (first | refine sv (u := .agg (List.toArray _)) rfl ?_ | refine sv (u := .int _ _) rfl ?_ | refine sv (u := .slice _ _ _) rfl ?_ | refine sv (u := .bool _) rfl ?_ | refine sv (u := .pointer _) rfl ?_); refine sw (szT _ (by decide)) rfl (lb rfl) ?_; clear HS; intro w1 HS1; (simp only [Led.Held.enc, Led.Last.enc, segOf, aL, aZ, aS, putSeg] at HS1); have HS := Aside0.mk HS1; clear HS1)); try simp only [aP, aN, aT, aZ, aS]))
  go_ret
  exact ⟨by first | rfl | simp [isLate], HS.out.below⟩
set_option maxHeartbeats 800000 in
theorem idx_any (A : Option Addr) (c : Nat) (ad : Addr) (si : Int) (l : List Held) (w : World) {M : Nat} (hr : Rd Led.Held.enc 5 w A M l) (hn : Rd (ints .u64) 1 w (some ad) 1 [si]) :
    Calls Try.prog 93 #[.slice A M c, .func (.func 67) #[] #[.pointer (some ad)]] w (fun e w' => (∃ r, e = .returned (.int .i64 r) ∧ IdxL (isLate si) l r) ∧ Below w.heap.size w w') := by
  obtain rfl := hr.len.1
  have hm := hr.len.2
  have HR := Aside0.mk hr
  have HN := Aside0.mk hn
  clear hr hn
  have HS := Aside0.mk (SH.start w)
  go_enter Try.func93, Try.ntmps93
  go_wp2
  go_loopw [5, 8] (fun v5 v8 wr => ∃ k : Nat, k ≤ l.length ∧ v8 = .int .i64 k ∧ Aside0 (∀ j, j < k → isLate si (l.getD j default) = false) ∧ Aside0 (SH w wr [])) (fun _ v8 _ => l.length - (intOf v8).toNat)
  case atStart => exact ⟨0, Nat.zero_le _, rfl, ⟨fun j h => absurd h (Nat.not_lt_zero j)⟩, HS⟩
  case round =>
    clear HS
    obtain ⟨k, hk, rfl, HO, HS⟩ := hrel
    by_cases hlt : k < l.length
    · obtain ⟨ad1, rfl⟩ := HR.out.addr (by omega)
      generalize hx : l.getD k default = x
      have HX := Aside0.mk hx
      clear hx
      have HRR := Aside0.mk (HR.out.sh HS.out)
      have HNN := Aside0.mk (HN.out.sh HS.out)
      cases hb : isLate si x with
      | true =>
        have HB := Aside0.mk hb
        go_wp2_with (first | ((with_reducible refine gLd rfl ?_); refine rd_load HRR.out rfl rfl (i := k) rfl hlt default Led.Held.len ((agT _ (by decide)).trans rfl) (szT _ (by decide)) ?_; intro x hx; obtain rfl := HX.out.symm.trans hx; (try simp only [Led.Held.enc, Led.Last.enc, aP, aN, aT, aZ, aS])) | (go_at_call 67; (with_reducible refine (clos_any ad si x _ HNN.out).mono ?_); rintro e w2 ⟨rfl, hb⟩; rw [HB.out]; have HS1 := HS.out.quiet hb; clear HS hb; have HS := Aside0.mk HS1; clear HS1))
        go_ret
        exact ⟨⟨_, rfl, .inr ⟨k, rfl, hlt, by rw [HX.out]; exact HB.out⟩⟩, HS.out.below⟩
      | false =>
        have HB := Aside0.mk hb
        go_wp2_with (first | ((with_reducible refine gLd rfl ?_); refine rd_load HRR.out rfl rfl (i := k) rfl hlt default Led.Held.len ((agT _ (by decide)).trans rfl) (szT _ (by decide)) ?_; intro x hx; obtain rfl := HX.out.symm.trans hx; (try simp only [Led.Held.enc, Led.Last.enc, aP, aN, aT, aZ, aS])) | (go_at_call 67; (with_reducible refine (clos_any ad si x _ HNN.out).mono ?_); rintro e w2 ⟨rfl, hb⟩; rw [HB.out]; have HS1 := HS.out.quiet hb; clear HS hb; have HS := Aside0.mk HS1; clear HS1))
        go_roundw
        case rel =>
          refine ⟨k + 1, by omega, by go_num, ⟨fun j hj => ?_⟩, HS⟩
          by_cases hjk : j < k
          · exact HO.out j hjk
          · obtain rfl : j = k := by omega
            rw [HX.out]
            exact HB.out
        case measure => simp [intOf]; omega
    · obtain rfl : k = l.length := by omega
      go_wp2
      go_ret
      exact ⟨⟨_, rfl, .inl ⟨rfl, HO.out⟩⟩, HS.out.below⟩
theorem cont_any (A : Option Addr) (c : Nat) (ad : Addr) (si : Int) (l : List Held) (w : World) {M : Nat} (hr : Rd Led.Held.enc 5 w A M l) (hn : Rd (ints .u64) 1 w (some ad) 1 [si]) :
    Calls Try.prog 66 #[.slice A M c, .func (.func 67) #[] #[.pointer (some ad)]] w (fun e w' => e = .returned (.bool (!(l.all (fun h => decide (h.stamp ≤ si))))) ∧ Below w.heap.size w w') := by
  have HS := Aside0.mk (SH.start w)
  go_enter Try.func66, Try.ntmps66
  go_wp2_with (first | (go_at_call 93; (with_reducible refine (idx_any A c ad si l _ (hr.sh HS.out) (hn.sh HS.out)).mono ?_); rintro e w2 ⟨⟨r, rfl, HIX⟩, hb⟩; have HIXX := Aside0.mk HIX; clear HIX; have HS1 := HS.out.quiet hb; clear HS hb; have HS := Aside0.mk HS1; clear HS1))
  go_ret
  refine ⟨?_, HS.out.below⟩
  rw [← idxL_late HIXX.out]
  rfl
theorem siRd {w : World} {g : Nat} {si : Int} {cs : List Value} {t : TypeId} (h : w.heap[g]? = some (.cells (Value.int .u64 si :: cs).toArray t (0, 0))) : Rd (ints .u64) 1 w (some ⟨g, 0, none⟩) 1 [si] :=
  blkRd h rfl (by decide) (fun i hi => by obtain rfl : i = 0 := (by omega); rfl)
/-- The code's. -/
theorem shotCk_any (s : Sht) (w : World) (hk : s.ok w) : Calls Try.prog 51 #[.agg #[.int .u64 s.si, .int .u64 s.st, .slice s.nA s.nodes.length s.nc, .int .i64 s.lim, .int .u64 s.nxt, .slice s.hA s.held.length s.hc, .slice s.lA s.last.length s.lc]] w (fun e w' => e = .returned (.int .i64 (if shotOk s then 0 else 60)) ∧ Below w.heap.size w w') := by
  have hmf : ∀ (fn : Fn) (first cap : Array Value) (w : World), (Instr.makeFunc fn first cap).run Try.prog w = .ok (.func fn first cap) w := fun _ _ _ _ => rfl
  have HK := Aside0.mk hk
  clear hk
  have HS := Aside0.mk (SH.start w)
  generalize hres : (if shotOk s then (0 : Int) else 60) = res
  have HRES := Aside0.mk hres
  clear hres
  go_enter Try.func51, Try.ntmps51
  generalize h1 : (s.held.all (fun h => decide (h.stamp ≤ s.si))) = b1
  have H1 := Aside0.mk h1
  clear h1
  go_upto_region 2 with (first | (go_at_call 66; (with_reducible refine (cont_any s.hA s.hc ⟨g, 0, none⟩ s.si s.held _ (HK.out.rh.sh HS.out) (siRd (HS.out.blk 0 rfl))).mono ?_); rintro e w2 ⟨rfl, hb⟩; rw [H1.out]; have HS1 := HS.out.quiet hb; clear HS hb; have HS := Aside0.mk HS1; clear HS1) | ((first | ((first | ((with_reducible refine gA rfl ?_); refine sh_alloc HS.out rfl rfl (zeT _ (by decide)) ?_) | ((with_reducible refine gB rfl ?_); refine bx HS.out rfl rfl ?_; first | refine bv (v := .agg (List.toArray _)) rfl ?_ | refine bv (v := .int _ _) rfl ?_ | refine bv (v := .slice _ _ _) rfl ?_ | refine bv (v := .bool _) rfl ?_ | refine bv (v := .pointer _) rfl ?_) | ((with_reducible refine gL rfl ?_); refine sh_lit HS.out rfl rfl (by go_simp; exact ⟨⟨rfl, rfl⟩, rfl⟩) ?_)); clear HS; intro g w1 hg HS1; (simp only [Led.Held.enc, Led.Last.enc, zeF, segOf, aL, aC, aE] at HS1); have HS := Aside0.mk HS1; clear HS1) | ((with_reducible refine gLd rfl ?_); refine ld2 HS.out rfl rfl rfl (by repeat (first | exact AtI.here | apply AtI.there)) ?_; (first | refine LdK.one ((agT _ (by decide)).trans rfl) rfl ?_ | (refine LdK.agg ((agT _ (by decide)).trans rfl) (szT _ (by decide)) (lb rfl) ?_; try simp only [szL, aP, aN, aT, aZ, aS, aD, aF, aJ, aK, aM, aO]))) | ((with_reducible refine gSt rfl ?_); refine st2 HS.out rfl rfl rfl rfl (by repeat (first | exact AtI.here | apply AtI.there)) ?_; (first | refine sv (u := .agg (List.toArray _)) rfl ?_ | refine sv (u := .int _ _) rfl ?_ | refine sv (u := .slice _ _ _) rfl ?_ | refine sv (u := .bool _) rfl ?_ | refine sv (u := .pointer _) rfl ?_); refine sw (szT _ (by decide)) rfl (lb rfl) ?_; clear HS; intro w1 HS1; (simp only [Led.Held.enc, Led.Last.enc, segOf, aL, aZ, aS, putSeg] at HS1); have HS := Aside0.mk HS1; clear HS1)); try simp only [aP, aN, aT, aZ, aS]))
  have HNX := Aside0.mk HK.out.nxt.2
  obtain ⟨b2, h2⟩ : ∃ b, Nod.good s.nodes = b := ⟨_, rfl⟩
  obtain ⟨b3, h3⟩ : ∃ b, Led.isLed s.lim s.nxt s.held s.last = b := ⟨_, rfl⟩
  have HSO := Aside0.mk (show shotOk s = (b1 && b2 && b3 && ((s.si == 0) == (s.st == 0))) by unfold shotOk; rw [H1.out, h2, h3])
  have H2 := Aside0.mk h2
  have H3 := Aside0.mk h3
  clear h2 h3
  cases b1 with
  | false =>
    go_wp2_with (first | (go_at_call 68; (with_reducible refine (Nod.check_any _ _ s.nodes _ (HK.out.rn.sh HS.out)).mono ?_); rintro e w2 ⟨rfl, hb⟩; rw [H2.out]; have HS1 := HS.out.quiet hb; clear HS hb; have HS := Aside0.mk HS1; clear HS1) | (go_at_call 69; (with_reducible refine (Led.ck_any _ _ _ _ s.lim s.nxt s.held s.last _ (HK.out.rh.sh HS.out) (HK.out.rl.sh HS.out) HNX.out HK.out.ser).mono ?_); rintro e w2 ⟨rfl, hb⟩; rw [Led.ck_isLed, H3.out]; have HS1 := HS.out.quiet hb; clear HS hb; have HS := Aside0.mk HS1; clear HS1) | ((first | ((first | ((with_reducible refine gA rfl ?_); refine sh_alloc HS.out rfl rfl (zeT _ (by decide)) ?_) | ((with_reducible refine gB rfl ?_); refine bx HS.out rfl rfl ?_; first | refine bv (v := .agg (List.toArray _)) rfl ?_ | refine bv (v := .int _ _) rfl ?_ | refine bv (v := .slice _ _ _) rfl ?_ | refine bv (v := .bool _) rfl ?_ | refine bv (v := .pointer _) rfl ?_) | ((with_reducible refine gL rfl ?_); refine sh_lit HS.out rfl rfl (by go_simp; exact ⟨⟨rfl, rfl⟩, rfl⟩) ?_)); clear HS; intro g w1 hg HS1; (simp only [Led.Held.enc, Led.Last.enc, zeF, segOf, aL, aC, aE] at HS1); have HS := Aside0.mk HS1; clear HS1) | ((with_reducible refine gLd rfl ?_); refine ld2 HS.out rfl rfl rfl (by repeat (first | exact AtI.here | apply AtI.there)) ?_; (first | refine LdK.one ((agT _ (by decide)).trans rfl) rfl ?_ | (refine LdK.agg ((agT _ (by decide)).trans rfl) (szT _ (by decide)) (lb rfl) ?_; try simp only [szL, aP, aN, aT, aZ, aS, aD, aF, aJ, aK, aM, aO]))) | ((with_reducible refine gSt rfl ?_); refine st2 HS.out rfl rfl rfl rfl (by repeat (first | exact AtI.here | apply AtI.there)) ?_; (first | refine sv (u := .agg (List.toArray _)) rfl ?_ | refine sv (u := .int _ _) rfl ?_ | refine sv (u := .slice _ _ _) rfl ?_ | refine sv (u := .bool _) rfl ?_ | refine sv (u := .pointer _) rfl ?_); refine sw (szT _ (by decide)) rfl (lb rfl) ?_; clear HS; intro w1 HS1; (simp only [Led.Held.enc, Led.Last.enc, segOf, aL, aZ, aS, putSeg] at HS1); have HS := Aside0.mk HS1; clear HS1)); try simp only [aP, aN, aT, aZ, aS]))
    go_ret
    refine ⟨?_, HS.out.below⟩
    rw [← HRES.out, HSO.out]
    rfl
  | true =>
    cases b2 with
    | false =>
      go_wp2_with (first | (go_at_call 68; (with_reducible refine (Nod.check_any _ _ s.nodes _ (HK.out.rn.sh HS.out)).mono ?_); rintro e w2 ⟨rfl, hb⟩; rw [H2.out]; have HS1 := HS.out.quiet hb; clear HS hb; have HS := Aside0.mk HS1; clear HS1) | (go_at_call 69; (with_reducible refine (Led.ck_any _ _ _ _ s.lim s.nxt s.held s.last _ (HK.out.rh.sh HS.out) (HK.out.rl.sh HS.out) HNX.out HK.out.ser).mono ?_); rintro e w2 ⟨rfl, hb⟩; rw [Led.ck_isLed, H3.out]; have HS1 := HS.out.quiet hb; clear HS hb; have HS := Aside0.mk HS1; clear HS1) | ((first | ((first | ((with_reducible refine gA rfl ?_); refine sh_alloc HS.out rfl rfl (zeT _ (by decide)) ?_) | ((with_reducible refine gB rfl ?_); refine bx HS.out rfl rfl ?_; first | refine bv (v := .agg (List.toArray _)) rfl ?_ | refine bv (v := .int _ _) rfl ?_ | refine bv (v := .slice _ _ _) rfl ?_ | refine bv (v := .bool _) rfl ?_ | refine bv (v := .pointer _) rfl ?_) | ((with_reducible refine gL rfl ?_); refine sh_lit HS.out rfl rfl (by go_simp; exact ⟨⟨rfl, rfl⟩, rfl⟩) ?_)); clear HS; intro g w1 hg HS1; (simp only [Led.Held.enc, Led.Last.enc, zeF, segOf, aL, aC, aE] at HS1); have HS := Aside0.mk HS1; clear HS1) | ((with_reducible refine gLd rfl ?_); refine ld2 HS.out rfl rfl rfl (by repeat (first | exact AtI.here | apply AtI.there)) ?_; (first | refine LdK.one ((agT _ (by decide)).trans rfl) rfl ?_ | (refine LdK.agg ((agT _ (by decide)).trans rfl) (szT _ (by decide)) (lb rfl) ?_; try simp only [szL, aP, aN, aT, aZ, aS, aD, aF, aJ, aK, aM, aO]))) | ((with_reducible refine gSt rfl ?_); refine st2 HS.out rfl rfl rfl rfl (by repeat (first | exact AtI.here | apply AtI.there)) ?_; (first | refine sv (u := .agg (List.toArray _)) rfl ?_ | refine sv (u := .int _ _) rfl ?_ | refine sv (u := .slice _ _ _) rfl ?_ | refine sv (u := .bool _) rfl ?_ | refine sv (u := .pointer _) rfl ?_); refine sw (szT _ (by decide)) rfl (lb rfl) ?_; clear HS; intro w1 HS1; (simp only [Led.Held.enc, Led.Last.enc, segOf, aL, aZ, aS, putSeg] at HS1); have HS := Aside0.mk HS1; clear HS1)); try simp only [aP, aN, aT, aZ, aS]))
      go_ret
      refine ⟨?_, HS.out.below⟩
      rw [← HRES.out, HSO.out]
      rfl
    | true =>
      cases b3 with
      | false =>
        go_wp2_with (first | (go_at_call 68; (with_reducible refine (Nod.check_any _ _ s.nodes _ (HK.out.rn.sh HS.out)).mono ?_); rintro e w2 ⟨rfl, hb⟩; rw [H2.out]; have HS1 := HS.out.quiet hb; clear HS hb; have HS := Aside0.mk HS1; clear HS1) | (go_at_call 69; (with_reducible refine (Led.ck_any _ _ _ _ s.lim s.nxt s.held s.last _ (HK.out.rh.sh HS.out) (HK.out.rl.sh HS.out) HNX.out HK.out.ser).mono ?_); rintro e w2 ⟨rfl, hb⟩; rw [Led.ck_isLed, H3.out]; have HS1 := HS.out.quiet hb; clear HS hb; have HS := Aside0.mk HS1; clear HS1) | ((first | ((first | ((with_reducible refine gA rfl ?_); refine sh_alloc HS.out rfl rfl (zeT _ (by decide)) ?_) | ((with_reducible refine gB rfl ?_); refine bx HS.out rfl rfl ?_; first | refine bv (v := .agg (List.toArray _)) rfl ?_ | refine bv (v := .int _ _) rfl ?_ | refine bv (v := .slice _ _ _) rfl ?_ | refine bv (v := .bool _) rfl ?_ | refine bv (v := .pointer _) rfl ?_) | ((with_reducible refine gL rfl ?_); refine sh_lit HS.out rfl rfl (by go_simp; exact ⟨⟨rfl, rfl⟩, rfl⟩) ?_)); clear HS; intro g w1 hg HS1; (simp only [Led.Held.enc, Led.Last.enc, zeF, segOf, aL, aC, aE] at HS1); have HS := Aside0.mk HS1; clear HS1) | ((with_reducible refine gLd rfl ?_); refine ld2 HS.out rfl rfl rfl (by repeat (first | exact AtI.here | apply AtI.there)) ?_; (first | refine LdK.one ((agT _ (by decide)).trans rfl) rfl ?_ | (refine LdK.agg ((agT _ (by decide)).trans rfl) (szT _ (by decide)) (lb rfl) ?_; try simp only [szL, aP, aN, aT, aZ, aS, aD, aF, aJ, aK, aM, aO]))) | ((with_reducible refine gSt rfl ?_); refine st2 HS.out rfl rfl rfl rfl (by repeat (first | exact AtI.here | apply AtI.there)) ?_; (first | refine sv (u := .agg (List.toArray _)) rfl ?_ | refine sv (u := .int _ _) rfl ?_ | refine sv (u := .slice _ _ _) rfl ?_ | refine sv (u := .bool _) rfl ?_ | refine sv (u := .pointer _) rfl ?_); refine sw (szT _ (by decide)) rfl (lb rfl) ?_; clear HS; intro w1 HS1; (simp only [Led.Held.enc, Led.Last.enc, segOf, aL, aZ, aS, putSeg] at HS1); have HS := Aside0.mk HS1; clear HS1)); try simp only [aP, aN, aT, aZ, aS]))
        go_ret
        refine ⟨?_, HS.out.below⟩
        rw [← HRES.out, HSO.out]
        rfl
      | true =>
        cases hsi : (s.si == 0) <;> cases hst : (s.st == 0)
        all_goals
          have HSI := Aside0.mk hsi
          have HST := Aside0.mk hst
          go_wp2_with (first | (go_at_call 68; (with_reducible refine (Nod.check_any _ _ s.nodes _ (HK.out.rn.sh HS.out)).mono ?_); rintro e w2 ⟨rfl, hb⟩; rw [H2.out]; have HS1 := HS.out.quiet hb; clear HS hb; have HS := Aside0.mk HS1; clear HS1) | (go_at_call 69; (with_reducible refine (Led.ck_any _ _ _ _ s.lim s.nxt s.held s.last _ (HK.out.rh.sh HS.out) (HK.out.rl.sh HS.out) HNX.out HK.out.ser).mono ?_); rintro e w2 ⟨rfl, hb⟩; rw [Led.ck_isLed, H3.out]; have HS1 := HS.out.quiet hb; clear HS hb; have HS := Aside0.mk HS1; clear HS1) | ((first | ((first | ((with_reducible refine gA rfl ?_); refine sh_alloc HS.out rfl rfl (zeT _ (by decide)) ?_) | ((with_reducible refine gB rfl ?_); refine bx HS.out rfl rfl ?_; first | refine bv (v := .agg (List.toArray _)) rfl ?_ | refine bv (v := .int _ _) rfl ?_ | refine bv (v := .slice _ _ _) rfl ?_ | refine bv (v := .bool _) rfl ?_ | refine bv (v := .pointer _) rfl ?_) | ((with_reducible refine gL rfl ?_); refine sh_lit HS.out rfl rfl (by go_simp; exact ⟨⟨rfl, rfl⟩, rfl⟩) ?_)); clear HS; intro g w1 hg HS1; (simp only [Led.Held.enc, Led.Last.enc, zeF, segOf, aL, aC, aE] at HS1); have HS := Aside0.mk HS1; clear HS1) | ((with_reducible refine gLd rfl ?_); refine ld2 HS.out rfl rfl rfl (by repeat (first | exact AtI.here | apply AtI.there)) ?_; (first | refine LdK.one ((agT _ (by decide)).trans rfl) rfl ?_ | (refine LdK.agg ((agT _ (by decide)).trans rfl) (szT _ (by decide)) (lb rfl) ?_; try simp only [szL, aP, aN, aT, aZ, aS, aD, aF, aJ, aK, aM, aO]))) | ((with_reducible refine gSt rfl ?_); refine st2 HS.out rfl rfl rfl rfl (by repeat (first | exact AtI.here | apply AtI.there)) ?_; (first | refine sv (u := .agg (List.toArray _)) rfl ?_ | refine sv (u := .int _ _) rfl ?_ | refine sv (u := .slice _ _ _) rfl ?_ | refine sv (u := .bool _) rfl ?_ | refine sv (u := .pointer _) rfl ?_); refine sw (szT _ (by decide)) rfl (lb rfl) ?_; clear HS; intro w1 HS1; (simp only [Led.Held.enc, Led.Last.enc, segOf, aL, aZ, aS, putSeg] at HS1); have HS := Aside0.mk HS1; clear HS1)); try simp only [aP, aN, aT, aZ, aS]))
          go_ret
          refine ⟨?_, HS.out.below⟩
          rw [← HRES.out, HSO.out, HSI.out, HST.out]
          rfl
/-- The document's. -/
theorem refShot_any (s : Sht) (w : World) (hk : s.ok w) : Calls Try.prog 91 #[.agg #[.int .u64 s.si, .int .u64 s.st, .slice s.nA s.nodes.length s.nc, .int .i64 s.lim, .int .u64 s.nxt, .slice s.hA s.held.length s.hc, .slice s.lA s.last.length s.lc]] w (fun e w' => e = .returned (.int .i64 (if shotOk s then 0 else 60)) ∧ Below w.heap.size w w') := by
  have HK := Aside0.mk hk
  have hm := hk.rh.len.2
  clear hk
  have HS := Aside0.mk (SH.start w)
  generalize hres : (if shotOk s then (0 : Int) else 60) = res
  have HRES := Aside0.mk hres
  clear hres
  obtain ⟨b1, h1⟩ : ∃ b, (s.held.all (fun h => decide (h.stamp ≤ s.si))) = b := ⟨_, rfl⟩
  obtain ⟨b2, h2⟩ : ∃ b, Nod.good s.nodes = b := ⟨_, rfl⟩
  obtain ⟨b3, h3⟩ : ∃ b, Led.isLed s.lim s.nxt s.held s.last = b := ⟨_, rfl⟩
  have HSO := Aside0.mk (show shotOk s = (s.held.all (fun h => decide (h.stamp ≤ s.si)) && b2 && b3 && ((s.si == 0) == (s.st == 0))) by unfold shotOk; rw [h2, h3])
  have H2 := Aside0.mk h2
  have H3 := Aside0.mk h3
  clear h2 h3 h1
  go_enter Try.func91, Try.ntmps91
  go_upto_region 1 with (first | ((first | ((first | ((with_reducible refine gA rfl ?_); refine sh_alloc HS.out rfl rfl (zeT _ (by decide)) ?_) | ((with_reducible refine gB rfl ?_); refine bx HS.out rfl rfl ?_; first | refine bv (v := .agg (List.toArray _)) rfl ?_ | refine bv (v := .int _ _) rfl ?_ | refine bv (v := .slice _ _ _) rfl ?_ | refine bv (v := .bool _) rfl ?_ | refine bv (v := .pointer _) rfl ?_) | ((with_reducible refine gL rfl ?_); refine sh_lit HS.out rfl rfl (by go_simp; exact ⟨⟨rfl, rfl⟩, rfl⟩) ?_)); clear HS; intro g w1 hg HS1; (simp only [Led.Held.enc, Led.Last.enc, zeF, segOf, aL, aC, aE] at HS1); have HS := Aside0.mk HS1; clear HS1) | ((with_reducible refine gLd rfl ?_); refine ld2 HS.out rfl rfl rfl (by repeat (first | exact AtI.here | apply AtI.there)) ?_; (first | refine LdK.one ((agT _ (by decide)).trans rfl) rfl ?_ | (refine LdK.agg ((agT _ (by decide)).trans rfl) (szT _ (by decide)) (lb rfl) ?_; try simp only [szL, aP, aN, aT, aZ, aS, aD, aF, aJ, aK, aM, aO]))) | ((with_reducible refine gSt rfl ?_); refine st2 HS.out rfl rfl rfl rfl (by repeat (first | exact AtI.here | apply AtI.there)) ?_; (first | refine sv (u := .agg (List.toArray _)) rfl ?_ | refine sv (u := .int _ _) rfl ?_ | refine sv (u := .slice _ _ _) rfl ?_ | refine sv (u := .bool _) rfl ?_ | refine sv (u := .pointer _) rfl ?_); refine sw (szT _ (by decide)) rfl (lb rfl) ?_; clear HS; intro w1 HS1; (simp only [Led.Held.enc, Led.Last.enc, segOf, aL, aZ, aS, putSeg] at HS1); have HS := Aside0.mk HS1; clear HS1)); try simp only [aP, aN, aT, aZ, aS]))
  obtain ⟨gs, hgs⟩ : ∃ gs, gs = g := ⟨_, rfl⟩
  subst hgs
  go_cut [3] (fun v3 wx => v3 = .bool (b2 && b3 && ((s.si == 0) == (s.st == 0))) ∧ Aside0 (SH w wx [blk gs [.int .u64 s.si, .int .u64 s.st, .slice s.nA s.nodes.length s.nc, .int .i64 s.lim, .int .u64 s.nxt, .slice s.hA s.held.length s.hc, .slice s.lA s.last.length s.lc] 29]))
  case first =>
    cases b2 <;> cases b3 <;> cases hsi : (s.si == 0) <;> cases hst : (s.st == 0)
    all_goals
      have HSI := Aside0.mk hsi
      have HST := Aside0.mk hst
      go_wp2_with (first | (go_at_call 108; (with_reducible refine (Nod.refCheck_any _ _ s.nodes _ (HK.out.rn.sh HS.out)).mono ?_); rintro e w2 ⟨rfl, rfl⟩; rw [H2.out]; skip) | (go_at_call 85; (with_reducible refine (Led.refCk_any _ _ _ _ s.lim s.nxt s.held s.last _ (HK.out.rh.sh HS.out) (HK.out.rl.sh HS.out) HK.out.hc (fun x hx => (HK.out.ser x hx).1)).mono ?_); rintro e w2 ⟨rfl, hb⟩; rw [H3.out]; have HS1 := HS.out.quiet hb; clear HS hb; have HS := Aside0.mk HS1; clear HS1) | ((first | ((first | ((with_reducible refine gA rfl ?_); refine sh_alloc HS.out rfl rfl (zeT _ (by decide)) ?_) | ((with_reducible refine gB rfl ?_); refine bx HS.out rfl rfl ?_; first | refine bv (v := .agg (List.toArray _)) rfl ?_ | refine bv (v := .int _ _) rfl ?_ | refine bv (v := .slice _ _ _) rfl ?_ | refine bv (v := .bool _) rfl ?_ | refine bv (v := .pointer _) rfl ?_) | ((with_reducible refine gL rfl ?_); refine sh_lit HS.out rfl rfl (by go_simp; exact ⟨⟨rfl, rfl⟩, rfl⟩) ?_)); clear HS; intro g w1 hg HS1; (simp only [Led.Held.enc, Led.Last.enc, zeF, segOf, aL, aC, aE] at HS1); have HS := Aside0.mk HS1; clear HS1) | ((with_reducible refine gLd rfl ?_); refine ld2 HS.out rfl rfl rfl (by repeat (first | exact AtI.here | apply AtI.there)) ?_; (first | refine LdK.one ((agT _ (by decide)).trans rfl) rfl ?_ | (refine LdK.agg ((agT _ (by decide)).trans rfl) (szT _ (by decide)) (lb rfl) ?_; try simp only [szL, aP, aN, aT, aZ, aS, aD, aF, aJ, aK, aM, aO]))) | ((with_reducible refine gSt rfl ?_); refine st2 HS.out rfl rfl rfl rfl (by repeat (first | exact AtI.here | apply AtI.there)) ?_; (first | refine sv (u := .agg (List.toArray _)) rfl ?_ | refine sv (u := .int _ _) rfl ?_ | refine sv (u := .slice _ _ _) rfl ?_ | refine sv (u := .bool _) rfl ?_ | refine sv (u := .pointer _) rfl ?_); refine sw (szT _ (by decide)) rfl (lb rfl) ?_; clear HS; intro w1 HS1; (simp only [Led.Held.enc, Led.Last.enc, segOf, aL, aZ, aS, putSeg] at HS1); have HS := Aside0.mk HS1; clear HS1)); try simp only [aP, aN, aT, aZ, aS]))
      go_meet
      case rel => exact ⟨by rw [HSI.out, HST.out]; rfl, HS⟩
  case rest =>
    clear HS
    obtain ⟨rfl, HS⟩ := hcut
    generalize hg0 : (b2 && b3 && ((s.si == 0) == (s.st == 0))) = g0
    have hso := HSO.out
    have HSO := Aside0.mk (show shotOk s = (g0 && s.held.all (fun h => decide (h.stamp ≤ s.si))) by rw [hso, ← hg0]; generalize s.held.all _ = q; generalize ((s.si == 0) == (s.st == 0)) = r; cases b2 <;> cases b3 <;> cases r <;> cases q <;> rfl)
    clear hg0 hso
    go_wp2_with (first | ((first | ((first | ((with_reducible refine gA rfl ?_); refine sh_alloc HS.out rfl rfl (zeT _ (by decide)) ?_) | ((with_reducible refine gB rfl ?_); refine bx HS.out rfl rfl ?_; first | refine bv (v := .agg (List.toArray _)) rfl ?_ | refine bv (v := .int _ _) rfl ?_ | refine bv (v := .slice _ _ _) rfl ?_ | refine bv (v := .bool _) rfl ?_ | refine bv (v := .pointer _) rfl ?_) | ((with_reducible refine gL rfl ?_); refine sh_lit HS.out rfl rfl (by go_simp; exact ⟨⟨rfl, rfl⟩, rfl⟩) ?_)); clear HS; intro g w1 hg HS1; (simp only [Led.Held.enc, Led.Last.enc, zeF, segOf, aL, aC, aE] at HS1); have HS := Aside0.mk HS1; clear HS1) | ((with_reducible refine gLd rfl ?_); refine ld2 HS.out rfl rfl rfl (by repeat (first | exact AtI.here | apply AtI.there)) ?_; (first | refine LdK.one ((agT _ (by decide)).trans rfl) rfl ?_ | (refine LdK.agg ((agT _ (by decide)).trans rfl) (szT _ (by decide)) (lb rfl) ?_; try simp only [szL, aP, aN, aT, aZ, aS, aD, aF, aJ, aK, aM, aO]))) | ((with_reducible refine gSt rfl ?_); refine st2 HS.out rfl rfl rfl rfl (by repeat (first | exact AtI.here | apply AtI.there)) ?_; (first | refine sv (u := .agg (List.toArray _)) rfl ?_ | refine sv (u := .int _ _) rfl ?_ | refine sv (u := .slice _ _ _) rfl ?_ | refine sv (u := .bool _) rfl ?_ | refine sv (u := .pointer _) rfl ?_); refine sw (szT _ (by decide)) rfl (lb rfl) ?_; clear HS; intro w1 HS1; (simp only [Led.Held.enc, Led.Last.enc, segOf, aL, aZ, aS, putSeg] at HS1); have HS := Aside0.mk HS1; clear HS1)); try simp only [aP, aN, aT, aZ, aS]))
    go_loopw [3, 29] (fun v3 v29 wr => ∃ (k : Nat), k ≤ s.held.length ∧ v29 = .int .i64 k ∧ v3 = .bool (g0 && (s.held.take k).all (fun h => decide (h.stamp ≤ s.si))) ∧ Aside0 (SH w wr [blk gs [.int .u64 s.si, .int .u64 s.st, .slice s.nA s.nodes.length s.nc, .int .i64 s.lim, .int .u64 s.nxt, .slice s.hA s.held.length s.hc, .slice s.lA s.last.length s.lc] 29])) (fun _ v29 _ => s.held.length - (intOf v29).toNat)
    case atStart => exact ⟨0, Nat.zero_le _, rfl, by simp, HS⟩
    case round =>
      clear HS
      obtain ⟨k, hk, rfl, rfl, HS⟩ := hrel
      by_cases hlt : k < s.held.length
      · have hRR := HK.out.rh.sh HS.out
        obtain ⟨ad, had⟩ := hRR.addr (by omega)
        generalize hx : s.held.getD k default = x
        have HT := Aside0.mk (show ((s.held.take (k + 1)).all (fun h => decide (h.stamp ≤ s.si))) = ((s.held.take k).all (fun h => decide (h.stamp ≤ s.si)) && decide (x.stamp ≤ s.si)) by
          rw [Led.take_succ_getD default hlt, List.all_append, hx]
          simp)
        have HX := Aside0.mk hx
        clear hx
        have HAD := Aside0.mk had
        rw [had] at hRR
        have HRR := Aside0.mk hRR
        clear had hRR
        generalize hgk : (g0 && (s.held.take k).all (fun h => decide (h.stamp ≤ s.si))) = gk
        have HGK := Aside0.mk hgk
        clear hgk
        rw [HAD.out] at HS ⊢
        cases gk with
        | false =>
          go_wp2_with (first | ((with_reducible refine gLd rfl ?_); refine rd_load HRR.out rfl rfl (i := k) rfl hlt default Led.Held.len ((agT _ (by decide)).trans rfl) (szT _ (by decide)) ?_; intro x hx; obtain rfl := HX.out.symm.trans hx; (try simp only [Led.Held.enc, Led.Last.enc, aP, aN, aT, aZ, aS])) | ((first | ((first | ((with_reducible refine gA rfl ?_); refine sh_alloc HS.out rfl rfl (zeT _ (by decide)) ?_) | ((with_reducible refine gB rfl ?_); refine bx HS.out rfl rfl ?_; first | refine bv (v := .agg (List.toArray _)) rfl ?_ | refine bv (v := .int _ _) rfl ?_ | refine bv (v := .slice _ _ _) rfl ?_ | refine bv (v := .bool _) rfl ?_ | refine bv (v := .pointer _) rfl ?_) | ((with_reducible refine gL rfl ?_); refine sh_lit HS.out rfl rfl (by go_simp; exact ⟨⟨rfl, rfl⟩, rfl⟩) ?_)); clear HS; intro g w1 hg HS1; (simp only [Led.Held.enc, Led.Last.enc, zeF, segOf, aL, aC, aE] at HS1); have HS := Aside0.mk HS1; clear HS1) | ((with_reducible refine gLd rfl ?_); refine ld2 HS.out rfl rfl rfl (by repeat (first | exact AtI.here | apply AtI.there)) ?_; (first | refine LdK.one ((agT _ (by decide)).trans rfl) rfl ?_ | (refine LdK.agg ((agT _ (by decide)).trans rfl) (szT _ (by decide)) (lb rfl) ?_; try simp only [szL, aP, aN, aT, aZ, aS, aD, aF, aJ, aK, aM, aO]))) | ((with_reducible refine gSt rfl ?_); refine st2 HS.out rfl rfl rfl rfl (by repeat (first | exact AtI.here | apply AtI.there)) ?_; (first | refine sv (u := .agg (List.toArray _)) rfl ?_ | refine sv (u := .int _ _) rfl ?_ | refine sv (u := .slice _ _ _) rfl ?_ | refine sv (u := .bool _) rfl ?_ | refine sv (u := .pointer _) rfl ?_); refine sw (szT _ (by decide)) rfl (lb rfl) ?_; clear HS; intro w1 HS1; (simp only [Led.Held.enc, Led.Last.enc, segOf, aL, aZ, aS, putSeg] at HS1); have HS := Aside0.mk HS1; clear HS1)); try simp only [aP, aN, aT, aZ, aS]))
          have HS1 := HS.out.pick [0] rfl (by decide)
          clear HS
          have HS := Aside0.mk HS1
          clear HS1
          go_roundw
          case rel => exact ⟨k + 1, by omega, by go_num, by rw [HT.out, ← Bool.and_assoc, HGK.out]; rfl, HS⟩
          case measure => simp [intOf]; omega
        | true =>
          go_wp2_with (first | ((with_reducible refine gLd rfl ?_); refine rd_load HRR.out rfl rfl (i := k) rfl hlt default Led.Held.len ((agT _ (by decide)).trans rfl) (szT _ (by decide)) ?_; intro x hx; obtain rfl := HX.out.symm.trans hx; (try simp only [Led.Held.enc, Led.Last.enc, aP, aN, aT, aZ, aS])) | ((first | ((first | ((with_reducible refine gA rfl ?_); refine sh_alloc HS.out rfl rfl (zeT _ (by decide)) ?_) | ((with_reducible refine gB rfl ?_); refine bx HS.out rfl rfl ?_; first | refine bv (v := .agg (List.toArray _)) rfl ?_ | refine bv (v := .int _ _) rfl ?_ | refine bv (v := .slice _ _ _) rfl ?_ | refine bv (v := .bool _) rfl ?_ | refine bv (v := .pointer _) rfl ?_) | ((with_reducible refine gL rfl ?_); refine sh_lit HS.out rfl rfl (by go_simp; exact ⟨⟨rfl, rfl⟩, rfl⟩) ?_)); clear HS; intro g w1 hg HS1; (simp only [Led.Held.enc, Led.Last.enc, zeF, segOf, aL, aC, aE] at HS1); have HS := Aside0.mk HS1; clear HS1) | ((with_reducible refine gLd rfl ?_); refine ld2 HS.out rfl rfl rfl (by repeat (first | exact AtI.here | apply AtI.there)) ?_; (first | refine LdK.one ((agT _ (by decide)).trans rfl) rfl ?_ | (refine LdK.agg ((agT _ (by decide)).trans rfl) (szT _ (by decide)) (lb rfl) ?_; try simp only [szL, aP, aN, aT, aZ, aS, aD, aF, aJ, aK, aM, aO]))) | ((with_reducible refine gSt rfl ?_); refine st2 HS.out rfl rfl rfl rfl (by repeat (first | exact AtI.here | apply AtI.there)) ?_; (first | refine sv (u := .agg (List.toArray _)) rfl ?_ | refine sv (u := .int _ _) rfl ?_ | refine sv (u := .slice _ _ _) rfl ?_ | refine sv (u := .bool _) rfl ?_ | refine sv (u := .pointer _) rfl ?_); refine sw (szT _ (by decide)) rfl (lb rfl) ?_; clear HS; intro w1 HS1; (simp only [Led.Held.enc, Led.Last.enc, segOf, aL, aZ, aS, putSeg] at HS1); have HS := Aside0.mk HS1; clear HS1)); try simp only [aP, aN, aT, aZ, aS]))
          have HS1 := HS.out.pick [0] rfl (by decide)
          clear HS
          have HS := Aside0.mk HS1
          clear HS1
          go_roundw
          case rel => exact ⟨k + 1, by omega, by go_num, by rw [HT.out, ← Bool.and_assoc, HGK.out]; rfl, HS⟩
          case measure => simp [intOf]; omega
      · obtain rfl : k = s.held.length := by omega
        rw [List.take_length]
        generalize hgk : (g0 && s.held.all (fun h => decide (h.stamp ≤ s.si))) = gk
        have HF := Aside0.mk (show shotOk s = gk by rw [HSO.out, hgk])
        clear hgk
        cases gk <;>
          (go_wp2_with (first | ((first | ((first | ((with_reducible refine gA rfl ?_); refine sh_alloc HS.out rfl rfl (zeT _ (by decide)) ?_) | ((with_reducible refine gB rfl ?_); refine bx HS.out rfl rfl ?_; first | refine bv (v := .agg (List.toArray _)) rfl ?_ | refine bv (v := .int _ _) rfl ?_ | refine bv (v := .slice _ _ _) rfl ?_ | refine bv (v := .bool _) rfl ?_ | refine bv (v := .pointer _) rfl ?_) | ((with_reducible refine gL rfl ?_); refine sh_lit HS.out rfl rfl (by go_simp; exact ⟨⟨rfl, rfl⟩, rfl⟩) ?_)); clear HS; intro g w1 hg HS1; (simp only [Led.Held.enc, Led.Last.enc, zeF, segOf, aL, aC, aE] at HS1); have HS := Aside0.mk HS1; clear HS1) | ((with_reducible refine gLd rfl ?_); refine ld2 HS.out rfl rfl rfl (by repeat (first | exact AtI.here | apply AtI.there)) ?_; (first | refine LdK.one ((agT _ (by decide)).trans rfl) rfl ?_ | (refine LdK.agg ((agT _ (by decide)).trans rfl) (szT _ (by decide)) (lb rfl) ?_; try simp only [szL, aP, aN, aT, aZ, aS, aD, aF, aJ, aK, aM, aO]))) | ((with_reducible refine gSt rfl ?_); refine st2 HS.out rfl rfl rfl rfl (by repeat (first | exact AtI.here | apply AtI.there)) ?_; (first | refine sv (u := .agg (List.toArray _)) rfl ?_ | refine sv (u := .int _ _) rfl ?_ | refine sv (u := .slice _ _ _) rfl ?_ | refine sv (u := .bool _) rfl ?_ | refine sv (u := .pointer _) rfl ?_); refine sw (szT _ (by decide)) rfl (lb rfl) ?_; clear HS; intro w1 HS1; (simp only [Led.Held.enc, Led.Last.enc, segOf, aL, aZ, aS, putSeg] at HS1); have HS := Aside0.mk HS1; clear HS1)); try simp only [aP, aN, aT, aZ, aS]))
           go_ret
           exact ⟨by rw [← HRES.out, HF.out]; rfl, HS.out.below⟩)
end Go.Proofs.Ytekjihmepdhmeaa.Rlo

