/- Lemmas towards the law: what of the text DkH it needs. -/
import Derived.Test.YtgcgnhcjjlnloaaDoorDkQ5q
import Derived.Test.YtgcgnhcjjlnloaaDoorDkQ6q
import Derived.Test.YtgcgnhcjjlnloaaDoorDkGq
namespace Go.Proofs.YtgcgnhcjjlnloaaDoor.Dk
open Go.RowKit Go.Proofs.YtgcgnhcjjlnloaaDoorW.PrintWords Go.Proofs.YtgcgnhcjjlnloaaDoor.Sl
set_option linter.unusedVariables false
set_option linter.unusedSimpArgs false
structure Op1.okW (w : World) (y : Op1) : Prop where
  cap : y.nk ≤ y.ck
  rd : Rd (ints .i64) 1 w y.K y.nk y.keep
  nm : y.name.size ≤ 9223372036854775807
  n : y.n ≤ 9223372036854775807
theorem i64_hi {n : Int} (h : (Lit.int .i64 n).wf = true) : n ≤ 9223372036854775807 := by
  simp only [Lit.wf, IntKind.min, IntKind.max, IntKind.signed, IntKind.bits, Bool.and_eq_true, decide_eq_true_eq, if_true] at h
  omega
theorem op_openG {w : World} (x : LawArmed.opS.D) (cs : List Value) (h : LawArmed.opS.kd.K w x cs) (hw : LawArmed.opS.wf x) : ∃ y : Op1, cs = y.enc ∧ y.okW w := by
  obtain ⟨_, _, rfl, rfl, _, _, rfl, rfl, _, _, rfl, rfl, _, _, rfl, rfl, _, _, rfl, ⟨K, ck, rfl, hl, hC⟩, rfl⟩ := h
  obtain ⟨ys, hys, hr, _⟩ := C_mapR hC (0 : Int) (enc := ints .i64) (sz := 1) rfl (R := fun _ => True) (fun x _ cs h => ⟨x, h, trivial⟩)
  obtain ⟨_, h2, h3, _⟩ := hw
  exact ⟨⟨x.1, x.2.1, x.2.2.1, x.2.2.2.1, K, _, ck, ys⟩, rfl, hl, hr, h3, i64_hi h2⟩
theorem Lk.start : Lk 0 false false [] ⟨[], -1, false⟩ := ⟨Sim.nil, rfl, rfl⟩
theorem DOk.start : DOk 0 0 false [] L0 := ⟨List.nodup_nil, (fun p hp => by cases hp), Nat.zero_le _, MOk.nil 0, (fun h => by cases h)⟩
theorem XOk.start (Bd : Nat) : XOk Bd ⟨[], -1, false⟩ := ⟨Nat.zero_le _, (fun f hf => by cases hf), by show (-1 : Int) ≤ _; omega⟩
set_option maxHeartbeats 12800000 in
set_option maxRecDepth 100000 in
theorem lawGoes_any (A0 : Option Addr) (cA : Nat) (l : List Op1) (w : World) {N : Nat} (hr : Rd Op1.enc 5 w A0 N l) (hok : ∀ y ∈ l, y.okW w) :
    Calls Tryd.prog 4 #[.slice A0 N cA] w (fun e w' => e = .returned (.bool true) ∧ Below w.heap.size w w') := by
  obtain rfl := hr.len.1
  have HR := Aside0.mk hr
  have HOKW := Aside0.mk hok
  clear hr hok
  have HS := Aside0.mk (SH.start w)
  go_enter Tryd.func4, Tryd.ntmps4
  go_upto_region 4 with (first | (go_at_call 6; (with_reducible refine (live_any _).mono ?_); rintro e w2 ⟨rfl, hb⟩;  have HS1 := HS.out.quiet hb; clear HS hb; have HS := Aside0.mk HS1; clear HS1) | (go_at_call 7; (with_reducible refine (new_any _).mono ?_); rintro e w2 ⟨gD, gM, rfl, HS9⟩; have HS8 := pool_new (HS.out.call HS9); clear HS9 HS; have HS := Aside0.mk HS8; clear HS8; simp only [aC, aE] at HS) | (go_at_call 11; (with_reducible refine (rnew_any _).mono ?_); rintro e w2 ⟨gX, rfl, HS9⟩; have HS8 := HS.out.call HS9; clear HS9 HS; have HS := Aside0.mk HS8; clear HS8; simp only [aC, aE] at HS))
  by_cases h150 : 150 < l.length
  · have h150' : decide ((150 : Int) < (l.length : Int)) = true := by rw [decide_eq_true_eq]; omega
    go_wp2
    go_ret
    exact ⟨rfl, HS.out.below⟩
  · have h150' : decide ((150 : Int) < (l.length : Int)) = false := by rw [decide_eq_false_iff_not]; omega
    go_wp2
    go_loopw [4, 27] (fun v4 v27 wr => ∃ (k gD gM : Nat) (left : Int) (armed off : Bool) (m : FM) (L : List (Option Addr × List Int)) (S : Nat → Prop) (x : RDk) (A : Option Addr) (c : Nat) (SR : Nat → Prop), k ≤ l.length ∧ v27 = .int .i64 k ∧ v4 = .pointer (some ⟨gD, 0, none⟩) ∧ Aside0 (DOk (k * 10000) left armed m L) ∧ Aside0 (XOk (k * 10000) x) ∧ Aside0 (Lk left armed off m x) ∧ Aside0 (SH w wr [blk gD [.map (some gM), .int .i64 left, .bool armed, .bool off] 52, mpF gM m, poolI L S, blk gX [.slice A x.F.length c, .int .i64 x.arm, .bool x.off] 60, row rfK 65 (.slice A x.F.length c) x.F SR]) ) (fun _ v27 _ => l.length - (intOf v27).toNat)
    case atStart => exact ⟨0, gD, gM, 0, false, false, [], L0, _, ⟨[], -1, false⟩, none, 0, _, Nat.zero_le _, rfl, rfl, ⟨DOk.start⟩, ⟨XOk.start _⟩, ⟨Lk.start⟩, HS⟩
    case round =>
      clear HS h150'
      obtain ⟨k, gD, gM, left, armed, off, m, L, S, x, A, c, SR, hk, rfl, rfl, HD, HXO, HLK, HS⟩ := hrel
      by_cases hlt : k < l.length
      · obtain ⟨ad, rfl⟩ := HR.out.addr (by omega)
        have HRR := Aside0.mk (HR.out.sh HS.out)
        obtain ⟨o, ho⟩ : ∃ o, l.getD k default = o := ⟨_, rfl⟩
        have HX := Aside0.mk ho
        have HOW := Aside0.mk (show o.okW w from HOKW.out o (by rw [← ho, List.getD_eq_getElem?_getD, List.getElem?_eq_getElem hlt, Option.getD_some]; exact List.getElem_mem _))
        clear ho
        obtain ⟨dd, on, name, b, K, nk, ck, keep⟩ := o
        by_cases hb : b.size ≤ 10000
        · have hb' : decide ((10000 : Int) < (b.size : Int)) = false := by rw [decide_eq_false_iff_not]; omega
          go_upto_region 10 with (first | ((with_reducible refine gLd rfl ?_); refine rd_load HRR.out rfl rfl (i := k) rfl hlt default Op1.len ((agT _ (by decide)).trans rfl) (szT _ (by decide)) ?_; intro x hx; obtain rfl := HX.out.symm.trans hx; (try simp only [Op1.enc, aP, aN, aT, aZ, aS])) | ((fail_if_success (have _ := go)); ((with_reducible refine gA rfl ?_); refine sh_alloc HS.out rfl rfl (zeT _ (by decide)) ?_; clear HS; intro go w1 hgo HS1; (simp only [Op1.enc, zeF, segOf, aL, aC, aE] at HS1); have HS := Aside0.mk HS1; clear HS1; try simp only [aP, aN, aT, aZ, aS])) | ((first | ((first | ((with_reducible refine gA rfl ?_); refine sh_alloc HS.out rfl rfl (zeT _ (by decide)) ?_) | ((with_reducible refine gB rfl ?_); refine bx HS.out rfl rfl ?_; first | refine bv (v := .agg (List.toArray _)) rfl ?_ | refine bv (v := .int _ _) rfl ?_ | refine bv (v := .slice _ _ _) rfl ?_ | refine bv (v := .bool _) rfl ?_ | refine bv (v := .pointer _) rfl ?_ | refine bv (v := .string _) rfl ?_ | refine bv (v := .map _) rfl ?_ | refine bv (v := .func _ _ _) rfl ?_) | ((with_reducible refine gL rfl ?_); refine sh_lit HS.out rfl rfl (by go_simp; exact ⟨⟨rfl, rfl⟩, rfl⟩) ?_)); clear HS; intro g w1 hg HS1; (simp only [Op1.enc, zeF, segOf, aL, aC, aE] at HS1); have HS := Aside0.mk HS1; clear HS1) | ((with_reducible refine gLd rfl ?_); refine ld2 HS.out rfl rfl rfl (by repeat (first | exact AtI.here | apply AtI.there)) ?_; (first | refine LdK.one ((agT _ (by decide)).trans rfl) rfl ?_ | (refine LdK.agg ((agT _ (by decide)).trans rfl) (szT _ (by decide)) (lb rfl) ?_; try simp only [szL, aP, aN, aT, aZ, aS, aD, aF, aJ, aK, aM, aO]))) | ((with_reducible refine gSt rfl ?_); refine st2 HS.out rfl rfl rfl rfl (by repeat (first | exact AtI.here | apply AtI.there)) ?_; (first | refine sv (u := .agg (List.toArray _)) rfl ?_ | refine sv (u := .int _ _) rfl ?_ | refine sv (u := .slice _ _ _) rfl ?_ | refine sv (u := .bool _) rfl ?_ | refine sv (u := .pointer _) rfl ?_ | refine sv (u := .string _) rfl ?_ | refine sv (u := .map _) rfl ?_ | refine sv (u := .func _ _ _) rfl ?_); refine sw (szT _ (by decide)) rfl (lb rfl) ?_; clear HS; intro w1 HS1; (simp only [Op1.enc, segOf, aL, aZ, aS, putSeg] at HS1); have HS := Aside0.mk HS1; clear HS1)); try simp only [aP, aN, aT, aZ, aS]))
          have HB := Aside0.mk hb
          clear hb hb'
          go_upto_region 11 with (first | (go_at_call 12; (have HC := do_any (G := blk go [.int .i64 dd, .int .i64 on, .string name, .string b, .slice K nk ck] 29) gD gM _ (k * 10000) left armed off m L S x A c SR dd on name b K nk ck keep HD.out HXO.out (by omega) HB.out HOW.out.nm HOW.out.n (fun w9 hb9 _ => HOW.out.rd.below hb9) HOW.out.cap HS.out); (with_reducible refine HC.mono ?_); clear HC; rintro e w2 ⟨gD2, gM2, left2, armed2, off2, m2, L2, S2, x2, r2, A2, c2, SR2, rfl, hd2, hx2, hlk2, _, HS9⟩; (obtain ⟨rfl, hlk3⟩ := hlk2 HLK.out); clear HS HD HXO HLK hlk2; have HD := Aside0.mk hd2; have HXO := Aside0.mk hx2; have HLK := Aside0.mk hlk3; have HS := Aside0.mk HS9; clear HS9 hd2 hx2 hlk3) | ((first | ((first | ((with_reducible refine gA rfl ?_); refine sh_alloc HS.out rfl rfl (zeT _ (by decide)) ?_) | ((with_reducible refine gB rfl ?_); refine bx HS.out rfl rfl ?_; first | refine bv (v := .agg (List.toArray _)) rfl ?_ | refine bv (v := .int _ _) rfl ?_ | refine bv (v := .slice _ _ _) rfl ?_ | refine bv (v := .bool _) rfl ?_ | refine bv (v := .pointer _) rfl ?_ | refine bv (v := .string _) rfl ?_ | refine bv (v := .map _) rfl ?_ | refine bv (v := .func _ _ _) rfl ?_) | ((with_reducible refine gL rfl ?_); refine sh_lit HS.out rfl rfl (by go_simp; exact ⟨⟨rfl, rfl⟩, rfl⟩) ?_)); clear HS; intro g w1 hg HS1; (simp only [Op1.enc, zeF, segOf, aL, aC, aE] at HS1); have HS := Aside0.mk HS1; clear HS1) | ((with_reducible refine gLd rfl ?_); refine ld2 HS.out rfl rfl rfl (by repeat (first | exact AtI.here | apply AtI.there)) ?_; (first | refine LdK.one ((agT _ (by decide)).trans rfl) rfl ?_ | (refine LdK.agg ((agT _ (by decide)).trans rfl) (szT _ (by decide)) (lb rfl) ?_; try simp only [szL, aP, aN, aT, aZ, aS, aD, aF, aJ, aK, aM, aO]))) | ((with_reducible refine gSt rfl ?_); refine st2 HS.out rfl rfl rfl rfl (by repeat (first | exact AtI.here | apply AtI.there)) ?_; (first | refine sv (u := .agg (List.toArray _)) rfl ?_ | refine sv (u := .int _ _) rfl ?_ | refine sv (u := .slice _ _ _) rfl ?_ | refine sv (u := .bool _) rfl ?_ | refine sv (u := .pointer _) rfl ?_ | refine sv (u := .string _) rfl ?_ | refine sv (u := .map _) rfl ?_ | refine sv (u := .func _ _ _) rfl ?_); refine sw (szT _ (by decide)) rfl (lb rfl) ?_; clear HS; intro w1 HS1; (simp only [Op1.enc, segOf, aL, aZ, aS, putSeg] at HS1); have HS := Aside0.mk HS1; clear HS1)); try simp only [aP, aN, aT, aZ, aS]))
          go_wp2_with (first | (go_at_call 13; (have HC := same_any gD2 gM2 _ (k * 10000 + 10000) left2 armed2 off2 m2 L2 S2 x2 A2 c2 SR2 HD.out HXO.out (by omega) HLK.out HS.out); (with_reducible refine HC.mono ?_); clear HC; rintro e w2 ⟨rfl, HS9⟩; clear HS; have HS := Aside0.mk HS9; clear HS9) | ((first | ((first | ((with_reducible refine gA rfl ?_); refine sh_alloc HS.out rfl rfl (zeT _ (by decide)) ?_) | ((with_reducible refine gB rfl ?_); refine bx HS.out rfl rfl ?_; first | refine bv (v := .agg (List.toArray _)) rfl ?_ | refine bv (v := .int _ _) rfl ?_ | refine bv (v := .slice _ _ _) rfl ?_ | refine bv (v := .bool _) rfl ?_ | refine bv (v := .pointer _) rfl ?_ | refine bv (v := .string _) rfl ?_ | refine bv (v := .map _) rfl ?_ | refine bv (v := .func _ _ _) rfl ?_) | ((with_reducible refine gL rfl ?_); refine sh_lit HS.out rfl rfl (by go_simp; exact ⟨⟨rfl, rfl⟩, rfl⟩) ?_)); clear HS; intro g w1 hg HS1; (simp only [Op1.enc, zeF, segOf, aL, aC, aE] at HS1); have HS := Aside0.mk HS1; clear HS1) | ((with_reducible refine gLd rfl ?_); refine ld2 HS.out rfl rfl rfl (by repeat (first | exact AtI.here | apply AtI.there)) ?_; (first | refine LdK.one ((agT _ (by decide)).trans rfl) rfl ?_ | (refine LdK.agg ((agT _ (by decide)).trans rfl) (szT _ (by decide)) (lb rfl) ?_; try simp only [szL, aP, aN, aT, aZ, aS, aD, aF, aJ, aK, aM, aO]))) | ((with_reducible refine gSt rfl ?_); refine st2 HS.out rfl rfl rfl rfl (by repeat (first | exact AtI.here | apply AtI.there)) ?_; (first | refine sv (u := .agg (List.toArray _)) rfl ?_ | refine sv (u := .int _ _) rfl ?_ | refine sv (u := .slice _ _ _) rfl ?_ | refine sv (u := .bool _) rfl ?_ | refine sv (u := .pointer _) rfl ?_ | refine sv (u := .string _) rfl ?_ | refine sv (u := .map _) rfl ?_ | refine sv (u := .func _ _ _) rfl ?_); refine sw (szT _ (by decide)) rfl (lb rfl) ?_; clear HS; intro w1 HS1; (simp only [Op1.enc, segOf, aL, aZ, aS, putSeg] at HS1); have HS := Aside0.mk HS1; clear HS1)); try simp only [aP, aN, aT, aZ, aS]))
          go_roundw
          case rel => exact ⟨k + 1, gD2, gM2, left2, armed2, off2, m2, L2, S2, x2, A2, c2, SR2, by omega, by go_num, rfl, ⟨HD.out.up (by omega)⟩, ⟨HXO.out.up (by omega)⟩, HLK, ⟨HS.out.pick [0, 1, 2, 3, 4] rfl (by decide)⟩⟩
          case measure => simp [intOf]; omega
        · have hb' : decide ((10000 : Int) < (b.size : Int)) = true := by rw [decide_eq_true_eq]; omega
          go_wp2_with (first | ((with_reducible refine gLd rfl ?_); refine rd_load HRR.out rfl rfl (i := k) rfl hlt default Op1.len ((agT _ (by decide)).trans rfl) (szT _ (by decide)) ?_; intro x hx; obtain rfl := HX.out.symm.trans hx; (try simp only [Op1.enc, aP, aN, aT, aZ, aS])) | ((fail_if_success (have _ := go)); ((with_reducible refine gA rfl ?_); refine sh_alloc HS.out rfl rfl (zeT _ (by decide)) ?_; clear HS; intro go w1 hgo HS1; (simp only [Op1.enc, zeF, segOf, aL, aC, aE] at HS1); have HS := Aside0.mk HS1; clear HS1; try simp only [aP, aN, aT, aZ, aS])) | ((first | ((first | ((with_reducible refine gA rfl ?_); refine sh_alloc HS.out rfl rfl (zeT _ (by decide)) ?_) | ((with_reducible refine gB rfl ?_); refine bx HS.out rfl rfl ?_; first | refine bv (v := .agg (List.toArray _)) rfl ?_ | refine bv (v := .int _ _) rfl ?_ | refine bv (v := .slice _ _ _) rfl ?_ | refine bv (v := .bool _) rfl ?_ | refine bv (v := .pointer _) rfl ?_ | refine bv (v := .string _) rfl ?_ | refine bv (v := .map _) rfl ?_ | refine bv (v := .func _ _ _) rfl ?_) | ((with_reducible refine gL rfl ?_); refine sh_lit HS.out rfl rfl (by go_simp; exact ⟨⟨rfl, rfl⟩, rfl⟩) ?_)); clear HS; intro g w1 hg HS1; (simp only [Op1.enc, zeF, segOf, aL, aC, aE] at HS1); have HS := Aside0.mk HS1; clear HS1) | ((with_reducible refine gLd rfl ?_); refine ld2 HS.out rfl rfl rfl (by repeat (first | exact AtI.here | apply AtI.there)) ?_; (first | refine LdK.one ((agT _ (by decide)).trans rfl) rfl ?_ | (refine LdK.agg ((agT _ (by decide)).trans rfl) (szT _ (by decide)) (lb rfl) ?_; try simp only [szL, aP, aN, aT, aZ, aS, aD, aF, aJ, aK, aM, aO]))) | ((with_reducible refine gSt rfl ?_); refine st2 HS.out rfl rfl rfl rfl (by repeat (first | exact AtI.here | apply AtI.there)) ?_; (first | refine sv (u := .agg (List.toArray _)) rfl ?_ | refine sv (u := .int _ _) rfl ?_ | refine sv (u := .slice _ _ _) rfl ?_ | refine sv (u := .bool _) rfl ?_ | refine sv (u := .pointer _) rfl ?_ | refine sv (u := .string _) rfl ?_ | refine sv (u := .map _) rfl ?_ | refine sv (u := .func _ _ _) rfl ?_); refine sw (szT _ (by decide)) rfl (lb rfl) ?_; clear HS; intro w1 HS1; (simp only [Op1.enc, segOf, aL, aZ, aS, putSeg] at HS1); have HS := Aside0.mk HS1; clear HS1)); try simp only [aP, aN, aT, aZ, aS]))
          go_roundw
          case rel => exact ⟨k + 1, gD, gM, left, armed, off, m, L, S, x, A, c, SR, by omega, by go_num, rfl, ⟨HD.out.up (by omega)⟩, ⟨HXO.out.up (by omega)⟩, HLK, ⟨HS.out.pick [0, 1, 2, 3, 4] rfl (by decide)⟩⟩
          case measure => simp [intOf]; omega
      · obtain rfl : k = l.length := by omega
        go_wp2
        go_ret
        exact ⟨rfl, HS.out.below⟩
namespace LawGoes
def opsS : Sh := .slice 29 LawArmed.opS
theorem walk (W : World) (cs0 : List Value) (x0 : opsS.D) (hk0 : opsS.kd.K W x0 cs0) (hw0 : opsS.wf x0) (hz0 : opsS.sized Tryd.prog x0) :
    Calls Tryd.prog 4 #[opsS.val cs0] W fun e W' => e = .returned (.bool true) ∧ Below W.heap.size W W' := by
  obtain ⟨A, c, rfl, hl, hC⟩ := hk0
  obtain ⟨ys, _, hr, hE⟩ := C_mapR hC default (enc := Op1.enc) (sz := 5) rfl (R := fun y => y.okW W) (fun x hx cs h => op_openG x cs h (hw0.2 x hx))
  exact lawGoes_any A c ys W hr hE
end LawGoes
end Go.Proofs.YtgcgnhcjjlnloaaDoor.Dk
