/- Lemmas towards the law: what of the text DkQ6 it needs. -/
import Derived.Test.YtgcgnhcjjlnloaaDoorDkQ0q
namespace Go.Proofs.YtgcgnhcjjlnloaaDoor.Dk
open Go.RowKit Go.Proofs.YtgcgnhcjjlnloaaDoorW.PrintWords Go.Proofs.YtgcgnhcjjlnloaaDoor.Sl
set_option linter.unusedVariables false
set_option linter.unusedSimpArgs false
section
variable {P : Program} {o : Oper} {a : Act} {Q : Exit → Act → World → Prop} {w0 w : World} {is : List HP} {fuel i : Nat} {listed : Array Bool} {ops : Array Oper}
theorem h_rdf (i : Nat) (hi : ops[i]? = some o) (hs : Region.noSelect ops = true) (hf : Region.free .any ops listed i = true) (hr : (Region.ready .any ops listed).contains i = true) {α : Type} {enc : α → List Value} {sz : Nat} {ad : Addr} {n : Nat} {xs : List α} (f : α → Value) (z : α) {k : Nat}
    (hQ : ∀ c a w, Q (.panic c) (a.put o.dst (f (xs.getD k z))) w → Q (.panic c) a w) (hS : SH w0 w is) (hw : Region.wanted o (yielded ops a.tmps) = true) (HR : ∀ w, SH w0 w is → Rd enc sz w (some ad) n xs) {t : TypeId} {p : Operand} (ho : o.op = .load t p)
    (j : Nat) (haddr : a.eval p = .pointer (some (ad.add (k * sz + j)))) (hk : k < n) (hd : (P.underlying t).map aggD = some false) (hf' : ∀ x, (enc x)[j]? = some (f x))
    (h : wpAnyH P .any ops Q (fun w => SH w0 w is) fuel (listed.setIfInBounds i true) (a.put o.dst (f (xs.getD k z))) w) : wpAnyH P .any ops Q (fun w => SH w0 w is) (fuel + 1) listed a w := by
  obtain ⟨d, hd, hd1⟩ := Option.map_eq_some_iff.1 hd
  refine h_val i hi hs hf hr hQ hS hw (fun w hs => ?_) h
  have hc := (HR w hs).cell z hk j (hf' _)
  unfold execOp
  simp only [ho, haddr]
  cases d <;> first | (simp [aggD] at hd1; done) | simp [Instr.loadAt, Instr.sureAddr, loadVar, isAgg, underlying, go_sem, hd, hc]
end
theorem add1 (a : Addr) (k : Nat) : Value.pointer (some (a.add k)) = Value.pointer (some (a.add (k * 1 + 0))) := by rw [Nat.mul_one, Nat.add_zero]
set_option maxHeartbeats 12800000 in
set_option maxRecDepth 100000 in
theorem same_any {w0 w : World} {G : HP} (gD gM gX Bd : Nat) (left : Int) (armed off : Bool) (m : FM) (L : List (Option Addr × List Int)) (S : Nat → Prop) (x : RDk) (A : Option Addr) (c : Nat) (SR : Nat → Prop) (hd : DOk Bd left armed m L) (hx : XOk Bd x) (hBd : Bd ≤ 70368744000000) (hlk : Lk left armed off m x) (HS0 : SH w0 w [blk gD [.map (some gM), .int .i64 left, .bool armed, .bool off] 52, mpF gM m, poolI L S, blk gX [.slice A x.F.length c, .int .i64 x.arm, .bool x.off] 60, row rfK 65 (.slice A x.F.length c) x.F SR, G]) :
    Calls Tryd.prog 13 #[.pointer (some ⟨gD, 0, none⟩), .pointer (some ⟨gX, 0, none⟩)] w (fun e w' => e = .returned (.bool true) ∧ SH w0 w' [blk gD [.map (some gM), .int .i64 left, .bool armed, .bool off] 52, mpF gM m, poolI L S, blk gX [.slice A x.F.length c, .int .i64 x.arm, .bool x.off] 60, row rfK 65 (.slice A x.F.length c) x.F SR, G]) := by
  obtain ⟨F, arm, xoff⟩ := x
  simp only at HS0 ⊢
  obtain rfl : xoff = off := hlk.off
  have hxr := hx.rd (Nat.le_trans hBd (by omega))
  obtain ⟨n, hn⟩ : ∃ n, F.length = n := ⟨_, rfl⟩
  have hn64 : n ≤ 64 := by rw [← hn]; exact hx.len
  have hn1 : n ≤ 1000 := by omega
  rw [hn] at HS0
  have hsim : Sim m F := hlk.sim
  obtain ⟨nl, hnl⟩ : ∃ nl, namesOf m = nl := ⟨_, rfl⟩
  have HNL := Aside0.mk hnl
  have HNF := Aside0.mk (show nl = F.map (·.name) by rw [← hnl]; exact hsim.names hd.keys)
  have HNN := Aside0.mk (show nl.length = n by rw [HNF.out, List.length_map, hn])
  have HRO := Aside0.mk (show ∀ {nm : ByteArray} f, mget m nm = some f → (f.A, f.xs) ∈ L ∧ f.xs.length ≤ 140737488351232 from fun {nm} f hf => ⟨(hd.ok.each _ (mget_mem hf)).mem, by have := (hd.ok.each _ (mget_mem hf)).small; simp only at this; omega⟩)
  have HLOK := Aside0.mk (show ∀ {nm : ByteArray} f, mget m nm = some f → f.safe ≤ f.xs.length ∧ f.xs.length ≤ 9223372036854775807 from fun {nm} f hf => ⟨(hd.ok.each _ (mget_mem hf)).safe, by have := (hd.ok.each _ (mget_mem hf)).small; simp only at this; omega⟩)
  have HSIM := Aside0.mk hsim
  have HM := Aside0.mk hn
  have HS := Aside0.mk HS0
  have HD := Aside0.mk hd
  have HXR := Aside0.mk hxr
  clear HS0 hd hx hxr hn hsim hlk hnl
  cases xoff
  · go_enter Tryd.func13, Tryd.ntmps13
    go_upto_region 2 with (first | (go_at_call 14; (have HC := names_any (F := allI [poolI L S, blk gX [.slice A n c, .int .i64 arm, .bool false] 60, row rfK 65 (.slice A n c) F SR, G]) gD gM (.int .i64 left) (.bool armed) (.bool false) m HD.out.keys (SH.pack (is := [_, _]) [_, _, _, _] HS.out)); (with_reducible refine HC.mono ?_); clear HC; rintro e w2 ⟨v, SN, rfl, HS9⟩; (rw [HNL.out] at HS9); clear HS; have HS := Aside0.mk (show SH w0 w2 [_, _, _, _, _, _, _] from (SH.unpack (is := [_, _, _]) [_, _, _, _] (HS9.pick [0, 1, 3, 2] rfl (by decide))).pick [0, 1, 3, 4, 5, 6, 2] rfl (by decide)); clear HS9; obtain ⟨AN, cN, rfl, hcN, _⟩ := row_rd HS.out 6 rfl; (rw [HNN.out] at HS hcN ⊢)) | ((first | ((first | ((with_reducible refine gA rfl ?_); refine sh_alloc HS.out rfl rfl (zeT _ (by decide)) ?_) | ((with_reducible refine gB rfl ?_); refine bx HS.out rfl rfl ?_; first | refine bv (v := .agg (List.toArray _)) rfl ?_ | refine bv (v := .int _ _) rfl ?_ | refine bv (v := .slice _ _ _) rfl ?_ | refine bv (v := .bool _) rfl ?_ | refine bv (v := .pointer _) rfl ?_ | refine bv (v := .string _) rfl ?_ | refine bv (v := .map _) rfl ?_ | refine bv (v := .func _ _ _) rfl ?_) | ((with_reducible refine gL rfl ?_); refine sh_lit HS.out rfl rfl (by go_simp; exact ⟨⟨rfl, rfl⟩, rfl⟩) ?_)); clear HS; intro g w1 hg HS1; (simp only [RF.enc, zeF, segOf, aL, aC, aE] at HS1); have HS := Aside0.mk HS1; clear HS1) | ((with_reducible refine gLd rfl ?_); refine ld2 HS.out rfl rfl rfl (by repeat (first | exact AtI.here | apply AtI.there)) ?_; (first | refine LdK.one ((agT _ (by decide)).trans rfl) rfl ?_ | (refine LdK.agg ((agT _ (by decide)).trans rfl) (szT _ (by decide)) (lb rfl) ?_; try simp only [szL, aP, aN, aT, aZ, aS, aD, aF, aJ, aK, aM, aO]))) | ((with_reducible refine gSt rfl ?_); refine st2 HS.out rfl rfl rfl rfl (by repeat (first | exact AtI.here | apply AtI.there)) ?_; (first | refine sv (u := .agg (List.toArray _)) rfl ?_ | refine sv (u := .int _ _) rfl ?_ | refine sv (u := .slice _ _ _) rfl ?_ | refine sv (u := .bool _) rfl ?_ | refine sv (u := .pointer _) rfl ?_ | refine sv (u := .string _) rfl ?_ | refine sv (u := .map _) rfl ?_ | refine sv (u := .func _ _ _) rfl ?_); refine sw (szT _ (by decide)) rfl (lb rfl) ?_; clear HS; intro w1 HS1; (simp only [RF.enc, segOf, aL, aZ, aS, putSeg] at HS1); have HS := Aside0.mk HS1; clear HS1)); try simp only [aP, aN, aT, aZ, aS]))
    refine held_start mixed HS.out (fun HS1 => ?_)
    clear HS
    have HS := Aside0.mk HS1
    clear HS1
    refine h_val 0 (v := _) (by simp only [aG, aH, aI]; rfl) (by kernel_rfl) (by kernel_rfl) (by kernel_rfl) (by exact fun _ _ _ h => h) HS.out (by kernel_rfl) (fun w hs => by (repeat (rename ∀ (_ : Act) (_ : World), _ => hK9; clear hK9)); go_simp; rfl) ?_
    (try simp only [aP, aN, aT, aZ, aS])
    refine h_val 1 (v := _) (by simp only [aG, aH, aI]; rfl) (by kernel_rfl) (by kernel_rfl) (by kernel_rfl) (by exact fun _ _ _ h => h) HS.out (by kernel_rfl) (fun w hs => by (repeat (rename ∀ (_ : Act) (_ : World), _ => hK9; clear hK9)); go_simp; rfl) ?_
    (try simp only [aP, aN, aT, aZ, aS])
    refine h_val 2 (v := _) (by simp only [aG, aH, aI]; rfl) (by kernel_rfl) (by kernel_rfl) (by kernel_rfl) (by exact fun _ _ _ h => h) HS.out (by kernel_rfl) (fun w hs => by (repeat (rename ∀ (_ : Act) (_ : World), _ => hK9; clear hK9)); go_simp; rfl) ?_
    (try simp only [aP, aN, aT, aZ, aS])
    refine h_val 3 (v := _) (by simp only [aG, aH, aI]; rfl) (by kernel_rfl) (by kernel_rfl) (by kernel_rfl) (by exact fun _ _ _ h => h) HS.out (by kernel_rfl) (fun w hs => by (repeat (rename ∀ (_ : Act) (_ : World), _ => hK9; clear hK9)); go_simp; rfl) ?_
    (try simp only [aP, aN, aT, aZ, aS])
    refine h_val 4 (v := _) (by simp only [aG, aH, aI]; rfl) (by kernel_rfl) (by kernel_rfl) (by kernel_rfl) (by exact fun _ _ _ h => h) HS.out (by kernel_rfl) (fun w hs => by (repeat (rename ∀ (_ : Act) (_ : World), _ => hK9; clear hK9)); go_simp; rfl) ?_
    (try simp only [aP, aN, aT, aZ, aS])
    refine h_load 5 (by simp only [aG, aH, aI]; rfl) (by kernel_rfl) (by kernel_rfl) (by kernel_rfl) (by exact fun _ _ _ h => h) HS.out (by kernel_rfl) rfl rfl 3 rfl ((agT _ (by decide)).trans rfl) rfl ?_
    (try simp only [aP, aN, aT, aZ, aS])
    refine h_val 6 (v := _) (by simp only [aG, aH, aI]; rfl) (by kernel_rfl) (by kernel_rfl) (by kernel_rfl) (by exact fun _ _ _ h => h) HS.out (by kernel_rfl) (fun w hs => by (repeat (rename ∀ (_ : Act) (_ : World), _ => hK9; clear hK9)); go_simp; rfl) ?_
    (try simp only [aP, aN, aT, aZ, aS])
    refine h_val 7 (v := _) (by simp only [aG, aH, aI]; rfl) (by kernel_rfl) (by kernel_rfl) (by kernel_rfl) (by exact fun _ _ _ h => h) HS.out (by kernel_rfl) (fun w hs => by (repeat (rename ∀ (_ : Act) (_ : World), _ => hK9; clear hK9)); go_simp; rfl) ?_
    (try simp only [aP, aN, aT, aZ, aS])
    refine h_val 8 (v := _) (by simp only [aG, aH, aI]; rfl) (by kernel_rfl) (by kernel_rfl) (by kernel_rfl) (by exact fun _ _ _ h => h) HS.out (by kernel_rfl) (fun w hs => by (repeat (rename ∀ (_ : Act) (_ : World), _ => hK9; clear hK9)); go_simp; rfl) ?_
    (try simp only [aP, aN, aT, aZ, aS])
    refine h_val 9 (v := _) (by simp only [aG, aH, aI]; rfl) (by kernel_rfl) (by kernel_rfl) (by kernel_rfl) (by exact fun _ _ _ h => h) HS.out (by kernel_rfl) (fun w hs => by (repeat (rename ∀ (_ : Act) (_ : World), _ => hK9; clear hK9)); go_simp; rfl) ?_
    (try simp only [aP, aN, aT, aZ, aS])
    refine h_val 11 (v := _) (by simp only [aG, aH, aI]; rfl) (by kernel_rfl) (by kernel_rfl) (by kernel_rfl) (by exact fun _ _ _ h => h) HS.out (by kernel_rfl) (fun w hs => by (repeat (rename ∀ (_ : Act) (_ : World), _ => hK9; clear hK9)); go_simp; rfl) ?_
    (try simp only [aP, aN, aT, aZ, aS])
    refine h_val 12 (v := _) (by simp only [aG, aH, aI]; rfl) (by kernel_rfl) (by kernel_rfl) (by kernel_rfl) (by exact fun _ _ _ h => h) HS.out (by kernel_rfl) (fun w hs => by (repeat (rename ∀ (_ : Act) (_ : World), _ => hK9; clear hK9)); go_simp; rfl) ?_
    (try simp only [aP, aN, aT, aZ, aS])
    refine h_val 13 (v := _) (by simp only [aG, aH, aI]; rfl) (by kernel_rfl) (by kernel_rfl) (by kernel_rfl) (by exact fun _ _ _ h => h) HS.out (by kernel_rfl) (fun w hs => by (repeat (rename ∀ (_ : Act) (_ : World), _ => hK9; clear hK9)); go_simp; rfl) ?_
    (try simp only [aP, aN, aT, aZ, aS])
    refine h_load 14 (by simp only [aG, aH, aI]; rfl) (by kernel_rfl) (by kernel_rfl) (by kernel_rfl) (by exact fun _ _ _ h => h) HS.out (by kernel_rfl) rfl rfl 3 rfl ((agT _ (by decide)).trans rfl) rfl ?_
    (try simp only [aP, aN, aT, aZ, aS])
    refine h_call 10 (by simp only [aG, aH, aI]; rfl) (by kernel_rfl) (by kernel_rfl) rfl (vs := #[.pointer (some ⟨gD, 0, none⟩)]) (by kernel_rfl) (fnT _ (by decide)) (on_any (F := allI [mpF gM m, poolI L S, blk gX [.slice A n c, .int .i64 arm, .bool false] 60, row rfK 65 (.slice A n c) F SR, G, row strK 9 (.slice AN n cN) nl SN]) gD _ _ _ false (SH.pack (is := [_]) [_, _, _, _, _, _] HS.out)) (fun e w2 hpost => ?_); obtain ⟨rfl, HS9⟩ := hpost; have HS3 := (show SH w0 w2 [_, _, _, _, _, _, _] from SH.unpack (is := [_]) [_, _, _, _, _, _] HS9); refine ⟨_, rfl, HS3, ?_⟩; clear HS HS9; have HS := Aside0.mk HS3; clear HS3; simp only [Bool.not_false, Bool.not_true]
    (try simp only [aP, aN, aT, aZ, aS])
    refine h_val 15 (v := _) (by simp only [aG, aH, aI]; rfl) (by kernel_rfl) (by kernel_rfl) (by kernel_rfl) (by exact fun _ _ _ h => h) HS.out (by kernel_rfl) (fun w hs => by (repeat (rename ∀ (_ : Act) (_ : World), _ => hK9; clear hK9)); go_simp; rfl) ?_
    (try simp only [aP, aN, aT, aZ, aS])
    refine h_val 16 (v := _) (by simp only [aG, aH, aI]; rfl) (by kernel_rfl) (by kernel_rfl) (by kernel_rfl) (by exact fun _ _ _ h => h) HS.out (by kernel_rfl) (fun w hs => by (repeat (rename ∀ (_ : Act) (_ : World), _ => hK9; clear hK9)); go_simp; rfl) ?_
    (try simp only [aP, aN, aT, aZ, aS])
    refine wpAnyH_done (by kernel_rfl) ?_ _
    go_wp2_with (first | ((first | ((first | ((with_reducible refine gA rfl ?_); refine sh_alloc HS.out rfl rfl (zeT _ (by decide)) ?_) | ((with_reducible refine gB rfl ?_); refine bx HS.out rfl rfl ?_; first | refine bv (v := .agg (List.toArray _)) rfl ?_ | refine bv (v := .int _ _) rfl ?_ | refine bv (v := .slice _ _ _) rfl ?_ | refine bv (v := .bool _) rfl ?_ | refine bv (v := .pointer _) rfl ?_ | refine bv (v := .string _) rfl ?_ | refine bv (v := .map _) rfl ?_ | refine bv (v := .func _ _ _) rfl ?_) | ((with_reducible refine gL rfl ?_); refine sh_lit HS.out rfl rfl (by go_simp; exact ⟨⟨rfl, rfl⟩, rfl⟩) ?_)); clear HS; intro g w1 hg HS1; (simp only [RF.enc, zeF, segOf, aL, aC, aE] at HS1); have HS := Aside0.mk HS1; clear HS1) | ((with_reducible refine gLd rfl ?_); refine ld2 HS.out rfl rfl rfl (by repeat (first | exact AtI.here | apply AtI.there)) ?_; (first | refine LdK.one ((agT _ (by decide)).trans rfl) rfl ?_ | (refine LdK.agg ((agT _ (by decide)).trans rfl) (szT _ (by decide)) (lb rfl) ?_; try simp only [szL, aP, aN, aT, aZ, aS, aD, aF, aJ, aK, aM, aO]))) | ((with_reducible refine gSt rfl ?_); refine st2 HS.out rfl rfl rfl rfl (by repeat (first | exact AtI.here | apply AtI.there)) ?_; (first | refine sv (u := .agg (List.toArray _)) rfl ?_ | refine sv (u := .int _ _) rfl ?_ | refine sv (u := .slice _ _ _) rfl ?_ | refine sv (u := .bool _) rfl ?_ | refine sv (u := .pointer _) rfl ?_ | refine sv (u := .string _) rfl ?_ | refine sv (u := .map _) rfl ?_ | refine sv (u := .func _ _ _) rfl ?_); refine sw (szT _ (by decide)) rfl (lb rfl) ?_; clear HS; intro w1 HS1; (simp only [RF.enc, segOf, aL, aZ, aS, putSeg] at HS1); have HS := Aside0.mk HS1; clear HS1)); try simp only [aP, aN, aT, aZ, aS]))
    go_loopw [36] (fun v36 wr => ∃ k : Nat, k ≤ n ∧ v36 = .int .i64 k ∧ Aside0 (SH w0 wr [blk gD [.map (some gM), .int .i64 left, .bool armed, .bool false] 52, mpF gM m, poolI L S, blk gX [.slice A n c, .int .i64 arm, .bool false] 60, row rfK 65 (.slice A n c) F SR, G, row strK 9 (.slice AN n cN) nl SN])) (fun v36 _ => n - (intOf v36).toNat)
    case atStart => exact ⟨0, Nat.zero_le _, rfl, HS⟩
    case round =>
      clear HS
      obtain ⟨k, hk, rfl, HS⟩ := hrel
      by_cases hlt : k < n
      · have HR := Aside0.mk (row_rds (hl := RF.len) (h1 := RF.one) 4 rfl _ HS.out)
        obtain ⟨ad, rfl⟩ := HR.out.addr (by omega)
        obtain ⟨adN, rfl⟩ : ∃ adN, AN = some adN := (row_rds (hl := strs_len) (h1 := strs_one) 6 rfl _ HS.out).addr (by omega)
        obtain ⟨f, hf⟩ : ∃ f, F.getD k default = f := ⟨_, rfl⟩
        have hfm : f ∈ F := by
          rw [← hf, List.getD_eq_getElem?_getD, List.getElem?_eq_getElem (by rw [HM.out]; exact hlt), Option.getD_some]
          exact List.getElem_mem _
        obtain ⟨g, hg, hfe⟩ := HSIM.out.fwd f hfm
        have hnk : nl.getD k ⟨#[]⟩ = f.name := by
          rw [HNF.out, ← hf, List.getD_eq_getElem?_getD, List.getElem?_map, List.getD_eq_getElem?_getD, List.getElem?_eq_getElem (by rw [HM.out]; exact hlt)]
          rfl
        obtain ⟨nm, hnm⟩ : ∃ nm, f.name = nm := ⟨_, rfl⟩
        rw [hnm] at hg hfe hnk
        obtain ⟨jA, jc, jx, js⟩ := g
        have hfe2 : f = ⟨nm, b8 jx, (js : Int)⟩ := hfe
        subst hfe2
        have HX := Aside0.mk hf
        have HG := Aside0.mk hg
        have HNK := Aside0.mk hnk
        have HFE := Aside0.mk (show findE false (mget m nm) = 0 by rw [hg]; rfl)
        obtain ⟨xs9, hx9⟩ : ∃ xs9, (findF false (mget m nm)).xs = xs9 := ⟨_, rfl⟩
        have HXS := Aside0.mk hx9
        have HXE := Aside0.mk (show jx = xs9 by rw [← hx9, hg]; rfl)
        obtain ⟨lo, hlo⟩ : ∃ lo, looseOf (mget m nm) = lo := ⟨_, rfl⟩
        have HLO := Aside0.mk hlo
        have HLX := Aside0.mk (show rlooseI F nm = lo by rw [← HSIM.out.loose, hlo])
        clear hf hg hfm hfe hnk hnm hx9 hlo
        have hxe := HXE.out
        subst hxe
        clear HXE
        go_upto_region 8 with (first | (go_at_call 15; (have HC := read_any (F := allI [blk gX [.slice (some ad) n c, .int .i64 arm, .bool false] 60, row rfK 65 (.slice (some ad) n c) F SR, G, row strK 9 (.slice (some adN) n cN) nl SN, blk gf [.string nm, .string (b8 jx), .int .i64 (js : Int)] 65]) gD gM left armed false m L S nm _ rfl HRO.out (SH.pack (is := [_, _, _]) [_, _, _, _, _] HS.out)); (with_reducible refine HC.mono ?_); clear HC; rintro e w2 ⟨v9, S9, rfl, HS9⟩; (rw [HXS.out] at HS9); (rw [HFE.out]); clear HS; have HS := Aside0.mk (show SH w0 w2 [_, _, _, _, _, _, _, _, _] from (SH.unpack (is := [_, _, _, _]) [_, _, _, _, _] (HS9.pick [0, 1, 2, 4, 3] rfl (by decide))).pick [0, 1, 2, 4, 5, 6, 7, 8, 3] rfl (by decide)); clear HS9; obtain ⟨A9, c9, rfl, hc9, _⟩ := row_rd HS.out 8 rfl) | ((with_reducible refine gLd rfl ?_); refine rd_load HR.out rfl rfl (i := k) rfl hlt default RF.len ((agT _ (by decide)).trans rfl) (szT _ (by decide)) ?_; intro x hx; obtain rfl := HX.out.symm.trans hx; (try simp only [RF.enc, aP, aN, aT, aZ, aS])) | ((fail_if_success (have _ := gf)); ((with_reducible refine gA rfl ?_); refine sh_alloc HS.out rfl rfl (zeT _ (by decide)) ?_; clear HS; intro gf w1 hgf HS1; (simp only [RF.enc, zeF, segOf, aL, aC, aE] at HS1); have HS := Aside0.mk HS1; clear HS1; try simp only [aP, aN, aT, aZ, aS])) | ((first | ((first | ((with_reducible refine gA rfl ?_); refine sh_alloc HS.out rfl rfl (zeT _ (by decide)) ?_) | ((with_reducible refine gB rfl ?_); refine bx HS.out rfl rfl ?_; first | refine bv (v := .agg (List.toArray _)) rfl ?_ | refine bv (v := .int _ _) rfl ?_ | refine bv (v := .slice _ _ _) rfl ?_ | refine bv (v := .bool _) rfl ?_ | refine bv (v := .pointer _) rfl ?_ | refine bv (v := .string _) rfl ?_ | refine bv (v := .map _) rfl ?_ | refine bv (v := .func _ _ _) rfl ?_) | ((with_reducible refine gL rfl ?_); refine sh_lit HS.out rfl rfl (by go_simp; exact ⟨⟨rfl, rfl⟩, rfl⟩) ?_)); clear HS; intro g w1 hg HS1; (simp only [RF.enc, zeF, segOf, aL, aC, aE] at HS1); have HS := Aside0.mk HS1; clear HS1) | ((with_reducible refine gLd rfl ?_); refine ld2 HS.out rfl rfl rfl (by repeat (first | exact AtI.here | apply AtI.there)) ?_; (first | refine LdK.one ((agT _ (by decide)).trans rfl) rfl ?_ | (refine LdK.agg ((agT _ (by decide)).trans rfl) (szT _ (by decide)) (lb rfl) ?_; try simp only [szL, aP, aN, aT, aZ, aS, aD, aF, aJ, aK, aM, aO]))) | ((with_reducible refine gSt rfl ?_); refine st2 HS.out rfl rfl rfl rfl (by repeat (first | exact AtI.here | apply AtI.there)) ?_; (first | refine sv (u := .agg (List.toArray _)) rfl ?_ | refine sv (u := .int _ _) rfl ?_ | refine sv (u := .slice _ _ _) rfl ?_ | refine sv (u := .bool _) rfl ?_ | refine sv (u := .pointer _) rfl ?_ | refine sv (u := .string _) rfl ?_ | refine sv (u := .map _) rfl ?_ | refine sv (u := .func _ _ _) rfl ?_); refine sw (szT _ (by decide)) rfl (lb rfl) ?_; clear HS; intro w1 HS1; (simp only [RF.enc, segOf, aL, aZ, aS, putSeg] at HS1); have HS := Aside0.mk HS1; clear HS1)); try simp only [aP, aN, aT, aZ, aS]))
        refine held_start mixed HS.out (fun HS1 => ?_)
        clear HS
        have HS := Aside0.mk HS1
        clear HS1
        refine h_val 0 (v := _) (by simp only [aG, aH, aI]; rfl) (by kernel_rfl) (by kernel_rfl) (by kernel_rfl) (by exact fun _ _ _ h => h) HS.out (by kernel_rfl) (fun w hs => by (repeat (rename ∀ (_ : Act) (_ : World), _ => hK9; clear hK9)); go_simp; rfl) ?_
        (try simp only [aP, aN, aT, aZ, aS])
        refine h_val 1 (v := _) (by simp only [aG, aH, aI]; rfl) (by kernel_rfl) (by kernel_rfl) (by kernel_rfl) (by exact fun _ _ _ h => h) HS.out (by kernel_rfl) (fun w hs => by (repeat (rename ∀ (_ : Act) (_ : World), _ => hK9; clear hK9)); go_simp; rfl) ?_
        (try simp only [aP, aN, aT, aZ, aS])
        refine h_val 2 (v := _) (by simp only [aG, aH, aI]; rfl) (by kernel_rfl) (by kernel_rfl) (by kernel_rfl) (by exact fun _ _ _ h => h) HS.out (by kernel_rfl) (fun w hs => by (repeat (rename ∀ (_ : Act) (_ : World), _ => hK9; clear hK9)); go_simp; rfl) ?_
        (try simp only [aP, aN, aT, aZ, aS])
        refine h_rdf 3 (by simp only [aG, aH, aI]; rfl) (by kernel_rfl) (by kernel_rfl) (by kernel_rfl) (fun e => Value.string e) (⟨#[]⟩ : ByteArray) (by exact fun _ _ _ h => h) HS.out (by kernel_rfl) (row_rds (hl := strs_len) (h1 := strs_one) 6 rfl) rfl 0 (by exact add1 adN k) hlt ((agT _ (by decide)).trans rfl) (fun _ => rfl) ?_; (rw [HNK.out])
        (try simp only [aP, aN, aT, aZ, aS])
        refine h_val 4 (v := _) (by simp only [aG, aH, aI]; rfl) (by kernel_rfl) (by kernel_rfl) (by kernel_rfl) (by exact fun _ _ _ h => h) HS.out (by kernel_rfl) (fun w hs => by (repeat (rename ∀ (_ : Act) (_ : World), _ => hK9; clear hK9)); go_simp; rfl) ?_
        (try simp only [aP, aN, aT, aZ, aS])
        refine h_load 5 (by simp only [aG, aH, aI]; rfl) (by kernel_rfl) (by kernel_rfl) (by kernel_rfl) (by exact fun _ _ _ h => h) HS.out (by kernel_rfl) rfl rfl 7 rfl ((agT _ (by decide)).trans rfl) rfl ?_
        (try simp only [aP, aN, aT, aZ, aS])
        refine h_val 6 (v := _) (by simp only [aG, aH, aI]; rfl) (by kernel_rfl) (by kernel_rfl) (by kernel_rfl) (by exact fun _ _ _ h => h) HS.out (by kernel_rfl) (fun w hs => by (repeat (rename ∀ (_ : Act) (_ : World), _ => hK9; clear hK9)); go_simp; rfl) ?_
        (try simp only [aP, aN, aT, aZ, aS])
        refine h_val 7 (v := _) (by simp only [aG, aH, aI]; rfl) (by kernel_rfl) (by kernel_rfl) (by kernel_rfl) (by exact fun _ _ _ h => h) HS.out (by kernel_rfl) (fun w hs => by (repeat (rename ∀ (_ : Act) (_ : World), _ => hK9; clear hK9)); go_simp; rfl) ?_
        (try simp only [aP, aN, aT, aZ, aS])
        refine h_val 8 (v := _) (by simp only [aG, aH, aI]; rfl) (by kernel_rfl) (by kernel_rfl) (by kernel_rfl) (by exact fun _ _ _ h => h) HS.out (by kernel_rfl) (fun w hs => by (repeat (rename ∀ (_ : Act) (_ : World), _ => hK9; clear hK9)); go_simp; rfl) ?_
        (try simp only [aP, aN, aT, aZ, aS])
        refine h_val 9 (v := _) (by simp only [aG, aH, aI]; rfl) (by kernel_rfl) (by kernel_rfl) (by kernel_rfl) (by exact fun _ _ _ h => h) HS.out (by kernel_rfl) (fun w hs => by (repeat (rename ∀ (_ : Act) (_ : World), _ => hK9; clear hK9)); go_simp; rfl) ?_
        (try simp only [aP, aN, aT, aZ, aS])
        refine h_load 10 (by simp only [aG, aH, aI]; rfl) (by kernel_rfl) (by kernel_rfl) (by kernel_rfl) (by exact fun _ _ _ h => h) HS.out (by kernel_rfl) rfl rfl 7 rfl ((agT _ (by decide)).trans rfl) rfl ?_
        (try simp only [aP, aN, aT, aZ, aS])
        refine h_val 12 (v := _) (by simp only [aG, aH, aI]; rfl) (by kernel_rfl) (by kernel_rfl) (by kernel_rfl) (by exact fun _ _ _ h => h) HS.out (by kernel_rfl) (fun w hs => by (repeat (rename ∀ (_ : Act) (_ : World), _ => hK9; clear hK9)); go_simp; rfl) ?_
        (try simp only [aP, aN, aT, aZ, aS])
        refine h_val 13 (v := _) (by simp only [aG, aH, aI]; rfl) (by kernel_rfl) (by kernel_rfl) (by kernel_rfl) (by exact fun _ _ _ h => h) HS.out (by kernel_rfl) (fun w hs => by (repeat (rename ∀ (_ : Act) (_ : World), _ => hK9; clear hK9)); go_simp; rfl) ?_
        (try simp only [aP, aN, aT, aZ, aS])
        refine h_load 14 (by simp only [aG, aH, aI]; rfl) (by kernel_rfl) (by kernel_rfl) (by kernel_rfl) (by exact fun _ _ _ h => h) HS.out (by kernel_rfl) rfl rfl 7 rfl ((agT _ (by decide)).trans rfl) rfl ?_
        (try simp only [aP, aN, aT, aZ, aS])
        refine h_call 11 (by simp only [aG, aH, aI]; rfl) (by kernel_rfl) (by kernel_rfl) rfl (vs := #[.pointer (some ⟨gD, 0, none⟩), .string nm]) (by kernel_rfl) (fnT _ (by decide)) (loose_any (F := allI [poolI L S, blk gX [.slice (some ad) n c, .int .i64 arm, .bool false] 60, row rfK 65 (.slice (some ad) n c) F SR, G, row strK 9 (.slice (some adN) n cN) nl SN, blk gf [.string nm, .string (b8 jx), .int .i64 (js : Int)] 65, row u8K 5 (.slice A9 jx.length c9) jx S9]) gD gM (.int .i64 left) (.bool armed) (.bool false) m nm _ rfl HLOK.out (SH.pack (is := [_, _]) [_, _, _, _, _, _, _] HS.out)) (fun e w2 hpost => ?_); obtain ⟨rfl, HS9⟩ := hpost; have HS3 := (show SH w0 w2 [_, _, _, _, _, _, _, _, _] from SH.unpack (is := [_, _]) [_, _, _, _, _, _, _] HS9); refine ⟨_, rfl, HS3, ?_⟩; clear HS HS9; have HS := Aside0.mk HS3; clear HS3; rw [HLO.out]
        (try simp only [aP, aN, aT, aZ, aS])
        refine h_call 15 (by simp only [aG, aH, aI]; rfl) (by kernel_rfl) (by kernel_rfl) rfl (vs := #[.pointer (some ⟨gX, 0, none⟩), .string nm]) (by kernel_rfl) (fnT _ (by decide)) (rloose_any (G := allI [blk gD [.map (some gM), .int .i64 left, .bool armed, .bool false] 52, mpF gM m, poolI L S, G, row strK 9 (.slice (some adN) n cN) nl SN, blk gf [.string nm, .string (b8 jx), .int .i64 (js : Int)] 65, row u8K 5 (.slice A9 jx.length c9) jx S9]) gX (some ad) n c _ _ F SR nm hn1 HXR.out.each (SH.pack (is := [_, _]) [_, _, _, _, _, _, _] (HS.out.pick [3, 4, 0, 1, 2, 5, 6, 7, 8] rfl (by decide)))) (fun e w2 hpost => ?_); obtain ⟨rfl, HS9⟩ := hpost; have HS3 := (show SH w0 w2 [_, _, _, _, _, _, _, _, _] from (SH.unpack (is := [_, _]) [_, _, _, _, _, _, _] HS9).pick [2, 3, 4, 0, 1, 5, 6, 7, 8] rfl (by decide)); refine ⟨_, rfl, HS3, ?_⟩; clear HS HS9; have HS := Aside0.mk HS3; clear HS3; rw [HLX.out]
        (try simp only [aP, aN, aT, aZ, aS])
        refine h_val 16 (v := _) (by simp only [aG, aH, aI]; rfl) (by kernel_rfl) (by kernel_rfl) (by kernel_rfl) (by exact fun _ _ _ h => h) HS.out (by kernel_rfl) (fun w hs => by (repeat (rename ∀ (_ : Act) (_ : World), _ => hK9; clear hK9)); go_simp; rfl) ?_
        (try simp only [aP, aN, aT, aZ, aS])
        refine h_val 17 (v := _) (by simp only [aG, aH, aI]; rfl) (by kernel_rfl) (by kernel_rfl) (by kernel_rfl) (by exact fun _ _ _ h => h) HS.out (by kernel_rfl) (fun w hs => by (repeat (rename ∀ (_ : Act) (_ : World), _ => hK9; clear hK9)); go_simp; rfl) ?_
        (try simp only [aP, aN, aT, aZ, aS])
        refine h_val 18 (v := _) (by simp only [aG, aH, aI]; rfl) (by kernel_rfl) (by kernel_rfl) (by kernel_rfl) (by exact fun _ _ _ h => h) HS.out (by kernel_rfl) (fun w hs => by (repeat (rename ∀ (_ : Act) (_ : World), _ => hK9; clear hK9)); go_simp; rfl) ?_
        (try simp only [aP, aN, aT, aZ, aS])
        refine h_val 19 (v := _) (by simp only [aG, aH, aI]; rfl) (by kernel_rfl) (by kernel_rfl) (by kernel_rfl) (by exact fun _ _ _ h => h) HS.out (by kernel_rfl) (fun w hs => by (repeat (rename ∀ (_ : Act) (_ : World), _ => hK9; clear hK9)); go_simp; rfl) ?_
        (try simp only [aP, aN, aT, aZ, aS])
        refine h_val 20 (v := _) (by simp only [aG, aH, aI]; rfl) (by kernel_rfl) (by kernel_rfl) (by kernel_rfl) (by exact fun _ _ _ h => h) HS.out (by kernel_rfl) (fun w hs => by (repeat (rename ∀ (_ : Act) (_ : World), _ => hK9; clear hK9)); go_simp; rfl) ?_
        (try simp only [aP, aN, aT, aZ, aS])
        refine h_val 21 (v := _) (by simp only [aG, aH, aI]; rfl) (by kernel_rfl) (by kernel_rfl) (by kernel_rfl) (by exact fun _ _ _ h => h) HS.out (by kernel_rfl) (fun w hs => by (repeat (rename ∀ (_ : Act) (_ : World), _ => hK9; clear hK9)); go_simp; rfl) ?_
        (try simp only [aP, aN, aT, aZ, aS])
        refine h_load 22 (by simp only [aG, aH, aI]; rfl) (by kernel_rfl) (by kernel_rfl) (by kernel_rfl) (by exact fun _ _ _ h => h) HS.out (by kernel_rfl) rfl rfl 3 rfl ((agT _ (by decide)).trans rfl) rfl ?_
        (try simp only [aP, aN, aT, aZ, aS])
        refine h_val 23 (v := _) (by simp only [aG, aH, aI]; rfl) (by kernel_rfl) (by kernel_rfl) (by kernel_rfl) (by exact fun _ _ _ h => h) HS.out (by kernel_rfl) (fun w hs => by (repeat (rename ∀ (_ : Act) (_ : World), _ => hK9; clear hK9)); go_simp; rfl) ?_
        (try simp only [aP, aN, aT, aZ, aS])
        refine h_val 24 (v := _) (by simp only [aG, aH, aI]; rfl) (by kernel_rfl) (by kernel_rfl) (by kernel_rfl) (by exact fun _ _ _ h => h) HS.out (by kernel_rfl) (fun w hs => by (repeat (rename ∀ (_ : Act) (_ : World), _ => hK9; clear hK9)); go_simp; rfl) ?_
        (try simp only [aP, aN, aT, aZ, aS])
        refine h_val 25 (v := _) (by simp only [aG, aH, aI]; rfl) (by kernel_rfl) (by kernel_rfl) (by kernel_rfl) (by exact fun _ _ _ h => h) HS.out (by kernel_rfl) (fun w hs => by (repeat (rename ∀ (_ : Act) (_ : World), _ => hK9; clear hK9)); go_simp; rfl) ?_
        (try simp only [aP, aN, aT, aZ, aS])
        refine h_val 26 (v := .string (b8 jx)) (by simp only [aG, aH, aI]; rfl) (by kernel_rfl) (by kernel_rfl) (by kernel_rfl) (by exact fun _ _ _ h => h) HS.out (by kernel_rfl) (fun w hs => run_ofB rfl rfl (row_rds (hl := ints_len .u8) (h1 := ints_one .u8) 8 rfl _ hs) Tryd.underlying32 Tryd.underlying5 Tryd.underlying9) ?_
        (try simp only [aP, aN, aT, aZ, aS])
        refine h_val 27 (v := _) (by simp only [aG, aH, aI]; rfl) (by kernel_rfl) (by kernel_rfl) (by kernel_rfl) (by exact fun _ _ _ h => h) HS.out (by kernel_rfl) (fun w hs => by (repeat (rename ∀ (_ : Act) (_ : World), _ => hK9; clear hK9)); go_simp; rfl) ?_
        (try simp only [aP, aN, aT, aZ, aS])
        refine h_load 28 (by simp only [aG, aH, aI]; rfl) (by kernel_rfl) (by kernel_rfl) (by kernel_rfl) (by exact fun _ _ _ h => h) HS.out (by kernel_rfl) rfl rfl 7 rfl ((agT _ (by decide)).trans rfl) rfl ?_
        (try simp only [aP, aN, aT, aZ, aS])
        refine h_val 29 (v := _) (by simp only [aG, aH, aI]; rfl) (by kernel_rfl) (by kernel_rfl) (by kernel_rfl) (by exact fun _ _ _ h => h) HS.out (by kernel_rfl) (fun w hs => by (repeat (rename ∀ (_ : Act) (_ : World), _ => hK9; clear hK9)); go_simp; rfl) ?_
        (try simp only [aP, aN, aT, aZ, aS])
        refine h_val 30 (v := _) (by simp only [aG, aH, aI]; rfl) (by kernel_rfl) (by kernel_rfl) (by kernel_rfl) (by exact fun _ _ _ h => h) HS.out (by kernel_rfl) (fun w hs => by (repeat (rename ∀ (_ : Act) (_ : World), _ => hK9; clear hK9)); go_simp; rfl) ?_
        (try simp only [aP, aN, aT, aZ, aS])
        refine h_val 31 (v := _) (by simp only [aG, aH, aI]; rfl) (by kernel_rfl) (by kernel_rfl) (by kernel_rfl) (by exact fun _ _ _ h => h) HS.out (by kernel_rfl) (fun w hs => by (repeat (rename ∀ (_ : Act) (_ : World), _ => hK9; clear hK9)); go_simp; rfl) ?_
        (try simp only [aP, aN, aT, aZ, aS])
        refine h_val 32 (v := _) (by simp only [aG, aH, aI]; rfl) (by kernel_rfl) (by kernel_rfl) (by kernel_rfl) (by exact fun _ _ _ h => h) HS.out (by kernel_rfl) (fun w hs => by (repeat (rename ∀ (_ : Act) (_ : World), _ => hK9; clear hK9)); go_simp; rfl) ?_
        (try simp only [aP, aN, aT, aZ, aS])
        refine h_val 33 (v := _) (by simp only [aG, aH, aI]; rfl) (by kernel_rfl) (by kernel_rfl) (by kernel_rfl) (by exact fun _ _ _ h => h) HS.out (by kernel_rfl) (fun w hs => by (repeat (rename ∀ (_ : Act) (_ : World), _ => hK9; clear hK9)); go_simp; rfl) ?_
        (try simp only [aP, aN, aT, aZ, aS])
        refine h_val 34 (v := _) (by simp only [aG, aH, aI]; rfl) (by kernel_rfl) (by kernel_rfl) (by kernel_rfl) (by exact fun _ _ _ h => h) HS.out (by kernel_rfl) (fun w hs => by (repeat (rename ∀ (_ : Act) (_ : World), _ => hK9; clear hK9)); go_simp; rfl) ?_
        (try simp only [aP, aN, aT, aZ, aS])
        refine h_val 35 (v := _) (by simp only [aG, aH, aI]; rfl) (by kernel_rfl) (by kernel_rfl) (by kernel_rfl) (by exact fun _ _ _ h => h) HS.out (by kernel_rfl) (fun w hs => by (repeat (rename ∀ (_ : Act) (_ : World), _ => hK9; clear hK9)); go_simp; rfl) ?_
        (try simp only [aP, aN, aT, aZ, aS])
        refine h_val 36 (v := _) (by simp only [aG, aH, aI]; rfl) (by kernel_rfl) (by kernel_rfl) (by kernel_rfl) (by exact fun _ _ _ h => h) HS.out (by kernel_rfl) (fun w hs => by (repeat (rename ∀ (_ : Act) (_ : World), _ => hK9; clear hK9)); go_simp; rfl) ?_
        (try simp only [aP, aN, aT, aZ, aS])
        refine h_val 37 (v := _) (by simp only [aG, aH, aI]; rfl) (by kernel_rfl) (by kernel_rfl) (by kernel_rfl) (by exact fun _ _ _ h => h) HS.out (by kernel_rfl) (fun w hs => by (repeat (rename ∀ (_ : Act) (_ : World), _ => hK9; clear hK9)); go_simp; rfl) ?_
        (try simp only [aP, aN, aT, aZ, aS])
        refine h_val 38 (v := _) (by simp only [aG, aH, aI]; rfl) (by kernel_rfl) (by kernel_rfl) (by kernel_rfl) (by exact fun _ _ _ h => h) HS.out (by kernel_rfl) (fun w hs => by (repeat (rename ∀ (_ : Act) (_ : World), _ => hK9; clear hK9)); go_simp; rfl) ?_
        (try simp only [aP, aN, aT, aZ, aS])
        refine h_val 39 (v := _) (by simp only [aG, aH, aI]; rfl) (by kernel_rfl) (by kernel_rfl) (by kernel_rfl) (by exact fun _ _ _ h => h) HS.out (by kernel_rfl) (fun w hs => by (repeat (rename ∀ (_ : Act) (_ : World), _ => hK9; clear hK9)); go_simp; rfl) ?_
        (try simp only [aP, aN, aT, aZ, aS])
        refine h_load 40 (by simp only [aG, aH, aI]; rfl) (by kernel_rfl) (by kernel_rfl) (by kernel_rfl) (by exact fun _ _ _ h => h) HS.out (by kernel_rfl) rfl rfl 3 rfl ((agT _ (by decide)).trans rfl) rfl ?_
        (try simp only [aP, aN, aT, aZ, aS])
        refine h_val 41 (v := _) (by simp only [aG, aH, aI]; rfl) (by kernel_rfl) (by kernel_rfl) (by kernel_rfl) (by exact fun _ _ _ h => h) HS.out (by kernel_rfl) (fun w hs => by (repeat (rename ∀ (_ : Act) (_ : World), _ => hK9; clear hK9)); go_simp; rfl) ?_
        (try simp only [aP, aN, aT, aZ, aS])
        refine h_skip 42 (by simp only [aG, aH, aI]; rfl) (by kernel_rfl) (by kernel_rfl) (by kernel_rfl) (by exact fun _ _ _ h => h) HS.out (by kernel_rfl) ?_
        (try simp only [aP, aN, aT, aZ, aS])
        refine h_skip 43 (by simp only [aG, aH, aI]; rfl) (by kernel_rfl) (by kernel_rfl) (by kernel_rfl) (by exact fun _ _ _ h => h) HS.out (by kernel_rfl) ?_
        (try simp only [aP, aN, aT, aZ, aS])
        refine h_val 44 (v := _) (by simp only [aG, aH, aI]; rfl) (by kernel_rfl) (by kernel_rfl) (by kernel_rfl) (by exact fun _ _ _ h => h) HS.out (by kernel_rfl) (fun w hs => by (repeat (rename ∀ (_ : Act) (_ : World), _ => hK9; clear hK9)); go_simp; rfl) ?_
        (try simp only [aP, aN, aT, aZ, aS])
        refine h_val 45 (v := _) (by simp only [aG, aH, aI]; rfl) (by kernel_rfl) (by kernel_rfl) (by kernel_rfl) (by exact fun _ _ _ h => h) HS.out (by kernel_rfl) (fun w hs => by (repeat (rename ∀ (_ : Act) (_ : World), _ => hK9; clear hK9)); go_simp; rfl) ?_
        (try simp only [aP, aN, aT, aZ, aS])
        refine wpAnyH_done (by kernel_rfl) ?_ _
        obtain ⟨n9, hn9⟩ : ∃ n9, jx.length = n9 := ⟨_, rfl⟩
        have hn9b : n9 ≤ 9223372036854775807 := by rw [← hn9]; exact (row_rds (hl := ints_len .u8) (h1 := ints_one .u8) 8 rfl _ HS.out).len.2
        rw [hn9] at HS ⊢
        have HN9 := Aside0.mk hn9
        clear hn9
        go_wp2_with (first | ((first | ((first | ((with_reducible refine gA rfl ?_); refine sh_alloc HS.out rfl rfl (zeT _ (by decide)) ?_) | ((with_reducible refine gB rfl ?_); refine bx HS.out rfl rfl ?_; first | refine bv (v := .agg (List.toArray _)) rfl ?_ | refine bv (v := .int _ _) rfl ?_ | refine bv (v := .slice _ _ _) rfl ?_ | refine bv (v := .bool _) rfl ?_ | refine bv (v := .pointer _) rfl ?_ | refine bv (v := .string _) rfl ?_ | refine bv (v := .map _) rfl ?_ | refine bv (v := .func _ _ _) rfl ?_) | ((with_reducible refine gL rfl ?_); refine sh_lit HS.out rfl rfl (by go_simp; exact ⟨⟨rfl, rfl⟩, rfl⟩) ?_)); clear HS; intro g w1 hg HS1; (simp only [RF.enc, zeF, segOf, aL, aC, aE] at HS1); have HS := Aside0.mk HS1; clear HS1) | ((with_reducible refine gLd rfl ?_); refine ld2 HS.out rfl rfl rfl (by repeat (first | exact AtI.here | apply AtI.there)) ?_; (first | refine LdK.one ((agT _ (by decide)).trans rfl) rfl ?_ | (refine LdK.agg ((agT _ (by decide)).trans rfl) (szT _ (by decide)) (lb rfl) ?_; try simp only [szL, aP, aN, aT, aZ, aS, aD, aF, aJ, aK, aM, aO]))) | ((with_reducible refine gSt rfl ?_); refine st2 HS.out rfl rfl rfl rfl (by repeat (first | exact AtI.here | apply AtI.there)) ?_; (first | refine sv (u := .agg (List.toArray _)) rfl ?_ | refine sv (u := .int _ _) rfl ?_ | refine sv (u := .slice _ _ _) rfl ?_ | refine sv (u := .bool _) rfl ?_ | refine sv (u := .pointer _) rfl ?_ | refine sv (u := .string _) rfl ?_ | refine sv (u := .map _) rfl ?_ | refine sv (u := .func _ _ _) rfl ?_); refine sw (szT _ (by decide)) rfl (lb rfl) ?_; clear HS; intro w1 HS1; (simp only [RF.enc, segOf, aL, aZ, aS, putSeg] at HS1); have HS := Aside0.mk HS1; clear HS1)); try simp only [aP, aN, aT, aZ, aS]))
        go_loopw [96] (fun v96 wr => ∃ (j : Nat) (ys : List Int) (SY : Nat → Prop), j ≤ n9 ∧ v96 = .int .i64 j ∧ Aside0 (SH w0 wr [blk gD [.map (some gM), .int .i64 left, .bool armed, .bool false] 52, mpF gM m, poolI L S, blk gX [.slice (some ad) n c, .int .i64 arm, .bool false] 60, row rfK 65 (.slice (some ad) n c) F SR, G, row strK 9 (.slice (some adN) n cN) nl SN, blk gf [.string nm, .string (b8 jx), .int .i64 (js : Int)] 65, row u8K 5 (.slice A9 n9 c9) ys SY])) (fun v96 _ => n9 - (intOf v96).toNat)
        case atStart => exact ⟨0, jx, S9, Nat.zero_le _, rfl, HS⟩
        case round =>
          clear HS
          obtain ⟨j, ys, SY, hj, rfl, HS⟩ := hrel
          by_cases hjl : j < n9
          · have HRY := Aside0.mk (row_rds (hl := ints_len .u8) (h1 := ints_one .u8) 8 rfl _ HS.out)
            obtain ⟨ad9, rfl⟩ := HRY.out.addr (by omega)
            obtain ⟨y, hy⟩ : ∃ y, ys.getD j 0 = y := ⟨_, rfl⟩
            have HY := Aside0.mk hy
            clear hy
            go_wp2_with (first | ((with_reducible refine gLd rfl ?_); refine rd_load1 (enc := Value.int .u8) HRY.out rfl rfl (i := j) rfl hjl 0 ((agT _ (by decide)).trans rfl) ?_; intro x hx; obtain rfl := HY.out.symm.trans hx; (try simp only [aP, aN, aT, aZ, aS])) | ((with_reducible refine gSt rfl ?_); refine sh_storeE (hl := ints_len .u8) (h1 := ints_one .u8) HS.out rfl rfl rfl (i := j) (j := 0) (add1 ad9 j) 8 rfl hjl (by decide) (u := .int .u8 _) rfl rfl (szT _ (by decide)) rfl 0 _ rfl ?_; clear HS; intro w1 S1 HS1; (simp only [aZ, aS] at HS1); have HS := Aside0.mk HS1; clear HS1) | ((first | ((first | ((with_reducible refine gA rfl ?_); refine sh_alloc HS.out rfl rfl (zeT _ (by decide)) ?_) | ((with_reducible refine gB rfl ?_); refine bx HS.out rfl rfl ?_; first | refine bv (v := .agg (List.toArray _)) rfl ?_ | refine bv (v := .int _ _) rfl ?_ | refine bv (v := .slice _ _ _) rfl ?_ | refine bv (v := .bool _) rfl ?_ | refine bv (v := .pointer _) rfl ?_ | refine bv (v := .string _) rfl ?_ | refine bv (v := .map _) rfl ?_ | refine bv (v := .func _ _ _) rfl ?_) | ((with_reducible refine gL rfl ?_); refine sh_lit HS.out rfl rfl (by go_simp; exact ⟨⟨rfl, rfl⟩, rfl⟩) ?_)); clear HS; intro g w1 hg HS1; (simp only [RF.enc, zeF, segOf, aL, aC, aE] at HS1); have HS := Aside0.mk HS1; clear HS1) | ((with_reducible refine gLd rfl ?_); refine ld2 HS.out rfl rfl rfl (by repeat (first | exact AtI.here | apply AtI.there)) ?_; (first | refine LdK.one ((agT _ (by decide)).trans rfl) rfl ?_ | (refine LdK.agg ((agT _ (by decide)).trans rfl) (szT _ (by decide)) (lb rfl) ?_; try simp only [szL, aP, aN, aT, aZ, aS, aD, aF, aJ, aK, aM, aO]))) | ((with_reducible refine gSt rfl ?_); refine st2 HS.out rfl rfl rfl rfl (by repeat (first | exact AtI.here | apply AtI.there)) ?_; (first | refine sv (u := .agg (List.toArray _)) rfl ?_ | refine sv (u := .int _ _) rfl ?_ | refine sv (u := .slice _ _ _) rfl ?_ | refine sv (u := .bool _) rfl ?_ | refine sv (u := .pointer _) rfl ?_ | refine sv (u := .string _) rfl ?_ | refine sv (u := .map _) rfl ?_ | refine sv (u := .func _ _ _) rfl ?_); refine sw (szT _ (by decide)) rfl (lb rfl) ?_; clear HS; intro w1 HS1; (simp only [RF.enc, segOf, aL, aZ, aS, putSeg] at HS1); have HS := Aside0.mk HS1; clear HS1)); try simp only [aP, aN, aT, aZ, aS]))
            go_roundw
            case rel => exact ⟨j + 1, _, _, by omega, by go_num, HS⟩
            case measure => simp [intOf]; omega
          · go_wp2_with (first | ((first | ((first | ((with_reducible refine gA rfl ?_); refine sh_alloc HS.out rfl rfl (zeT _ (by decide)) ?_) | ((with_reducible refine gB rfl ?_); refine bx HS.out rfl rfl ?_; first | refine bv (v := .agg (List.toArray _)) rfl ?_ | refine bv (v := .int _ _) rfl ?_ | refine bv (v := .slice _ _ _) rfl ?_ | refine bv (v := .bool _) rfl ?_ | refine bv (v := .pointer _) rfl ?_ | refine bv (v := .string _) rfl ?_ | refine bv (v := .map _) rfl ?_ | refine bv (v := .func _ _ _) rfl ?_) | ((with_reducible refine gL rfl ?_); refine sh_lit HS.out rfl rfl (by go_simp; exact ⟨⟨rfl, rfl⟩, rfl⟩) ?_)); clear HS; intro g w1 hg HS1; (simp only [RF.enc, zeF, segOf, aL, aC, aE] at HS1); have HS := Aside0.mk HS1; clear HS1) | ((with_reducible refine gLd rfl ?_); refine ld2 HS.out rfl rfl rfl (by repeat (first | exact AtI.here | apply AtI.there)) ?_; (first | refine LdK.one ((agT _ (by decide)).trans rfl) rfl ?_ | (refine LdK.agg ((agT _ (by decide)).trans rfl) (szT _ (by decide)) (lb rfl) ?_; try simp only [szL, aP, aN, aT, aZ, aS, aD, aF, aJ, aK, aM, aO]))) | ((with_reducible refine gSt rfl ?_); refine st2 HS.out rfl rfl rfl rfl (by repeat (first | exact AtI.here | apply AtI.there)) ?_; (first | refine sv (u := .agg (List.toArray _)) rfl ?_ | refine sv (u := .int _ _) rfl ?_ | refine sv (u := .slice _ _ _) rfl ?_ | refine sv (u := .bool _) rfl ?_ | refine sv (u := .pointer _) rfl ?_ | refine sv (u := .string _) rfl ?_ | refine sv (u := .map _) rfl ?_ | refine sv (u := .func _ _ _) rfl ?_); refine sw (szT _ (by decide)) rfl (lb rfl) ?_; clear HS; intro w1 HS1; (simp only [RF.enc, segOf, aL, aZ, aS, putSeg] at HS1); have HS := Aside0.mk HS1; clear HS1)); try simp only [aP, aN, aT, aZ, aS]))
            go_roundw
            case rel => exact ⟨k + 1, by omega, by go_num, ⟨HS.out.pick [0, 1, 2, 3, 4, 5, 6] rfl (by decide)⟩⟩
            case measure => simp [intOf]; omega
      · go_wp2_with (first | ((first | ((first | ((with_reducible refine gA rfl ?_); refine sh_alloc HS.out rfl rfl (zeT _ (by decide)) ?_) | ((with_reducible refine gB rfl ?_); refine bx HS.out rfl rfl ?_; first | refine bv (v := .agg (List.toArray _)) rfl ?_ | refine bv (v := .int _ _) rfl ?_ | refine bv (v := .slice _ _ _) rfl ?_ | refine bv (v := .bool _) rfl ?_ | refine bv (v := .pointer _) rfl ?_ | refine bv (v := .string _) rfl ?_ | refine bv (v := .map _) rfl ?_ | refine bv (v := .func _ _ _) rfl ?_) | ((with_reducible refine gL rfl ?_); refine sh_lit HS.out rfl rfl (by go_simp; exact ⟨⟨rfl, rfl⟩, rfl⟩) ?_)); clear HS; intro g w1 hg HS1; (simp only [RF.enc, zeF, segOf, aL, aC, aE] at HS1); have HS := Aside0.mk HS1; clear HS1) | ((with_reducible refine gLd rfl ?_); refine ld2 HS.out rfl rfl rfl (by repeat (first | exact AtI.here | apply AtI.there)) ?_; (first | refine LdK.one ((agT _ (by decide)).trans rfl) rfl ?_ | (refine LdK.agg ((agT _ (by decide)).trans rfl) (szT _ (by decide)) (lb rfl) ?_; try simp only [szL, aP, aN, aT, aZ, aS, aD, aF, aJ, aK, aM, aO]))) | ((with_reducible refine gSt rfl ?_); refine st2 HS.out rfl rfl rfl rfl (by repeat (first | exact AtI.here | apply AtI.there)) ?_; (first | refine sv (u := .agg (List.toArray _)) rfl ?_ | refine sv (u := .int _ _) rfl ?_ | refine sv (u := .slice _ _ _) rfl ?_ | refine sv (u := .bool _) rfl ?_ | refine sv (u := .pointer _) rfl ?_ | refine sv (u := .string _) rfl ?_ | refine sv (u := .map _) rfl ?_ | refine sv (u := .func _ _ _) rfl ?_); refine sw (szT _ (by decide)) rfl (lb rfl) ?_; clear HS; intro w1 HS1; (simp only [RF.enc, segOf, aL, aZ, aS, putSeg] at HS1); have HS := Aside0.mk HS1; clear HS1)); try simp only [aP, aN, aT, aZ, aS]))
        go_loopw [109] (fun v109 wr => ∃ (j : Nat) (nz : List ByteArray) (SZ : Nat → Prop), j ≤ n ∧ v109 = .int .i64 j ∧ Aside0 (SH w0 wr [blk gD [.map (some gM), .int .i64 left, .bool armed, .bool false] 52, mpF gM m, poolI L S, blk gX [.slice A n c, .int .i64 arm, .bool false] 60, row rfK 65 (.slice A n c) F SR, G, row strK 9 (.slice AN n cN) nz SZ])) (fun v109 _ => n - (intOf v109).toNat)
        case atStart => exact ⟨0, nl, SN, Nat.zero_le _, rfl, HS⟩
        case round =>
          clear HS
          obtain ⟨j, nz, SZ, hj, rfl, HS⟩ := hrel
          by_cases hjl : j < n
          · obtain ⟨adN, rfl⟩ : ∃ adN, AN = some adN := (row_rds (hl := strs_len) (h1 := strs_one) 6 rfl _ HS.out).addr (by omega)
            go_wp2_with (first | ((with_reducible refine gSt rfl ?_); refine sh_storeE (hl := strs_len) (h1 := strs_one) HS.out rfl rfl rfl (i := j) (j := 0) (add1 adN j) 6 rfl hjl (by decide) (u := .string _) rfl rfl (szT _ (by decide)) rfl (⟨#[]⟩ : ByteArray) _ rfl ?_; clear HS; intro w1 S1 HS1; (simp only [aZ, aS] at HS1); have HS := Aside0.mk HS1; clear HS1) | ((first | ((first | ((with_reducible refine gA rfl ?_); refine sh_alloc HS.out rfl rfl (zeT _ (by decide)) ?_) | ((with_reducible refine gB rfl ?_); refine bx HS.out rfl rfl ?_; first | refine bv (v := .agg (List.toArray _)) rfl ?_ | refine bv (v := .int _ _) rfl ?_ | refine bv (v := .slice _ _ _) rfl ?_ | refine bv (v := .bool _) rfl ?_ | refine bv (v := .pointer _) rfl ?_ | refine bv (v := .string _) rfl ?_ | refine bv (v := .map _) rfl ?_ | refine bv (v := .func _ _ _) rfl ?_) | ((with_reducible refine gL rfl ?_); refine sh_lit HS.out rfl rfl (by go_simp; exact ⟨⟨rfl, rfl⟩, rfl⟩) ?_)); clear HS; intro g w1 hg HS1; (simp only [RF.enc, zeF, segOf, aL, aC, aE] at HS1); have HS := Aside0.mk HS1; clear HS1) | ((with_reducible refine gLd rfl ?_); refine ld2 HS.out rfl rfl rfl (by repeat (first | exact AtI.here | apply AtI.there)) ?_; (first | refine LdK.one ((agT _ (by decide)).trans rfl) rfl ?_ | (refine LdK.agg ((agT _ (by decide)).trans rfl) (szT _ (by decide)) (lb rfl) ?_; try simp only [szL, aP, aN, aT, aZ, aS, aD, aF, aJ, aK, aM, aO]))) | ((with_reducible refine gSt rfl ?_); refine st2 HS.out rfl rfl rfl rfl (by repeat (first | exact AtI.here | apply AtI.there)) ?_; (first | refine sv (u := .agg (List.toArray _)) rfl ?_ | refine sv (u := .int _ _) rfl ?_ | refine sv (u := .slice _ _ _) rfl ?_ | refine sv (u := .bool _) rfl ?_ | refine sv (u := .pointer _) rfl ?_ | refine sv (u := .string _) rfl ?_ | refine sv (u := .map _) rfl ?_ | refine sv (u := .func _ _ _) rfl ?_); refine sw (szT _ (by decide)) rfl (lb rfl) ?_; clear HS; intro w1 HS1; (simp only [RF.enc, segOf, aL, aZ, aS, putSeg] at HS1); have HS := Aside0.mk HS1; clear HS1)); try simp only [aP, aN, aT, aZ, aS]))
            go_roundw
            case rel => exact ⟨j + 1, _, _, by omega, by go_num, HS⟩
            case measure => simp [intOf]; omega
          · go_wp2_with (first | ((first | ((first | ((with_reducible refine gA rfl ?_); refine sh_alloc HS.out rfl rfl (zeT _ (by decide)) ?_) | ((with_reducible refine gB rfl ?_); refine bx HS.out rfl rfl ?_; first | refine bv (v := .agg (List.toArray _)) rfl ?_ | refine bv (v := .int _ _) rfl ?_ | refine bv (v := .slice _ _ _) rfl ?_ | refine bv (v := .bool _) rfl ?_ | refine bv (v := .pointer _) rfl ?_ | refine bv (v := .string _) rfl ?_ | refine bv (v := .map _) rfl ?_ | refine bv (v := .func _ _ _) rfl ?_) | ((with_reducible refine gL rfl ?_); refine sh_lit HS.out rfl rfl (by go_simp; exact ⟨⟨rfl, rfl⟩, rfl⟩) ?_)); clear HS; intro g w1 hg HS1; (simp only [RF.enc, zeF, segOf, aL, aC, aE] at HS1); have HS := Aside0.mk HS1; clear HS1) | ((with_reducible refine gLd rfl ?_); refine ld2 HS.out rfl rfl rfl (by repeat (first | exact AtI.here | apply AtI.there)) ?_; (first | refine LdK.one ((agT _ (by decide)).trans rfl) rfl ?_ | (refine LdK.agg ((agT _ (by decide)).trans rfl) (szT _ (by decide)) (lb rfl) ?_; try simp only [szL, aP, aN, aT, aZ, aS, aD, aF, aJ, aK, aM, aO]))) | ((with_reducible refine gSt rfl ?_); refine st2 HS.out rfl rfl rfl rfl (by repeat (first | exact AtI.here | apply AtI.there)) ?_; (first | refine sv (u := .agg (List.toArray _)) rfl ?_ | refine sv (u := .int _ _) rfl ?_ | refine sv (u := .slice _ _ _) rfl ?_ | refine sv (u := .bool _) rfl ?_ | refine sv (u := .pointer _) rfl ?_ | refine sv (u := .string _) rfl ?_ | refine sv (u := .map _) rfl ?_ | refine sv (u := .func _ _ _) rfl ?_); refine sw (szT _ (by decide)) rfl (lb rfl) ?_; clear HS; intro w1 HS1; (simp only [RF.enc, segOf, aL, aZ, aS, putSeg] at HS1); have HS := Aside0.mk HS1; clear HS1)); try simp only [aP, aN, aT, aZ, aS]))
            go_ret
            exact ⟨rfl, by rw [HM.out]; exact HS.out.pick [0, 1, 2, 3, 4, 5] rfl (by decide)⟩
  · go_enter Tryd.func13, Tryd.ntmps13
    go_upto_region 2 with (first | (go_at_call 14; (have HC := names_any (F := allI [poolI L S, blk gX [.slice A n c, .int .i64 arm, .bool true] 60, row rfK 65 (.slice A n c) F SR, G]) gD gM (.int .i64 left) (.bool armed) (.bool true) m HD.out.keys (SH.pack (is := [_, _]) [_, _, _, _] HS.out)); (with_reducible refine HC.mono ?_); clear HC; rintro e w2 ⟨v, SN, rfl, HS9⟩; (rw [HNL.out] at HS9); clear HS; have HS := Aside0.mk (show SH w0 w2 [_, _, _, _, _, _, _] from (SH.unpack (is := [_, _, _]) [_, _, _, _] (HS9.pick [0, 1, 3, 2] rfl (by decide))).pick [0, 1, 3, 4, 5, 6, 2] rfl (by decide)); clear HS9; obtain ⟨AN, cN, rfl, hcN, _⟩ := row_rd HS.out 6 rfl; (rw [HNN.out] at HS hcN ⊢)) | ((first | ((first | ((with_reducible refine gA rfl ?_); refine sh_alloc HS.out rfl rfl (zeT _ (by decide)) ?_) | ((with_reducible refine gB rfl ?_); refine bx HS.out rfl rfl ?_; first | refine bv (v := .agg (List.toArray _)) rfl ?_ | refine bv (v := .int _ _) rfl ?_ | refine bv (v := .slice _ _ _) rfl ?_ | refine bv (v := .bool _) rfl ?_ | refine bv (v := .pointer _) rfl ?_ | refine bv (v := .string _) rfl ?_ | refine bv (v := .map _) rfl ?_ | refine bv (v := .func _ _ _) rfl ?_) | ((with_reducible refine gL rfl ?_); refine sh_lit HS.out rfl rfl (by go_simp; exact ⟨⟨rfl, rfl⟩, rfl⟩) ?_)); clear HS; intro g w1 hg HS1; (simp only [RF.enc, zeF, segOf, aL, aC, aE] at HS1); have HS := Aside0.mk HS1; clear HS1) | ((with_reducible refine gLd rfl ?_); refine ld2 HS.out rfl rfl rfl (by repeat (first | exact AtI.here | apply AtI.there)) ?_; (first | refine LdK.one ((agT _ (by decide)).trans rfl) rfl ?_ | (refine LdK.agg ((agT _ (by decide)).trans rfl) (szT _ (by decide)) (lb rfl) ?_; try simp only [szL, aP, aN, aT, aZ, aS, aD, aF, aJ, aK, aM, aO]))) | ((with_reducible refine gSt rfl ?_); refine st2 HS.out rfl rfl rfl rfl (by repeat (first | exact AtI.here | apply AtI.there)) ?_; (first | refine sv (u := .agg (List.toArray _)) rfl ?_ | refine sv (u := .int _ _) rfl ?_ | refine sv (u := .slice _ _ _) rfl ?_ | refine sv (u := .bool _) rfl ?_ | refine sv (u := .pointer _) rfl ?_ | refine sv (u := .string _) rfl ?_ | refine sv (u := .map _) rfl ?_ | refine sv (u := .func _ _ _) rfl ?_); refine sw (szT _ (by decide)) rfl (lb rfl) ?_; clear HS; intro w1 HS1; (simp only [RF.enc, segOf, aL, aZ, aS, putSeg] at HS1); have HS := Aside0.mk HS1; clear HS1)); try simp only [aP, aN, aT, aZ, aS]))
    refine held_start mixed HS.out (fun HS1 => ?_)
    clear HS
    have HS := Aside0.mk HS1
    clear HS1
    refine h_val 0 (v := _) (by simp only [aG, aH, aI]; rfl) (by kernel_rfl) (by kernel_rfl) (by kernel_rfl) (by exact fun _ _ _ h => h) HS.out (by kernel_rfl) (fun w hs => by (repeat (rename ∀ (_ : Act) (_ : World), _ => hK9; clear hK9)); go_simp; rfl) ?_
    (try simp only [aP, aN, aT, aZ, aS])
    refine h_val 1 (v := _) (by simp only [aG, aH, aI]; rfl) (by kernel_rfl) (by kernel_rfl) (by kernel_rfl) (by exact fun _ _ _ h => h) HS.out (by kernel_rfl) (fun w hs => by (repeat (rename ∀ (_ : Act) (_ : World), _ => hK9; clear hK9)); go_simp; rfl) ?_
    (try simp only [aP, aN, aT, aZ, aS])
    refine h_val 2 (v := _) (by simp only [aG, aH, aI]; rfl) (by kernel_rfl) (by kernel_rfl) (by kernel_rfl) (by exact fun _ _ _ h => h) HS.out (by kernel_rfl) (fun w hs => by (repeat (rename ∀ (_ : Act) (_ : World), _ => hK9; clear hK9)); go_simp; rfl) ?_
    (try simp only [aP, aN, aT, aZ, aS])
    refine h_val 3 (v := _) (by simp only [aG, aH, aI]; rfl) (by kernel_rfl) (by kernel_rfl) (by kernel_rfl) (by exact fun _ _ _ h => h) HS.out (by kernel_rfl) (fun w hs => by (repeat (rename ∀ (_ : Act) (_ : World), _ => hK9; clear hK9)); go_simp; rfl) ?_
    (try simp only [aP, aN, aT, aZ, aS])
    refine h_val 4 (v := _) (by simp only [aG, aH, aI]; rfl) (by kernel_rfl) (by kernel_rfl) (by kernel_rfl) (by exact fun _ _ _ h => h) HS.out (by kernel_rfl) (fun w hs => by (repeat (rename ∀ (_ : Act) (_ : World), _ => hK9; clear hK9)); go_simp; rfl) ?_
    (try simp only [aP, aN, aT, aZ, aS])
    refine h_load 5 (by simp only [aG, aH, aI]; rfl) (by kernel_rfl) (by kernel_rfl) (by kernel_rfl) (by exact fun _ _ _ h => h) HS.out (by kernel_rfl) rfl rfl 3 rfl ((agT _ (by decide)).trans rfl) rfl ?_
    (try simp only [aP, aN, aT, aZ, aS])
    refine h_val 6 (v := _) (by simp only [aG, aH, aI]; rfl) (by kernel_rfl) (by kernel_rfl) (by kernel_rfl) (by exact fun _ _ _ h => h) HS.out (by kernel_rfl) (fun w hs => by (repeat (rename ∀ (_ : Act) (_ : World), _ => hK9; clear hK9)); go_simp; rfl) ?_
    (try simp only [aP, aN, aT, aZ, aS])
    refine h_val 7 (v := _) (by simp only [aG, aH, aI]; rfl) (by kernel_rfl) (by kernel_rfl) (by kernel_rfl) (by exact fun _ _ _ h => h) HS.out (by kernel_rfl) (fun w hs => by (repeat (rename ∀ (_ : Act) (_ : World), _ => hK9; clear hK9)); go_simp; rfl) ?_
    (try simp only [aP, aN, aT, aZ, aS])
    refine h_val 8 (v := _) (by simp only [aG, aH, aI]; rfl) (by kernel_rfl) (by kernel_rfl) (by kernel_rfl) (by exact fun _ _ _ h => h) HS.out (by kernel_rfl) (fun w hs => by (repeat (rename ∀ (_ : Act) (_ : World), _ => hK9; clear hK9)); go_simp; rfl) ?_
    (try simp only [aP, aN, aT, aZ, aS])
    refine h_val 9 (v := _) (by simp only [aG, aH, aI]; rfl) (by kernel_rfl) (by kernel_rfl) (by kernel_rfl) (by exact fun _ _ _ h => h) HS.out (by kernel_rfl) (fun w hs => by (repeat (rename ∀ (_ : Act) (_ : World), _ => hK9; clear hK9)); go_simp; rfl) ?_
    (try simp only [aP, aN, aT, aZ, aS])
    refine h_val 11 (v := _) (by simp only [aG, aH, aI]; rfl) (by kernel_rfl) (by kernel_rfl) (by kernel_rfl) (by exact fun _ _ _ h => h) HS.out (by kernel_rfl) (fun w hs => by (repeat (rename ∀ (_ : Act) (_ : World), _ => hK9; clear hK9)); go_simp; rfl) ?_
    (try simp only [aP, aN, aT, aZ, aS])
    refine h_val 12 (v := _) (by simp only [aG, aH, aI]; rfl) (by kernel_rfl) (by kernel_rfl) (by kernel_rfl) (by exact fun _ _ _ h => h) HS.out (by kernel_rfl) (fun w hs => by (repeat (rename ∀ (_ : Act) (_ : World), _ => hK9; clear hK9)); go_simp; rfl) ?_
    (try simp only [aP, aN, aT, aZ, aS])
    refine h_val 13 (v := _) (by simp only [aG, aH, aI]; rfl) (by kernel_rfl) (by kernel_rfl) (by kernel_rfl) (by exact fun _ _ _ h => h) HS.out (by kernel_rfl) (fun w hs => by (repeat (rename ∀ (_ : Act) (_ : World), _ => hK9; clear hK9)); go_simp; rfl) ?_
    (try simp only [aP, aN, aT, aZ, aS])
    refine h_load 14 (by simp only [aG, aH, aI]; rfl) (by kernel_rfl) (by kernel_rfl) (by kernel_rfl) (by exact fun _ _ _ h => h) HS.out (by kernel_rfl) rfl rfl 3 rfl ((agT _ (by decide)).trans rfl) rfl ?_
    (try simp only [aP, aN, aT, aZ, aS])
    refine h_call 10 (by simp only [aG, aH, aI]; rfl) (by kernel_rfl) (by kernel_rfl) rfl (vs := #[.pointer (some ⟨gD, 0, none⟩)]) (by kernel_rfl) (fnT _ (by decide)) (on_any (F := allI [mpF gM m, poolI L S, blk gX [.slice A n c, .int .i64 arm, .bool true] 60, row rfK 65 (.slice A n c) F SR, G, row strK 9 (.slice AN n cN) nl SN]) gD _ _ _ true (SH.pack (is := [_]) [_, _, _, _, _, _] HS.out)) (fun e w2 hpost => ?_); obtain ⟨rfl, HS9⟩ := hpost; have HS3 := (show SH w0 w2 [_, _, _, _, _, _, _] from SH.unpack (is := [_]) [_, _, _, _, _, _] HS9); refine ⟨_, rfl, HS3, ?_⟩; clear HS HS9; have HS := Aside0.mk HS3; clear HS3; simp only [Bool.not_false, Bool.not_true]
    (try simp only [aP, aN, aT, aZ, aS])
    refine h_val 15 (v := _) (by simp only [aG, aH, aI]; rfl) (by kernel_rfl) (by kernel_rfl) (by kernel_rfl) (by exact fun _ _ _ h => h) HS.out (by kernel_rfl) (fun w hs => by (repeat (rename ∀ (_ : Act) (_ : World), _ => hK9; clear hK9)); go_simp; rfl) ?_
    (try simp only [aP, aN, aT, aZ, aS])
    refine h_val 16 (v := _) (by simp only [aG, aH, aI]; rfl) (by kernel_rfl) (by kernel_rfl) (by kernel_rfl) (by exact fun _ _ _ h => h) HS.out (by kernel_rfl) (fun w hs => by (repeat (rename ∀ (_ : Act) (_ : World), _ => hK9; clear hK9)); go_simp; rfl) ?_
    (try simp only [aP, aN, aT, aZ, aS])
    refine wpAnyH_done (by kernel_rfl) ?_ _
    go_wp2_with (first | ((first | ((first | ((with_reducible refine gA rfl ?_); refine sh_alloc HS.out rfl rfl (zeT _ (by decide)) ?_) | ((with_reducible refine gB rfl ?_); refine bx HS.out rfl rfl ?_; first | refine bv (v := .agg (List.toArray _)) rfl ?_ | refine bv (v := .int _ _) rfl ?_ | refine bv (v := .slice _ _ _) rfl ?_ | refine bv (v := .bool _) rfl ?_ | refine bv (v := .pointer _) rfl ?_ | refine bv (v := .string _) rfl ?_ | refine bv (v := .map _) rfl ?_ | refine bv (v := .func _ _ _) rfl ?_) | ((with_reducible refine gL rfl ?_); refine sh_lit HS.out rfl rfl (by go_simp; exact ⟨⟨rfl, rfl⟩, rfl⟩) ?_)); clear HS; intro g w1 hg HS1; (simp only [RF.enc, zeF, segOf, aL, aC, aE] at HS1); have HS := Aside0.mk HS1; clear HS1) | ((with_reducible refine gLd rfl ?_); refine ld2 HS.out rfl rfl rfl (by repeat (first | exact AtI.here | apply AtI.there)) ?_; (first | refine LdK.one ((agT _ (by decide)).trans rfl) rfl ?_ | (refine LdK.agg ((agT _ (by decide)).trans rfl) (szT _ (by decide)) (lb rfl) ?_; try simp only [szL, aP, aN, aT, aZ, aS, aD, aF, aJ, aK, aM, aO]))) | ((with_reducible refine gSt rfl ?_); refine st2 HS.out rfl rfl rfl rfl (by repeat (first | exact AtI.here | apply AtI.there)) ?_; (first | refine sv (u := .agg (List.toArray _)) rfl ?_ | refine sv (u := .int _ _) rfl ?_ | refine sv (u := .slice _ _ _) rfl ?_ | refine sv (u := .bool _) rfl ?_ | refine sv (u := .pointer _) rfl ?_ | refine sv (u := .string _) rfl ?_ | refine sv (u := .map _) rfl ?_ | refine sv (u := .func _ _ _) rfl ?_); refine sw (szT _ (by decide)) rfl (lb rfl) ?_; clear HS; intro w1 HS1; (simp only [RF.enc, segOf, aL, aZ, aS, putSeg] at HS1); have HS := Aside0.mk HS1; clear HS1)); try simp only [aP, aN, aT, aZ, aS]))
    go_loopw [36] (fun v36 wr => ∃ k : Nat, k ≤ n ∧ v36 = .int .i64 k ∧ Aside0 (SH w0 wr [blk gD [.map (some gM), .int .i64 left, .bool armed, .bool true] 52, mpF gM m, poolI L S, blk gX [.slice A n c, .int .i64 arm, .bool true] 60, row rfK 65 (.slice A n c) F SR, G, row strK 9 (.slice AN n cN) nl SN])) (fun v36 _ => n - (intOf v36).toNat)
    case atStart => exact ⟨0, Nat.zero_le _, rfl, HS⟩
    case round =>
      clear HS
      obtain ⟨k, hk, rfl, HS⟩ := hrel
      by_cases hlt : k < n
      · have HR := Aside0.mk (row_rds (hl := RF.len) (h1 := RF.one) 4 rfl _ HS.out)
        obtain ⟨ad, rfl⟩ := HR.out.addr (by omega)
        obtain ⟨adN, rfl⟩ : ∃ adN, AN = some adN := (row_rds (hl := strs_len) (h1 := strs_one) 6 rfl _ HS.out).addr (by omega)
        obtain ⟨f, hf⟩ : ∃ f, F.getD k default = f := ⟨_, rfl⟩
        have hfm : f ∈ F := by
          rw [← hf, List.getD_eq_getElem?_getD, List.getElem?_eq_getElem (by rw [HM.out]; exact hlt), Option.getD_some]
          exact List.getElem_mem _
        obtain ⟨g, hg, hfe⟩ := HSIM.out.fwd f hfm
        have hnk : nl.getD k ⟨#[]⟩ = f.name := by
          rw [HNF.out, ← hf, List.getD_eq_getElem?_getD, List.getElem?_map, List.getD_eq_getElem?_getD, List.getElem?_eq_getElem (by rw [HM.out]; exact hlt)]
          rfl
        obtain ⟨nm, hnm⟩ : ∃ nm, f.name = nm := ⟨_, rfl⟩
        rw [hnm] at hg hfe hnk
        obtain ⟨jA, jc, jx, js⟩ := g
        have hfe2 : f = ⟨nm, b8 jx, (js : Int)⟩ := hfe
        subst hfe2
        have HX := Aside0.mk hf
        have HG := Aside0.mk hg
        have HNK := Aside0.mk hnk
        have HFE := Aside0.mk (show findE true (mget m nm) = 7 by rw [hg]; rfl)
        obtain ⟨xs9, hx9⟩ : ∃ xs9, (findF true (mget m nm)).xs = xs9 := ⟨_, rfl⟩
        have HXS := Aside0.mk hx9
        obtain ⟨lo, hlo⟩ : ∃ lo, looseOf (mget m nm) = lo := ⟨_, rfl⟩
        have HLO := Aside0.mk hlo
        have HLX := Aside0.mk (show rlooseI F nm = lo by rw [← HSIM.out.loose, hlo])
        clear hf hg hfm hfe hnk hnm hx9 hlo
        go_upto_region 8 with (first | (go_at_call 15; (have HC := read_any (F := allI [blk gX [.slice (some ad) n c, .int .i64 arm, .bool true] 60, row rfK 65 (.slice (some ad) n c) F SR, G, row strK 9 (.slice (some adN) n cN) nl SN, blk gf [.string nm, .string (b8 jx), .int .i64 (js : Int)] 65]) gD gM left armed true m L S nm _ rfl HRO.out (SH.pack (is := [_, _, _]) [_, _, _, _, _] HS.out)); (with_reducible refine HC.mono ?_); clear HC; rintro e w2 ⟨v9, S9, rfl, HS9⟩; (rw [HXS.out] at HS9); (rw [HFE.out]); clear HS; have HS := Aside0.mk (show SH w0 w2 [_, _, _, _, _, _, _, _, _] from (SH.unpack (is := [_, _, _, _]) [_, _, _, _, _] (HS9.pick [0, 1, 2, 4, 3] rfl (by decide))).pick [0, 1, 2, 4, 5, 6, 7, 8, 3] rfl (by decide)); clear HS9; obtain ⟨A9, c9, rfl, hc9, _⟩ := row_rd HS.out 8 rfl) | ((with_reducible refine gLd rfl ?_); refine rd_load HR.out rfl rfl (i := k) rfl hlt default RF.len ((agT _ (by decide)).trans rfl) (szT _ (by decide)) ?_; intro x hx; obtain rfl := HX.out.symm.trans hx; (try simp only [RF.enc, aP, aN, aT, aZ, aS])) | ((fail_if_success (have _ := gf)); ((with_reducible refine gA rfl ?_); refine sh_alloc HS.out rfl rfl (zeT _ (by decide)) ?_; clear HS; intro gf w1 hgf HS1; (simp only [RF.enc, zeF, segOf, aL, aC, aE] at HS1); have HS := Aside0.mk HS1; clear HS1; try simp only [aP, aN, aT, aZ, aS])) | ((first | ((first | ((with_reducible refine gA rfl ?_); refine sh_alloc HS.out rfl rfl (zeT _ (by decide)) ?_) | ((with_reducible refine gB rfl ?_); refine bx HS.out rfl rfl ?_; first | refine bv (v := .agg (List.toArray _)) rfl ?_ | refine bv (v := .int _ _) rfl ?_ | refine bv (v := .slice _ _ _) rfl ?_ | refine bv (v := .bool _) rfl ?_ | refine bv (v := .pointer _) rfl ?_ | refine bv (v := .string _) rfl ?_ | refine bv (v := .map _) rfl ?_ | refine bv (v := .func _ _ _) rfl ?_) | ((with_reducible refine gL rfl ?_); refine sh_lit HS.out rfl rfl (by go_simp; exact ⟨⟨rfl, rfl⟩, rfl⟩) ?_)); clear HS; intro g w1 hg HS1; (simp only [RF.enc, zeF, segOf, aL, aC, aE] at HS1); have HS := Aside0.mk HS1; clear HS1) | ((with_reducible refine gLd rfl ?_); refine ld2 HS.out rfl rfl rfl (by repeat (first | exact AtI.here | apply AtI.there)) ?_; (first | refine LdK.one ((agT _ (by decide)).trans rfl) rfl ?_ | (refine LdK.agg ((agT _ (by decide)).trans rfl) (szT _ (by decide)) (lb rfl) ?_; try simp only [szL, aP, aN, aT, aZ, aS, aD, aF, aJ, aK, aM, aO]))) | ((with_reducible refine gSt rfl ?_); refine st2 HS.out rfl rfl rfl rfl (by repeat (first | exact AtI.here | apply AtI.there)) ?_; (first | refine sv (u := .agg (List.toArray _)) rfl ?_ | refine sv (u := .int _ _) rfl ?_ | refine sv (u := .slice _ _ _) rfl ?_ | refine sv (u := .bool _) rfl ?_ | refine sv (u := .pointer _) rfl ?_ | refine sv (u := .string _) rfl ?_ | refine sv (u := .map _) rfl ?_ | refine sv (u := .func _ _ _) rfl ?_); refine sw (szT _ (by decide)) rfl (lb rfl) ?_; clear HS; intro w1 HS1; (simp only [RF.enc, segOf, aL, aZ, aS, putSeg] at HS1); have HS := Aside0.mk HS1; clear HS1)); try simp only [aP, aN, aT, aZ, aS]))
        refine held_start mixed HS.out (fun HS1 => ?_)
        clear HS
        have HS := Aside0.mk HS1
        clear HS1
        refine h_val 0 (v := _) (by simp only [aG, aH, aI]; rfl) (by kernel_rfl) (by kernel_rfl) (by kernel_rfl) (by exact fun _ _ _ h => h) HS.out (by kernel_rfl) (fun w hs => by (repeat (rename ∀ (_ : Act) (_ : World), _ => hK9; clear hK9)); go_simp; rfl) ?_
        (try simp only [aP, aN, aT, aZ, aS])
        refine h_val 1 (v := _) (by simp only [aG, aH, aI]; rfl) (by kernel_rfl) (by kernel_rfl) (by kernel_rfl) (by exact fun _ _ _ h => h) HS.out (by kernel_rfl) (fun w hs => by (repeat (rename ∀ (_ : Act) (_ : World), _ => hK9; clear hK9)); go_simp; rfl) ?_
        (try simp only [aP, aN, aT, aZ, aS])
        refine h_val 2 (v := _) (by simp only [aG, aH, aI]; rfl) (by kernel_rfl) (by kernel_rfl) (by kernel_rfl) (by exact fun _ _ _ h => h) HS.out (by kernel_rfl) (fun w hs => by (repeat (rename ∀ (_ : Act) (_ : World), _ => hK9; clear hK9)); go_simp; rfl) ?_
        (try simp only [aP, aN, aT, aZ, aS])
        refine h_rdf 3 (by simp only [aG, aH, aI]; rfl) (by kernel_rfl) (by kernel_rfl) (by kernel_rfl) (fun e => Value.string e) (⟨#[]⟩ : ByteArray) (by exact fun _ _ _ h => h) HS.out (by kernel_rfl) (row_rds (hl := strs_len) (h1 := strs_one) 6 rfl) rfl 0 (by exact add1 adN k) hlt ((agT _ (by decide)).trans rfl) (fun _ => rfl) ?_; (rw [HNK.out])
        (try simp only [aP, aN, aT, aZ, aS])
        refine h_val 4 (v := _) (by simp only [aG, aH, aI]; rfl) (by kernel_rfl) (by kernel_rfl) (by kernel_rfl) (by exact fun _ _ _ h => h) HS.out (by kernel_rfl) (fun w hs => by (repeat (rename ∀ (_ : Act) (_ : World), _ => hK9; clear hK9)); go_simp; rfl) ?_
        (try simp only [aP, aN, aT, aZ, aS])
        refine h_load 5 (by simp only [aG, aH, aI]; rfl) (by kernel_rfl) (by kernel_rfl) (by kernel_rfl) (by exact fun _ _ _ h => h) HS.out (by kernel_rfl) rfl rfl 7 rfl ((agT _ (by decide)).trans rfl) rfl ?_
        (try simp only [aP, aN, aT, aZ, aS])
        refine h_val 6 (v := _) (by simp only [aG, aH, aI]; rfl) (by kernel_rfl) (by kernel_rfl) (by kernel_rfl) (by exact fun _ _ _ h => h) HS.out (by kernel_rfl) (fun w hs => by (repeat (rename ∀ (_ : Act) (_ : World), _ => hK9; clear hK9)); go_simp; rfl) ?_
        (try simp only [aP, aN, aT, aZ, aS])
        refine h_val 7 (v := _) (by simp only [aG, aH, aI]; rfl) (by kernel_rfl) (by kernel_rfl) (by kernel_rfl) (by exact fun _ _ _ h => h) HS.out (by kernel_rfl) (fun w hs => by (repeat (rename ∀ (_ : Act) (_ : World), _ => hK9; clear hK9)); go_simp; rfl) ?_
        (try simp only [aP, aN, aT, aZ, aS])
        refine h_val 8 (v := _) (by simp only [aG, aH, aI]; rfl) (by kernel_rfl) (by kernel_rfl) (by kernel_rfl) (by exact fun _ _ _ h => h) HS.out (by kernel_rfl) (fun w hs => by (repeat (rename ∀ (_ : Act) (_ : World), _ => hK9; clear hK9)); go_simp; rfl) ?_
        (try simp only [aP, aN, aT, aZ, aS])
        refine h_val 9 (v := _) (by simp only [aG, aH, aI]; rfl) (by kernel_rfl) (by kernel_rfl) (by kernel_rfl) (by exact fun _ _ _ h => h) HS.out (by kernel_rfl) (fun w hs => by (repeat (rename ∀ (_ : Act) (_ : World), _ => hK9; clear hK9)); go_simp; rfl) ?_
        (try simp only [aP, aN, aT, aZ, aS])
        refine h_load 10 (by simp only [aG, aH, aI]; rfl) (by kernel_rfl) (by kernel_rfl) (by kernel_rfl) (by exact fun _ _ _ h => h) HS.out (by kernel_rfl) rfl rfl 7 rfl ((agT _ (by decide)).trans rfl) rfl ?_
        (try simp only [aP, aN, aT, aZ, aS])
        refine h_val 12 (v := _) (by simp only [aG, aH, aI]; rfl) (by kernel_rfl) (by kernel_rfl) (by kernel_rfl) (by exact fun _ _ _ h => h) HS.out (by kernel_rfl) (fun w hs => by (repeat (rename ∀ (_ : Act) (_ : World), _ => hK9; clear hK9)); go_simp; rfl) ?_
        (try simp only [aP, aN, aT, aZ, aS])
        refine h_val 13 (v := _) (by simp only [aG, aH, aI]; rfl) (by kernel_rfl) (by kernel_rfl) (by kernel_rfl) (by exact fun _ _ _ h => h) HS.out (by kernel_rfl) (fun w hs => by (repeat (rename ∀ (_ : Act) (_ : World), _ => hK9; clear hK9)); go_simp; rfl) ?_
        (try simp only [aP, aN, aT, aZ, aS])
        refine h_load 14 (by simp only [aG, aH, aI]; rfl) (by kernel_rfl) (by kernel_rfl) (by kernel_rfl) (by exact fun _ _ _ h => h) HS.out (by kernel_rfl) rfl rfl 7 rfl ((agT _ (by decide)).trans rfl) rfl ?_
        (try simp only [aP, aN, aT, aZ, aS])
        refine h_call 11 (by simp only [aG, aH, aI]; rfl) (by kernel_rfl) (by kernel_rfl) rfl (vs := #[.pointer (some ⟨gD, 0, none⟩), .string nm]) (by kernel_rfl) (fnT _ (by decide)) (loose_any (F := allI [poolI L S, blk gX [.slice (some ad) n c, .int .i64 arm, .bool true] 60, row rfK 65 (.slice (some ad) n c) F SR, G, row strK 9 (.slice (some adN) n cN) nl SN, blk gf [.string nm, .string (b8 jx), .int .i64 (js : Int)] 65, row u8K 5 (.slice A9 xs9.length c9) xs9 S9]) gD gM (.int .i64 left) (.bool armed) (.bool true) m nm _ rfl HLOK.out (SH.pack (is := [_, _]) [_, _, _, _, _, _, _] HS.out)) (fun e w2 hpost => ?_); obtain ⟨rfl, HS9⟩ := hpost; have HS3 := (show SH w0 w2 [_, _, _, _, _, _, _, _, _] from SH.unpack (is := [_, _]) [_, _, _, _, _, _, _] HS9); refine ⟨_, rfl, HS3, ?_⟩; clear HS HS9; have HS := Aside0.mk HS3; clear HS3; rw [HLO.out]
        (try simp only [aP, aN, aT, aZ, aS])
        refine h_call 15 (by simp only [aG, aH, aI]; rfl) (by kernel_rfl) (by kernel_rfl) rfl (vs := #[.pointer (some ⟨gX, 0, none⟩), .string nm]) (by kernel_rfl) (fnT _ (by decide)) (rloose_any (G := allI [blk gD [.map (some gM), .int .i64 left, .bool armed, .bool true] 52, mpF gM m, poolI L S, G, row strK 9 (.slice (some adN) n cN) nl SN, blk gf [.string nm, .string (b8 jx), .int .i64 (js : Int)] 65, row u8K 5 (.slice A9 xs9.length c9) xs9 S9]) gX (some ad) n c _ _ F SR nm hn1 HXR.out.each (SH.pack (is := [_, _]) [_, _, _, _, _, _, _] (HS.out.pick [3, 4, 0, 1, 2, 5, 6, 7, 8] rfl (by decide)))) (fun e w2 hpost => ?_); obtain ⟨rfl, HS9⟩ := hpost; have HS3 := (show SH w0 w2 [_, _, _, _, _, _, _, _, _] from (SH.unpack (is := [_, _]) [_, _, _, _, _, _, _] HS9).pick [2, 3, 4, 0, 1, 5, 6, 7, 8] rfl (by decide)); refine ⟨_, rfl, HS3, ?_⟩; clear HS HS9; have HS := Aside0.mk HS3; clear HS3; rw [HLX.out]
        (try simp only [aP, aN, aT, aZ, aS])
        refine h_val 16 (v := _) (by simp only [aG, aH, aI]; rfl) (by kernel_rfl) (by kernel_rfl) (by kernel_rfl) (by exact fun _ _ _ h => h) HS.out (by kernel_rfl) (fun w hs => by (repeat (rename ∀ (_ : Act) (_ : World), _ => hK9; clear hK9)); go_simp; rfl) ?_
        (try simp only [aP, aN, aT, aZ, aS])
        refine h_val 17 (v := _) (by simp only [aG, aH, aI]; rfl) (by kernel_rfl) (by kernel_rfl) (by kernel_rfl) (by exact fun _ _ _ h => h) HS.out (by kernel_rfl) (fun w hs => by (repeat (rename ∀ (_ : Act) (_ : World), _ => hK9; clear hK9)); go_simp; rfl) ?_
        (try simp only [aP, aN, aT, aZ, aS])
        refine h_val 18 (v := _) (by simp only [aG, aH, aI]; rfl) (by kernel_rfl) (by kernel_rfl) (by kernel_rfl) (by exact fun _ _ _ h => h) HS.out (by kernel_rfl) (fun w hs => by (repeat (rename ∀ (_ : Act) (_ : World), _ => hK9; clear hK9)); go_simp; rfl) ?_
        (try simp only [aP, aN, aT, aZ, aS])
        refine h_val 19 (v := _) (by simp only [aG, aH, aI]; rfl) (by kernel_rfl) (by kernel_rfl) (by kernel_rfl) (by exact fun _ _ _ h => h) HS.out (by kernel_rfl) (fun w hs => by (repeat (rename ∀ (_ : Act) (_ : World), _ => hK9; clear hK9)); go_simp; rfl) ?_
        (try simp only [aP, aN, aT, aZ, aS])
        refine h_val 20 (v := _) (by simp only [aG, aH, aI]; rfl) (by kernel_rfl) (by kernel_rfl) (by kernel_rfl) (by exact fun _ _ _ h => h) HS.out (by kernel_rfl) (fun w hs => by (repeat (rename ∀ (_ : Act) (_ : World), _ => hK9; clear hK9)); go_simp; rfl) ?_
        (try simp only [aP, aN, aT, aZ, aS])
        refine h_val 21 (v := _) (by simp only [aG, aH, aI]; rfl) (by kernel_rfl) (by kernel_rfl) (by kernel_rfl) (by exact fun _ _ _ h => h) HS.out (by kernel_rfl) (fun w hs => by (repeat (rename ∀ (_ : Act) (_ : World), _ => hK9; clear hK9)); go_simp; rfl) ?_
        (try simp only [aP, aN, aT, aZ, aS])
        refine h_load 22 (by simp only [aG, aH, aI]; rfl) (by kernel_rfl) (by kernel_rfl) (by kernel_rfl) (by exact fun _ _ _ h => h) HS.out (by kernel_rfl) rfl rfl 3 rfl ((agT _ (by decide)).trans rfl) rfl ?_
        (try simp only [aP, aN, aT, aZ, aS])
        refine h_val 23 (v := _) (by simp only [aG, aH, aI]; rfl) (by kernel_rfl) (by kernel_rfl) (by kernel_rfl) (by exact fun _ _ _ h => h) HS.out (by kernel_rfl) (fun w hs => by (repeat (rename ∀ (_ : Act) (_ : World), _ => hK9; clear hK9)); go_simp; rfl) ?_
        (try simp only [aP, aN, aT, aZ, aS])
        refine h_val 24 (v := _) (by simp only [aG, aH, aI]; rfl) (by kernel_rfl) (by kernel_rfl) (by kernel_rfl) (by exact fun _ _ _ h => h) HS.out (by kernel_rfl) (fun w hs => by (repeat (rename ∀ (_ : Act) (_ : World), _ => hK9; clear hK9)); go_simp; rfl) ?_
        (try simp only [aP, aN, aT, aZ, aS])
        refine h_skip 25 (by simp only [aG, aH, aI]; rfl) (by kernel_rfl) (by kernel_rfl) (by kernel_rfl) (by exact fun _ _ _ h => h) HS.out (by kernel_rfl) ?_
        (try simp only [aP, aN, aT, aZ, aS])
        refine h_skip 26 (by simp only [aG, aH, aI]; rfl) (by kernel_rfl) (by kernel_rfl) (by kernel_rfl) (by exact fun _ _ _ h => h) HS.out (by kernel_rfl) ?_
        (try simp only [aP, aN, aT, aZ, aS])
        refine h_skip 27 (by simp only [aG, aH, aI]; rfl) (by kernel_rfl) (by kernel_rfl) (by kernel_rfl) (by exact fun _ _ _ h => h) HS.out (by kernel_rfl) ?_
        (try simp only [aP, aN, aT, aZ, aS])
        refine h_skip 28 (by simp only [aG, aH, aI]; rfl) (by kernel_rfl) (by kernel_rfl) (by kernel_rfl) (by exact fun _ _ _ h => h) HS.out (by kernel_rfl) ?_
        (try simp only [aP, aN, aT, aZ, aS])
        refine h_skip 29 (by simp only [aG, aH, aI]; rfl) (by kernel_rfl) (by kernel_rfl) (by kernel_rfl) (by exact fun _ _ _ h => h) HS.out (by kernel_rfl) ?_
        (try simp only [aP, aN, aT, aZ, aS])
        refine h_skip 30 (by simp only [aG, aH, aI]; rfl) (by kernel_rfl) (by kernel_rfl) (by kernel_rfl) (by exact fun _ _ _ h => h) HS.out (by kernel_rfl) ?_
        (try simp only [aP, aN, aT, aZ, aS])
        refine h_skip 31 (by simp only [aG, aH, aI]; rfl) (by kernel_rfl) (by kernel_rfl) (by kernel_rfl) (by exact fun _ _ _ h => h) HS.out (by kernel_rfl) ?_
        (try simp only [aP, aN, aT, aZ, aS])
        refine h_skip 32 (by simp only [aG, aH, aI]; rfl) (by kernel_rfl) (by kernel_rfl) (by kernel_rfl) (by exact fun _ _ _ h => h) HS.out (by kernel_rfl) ?_
        (try simp only [aP, aN, aT, aZ, aS])
        refine h_skip 33 (by simp only [aG, aH, aI]; rfl) (by kernel_rfl) (by kernel_rfl) (by kernel_rfl) (by exact fun _ _ _ h => h) HS.out (by kernel_rfl) ?_
        (try simp only [aP, aN, aT, aZ, aS])
        refine h_val 34 (v := _) (by simp only [aG, aH, aI]; rfl) (by kernel_rfl) (by kernel_rfl) (by kernel_rfl) (by exact fun _ _ _ h => h) HS.out (by kernel_rfl) (fun w hs => by (repeat (rename ∀ (_ : Act) (_ : World), _ => hK9; clear hK9)); go_simp; rfl) ?_
        (try simp only [aP, aN, aT, aZ, aS])
        refine h_val 35 (v := _) (by simp only [aG, aH, aI]; rfl) (by kernel_rfl) (by kernel_rfl) (by kernel_rfl) (by exact fun _ _ _ h => h) HS.out (by kernel_rfl) (fun w hs => by (repeat (rename ∀ (_ : Act) (_ : World), _ => hK9; clear hK9)); go_simp; rfl) ?_
        (try simp only [aP, aN, aT, aZ, aS])
        refine h_val 36 (v := _) (by simp only [aG, aH, aI]; rfl) (by kernel_rfl) (by kernel_rfl) (by kernel_rfl) (by exact fun _ _ _ h => h) HS.out (by kernel_rfl) (fun w hs => by (repeat (rename ∀ (_ : Act) (_ : World), _ => hK9; clear hK9)); go_simp; rfl) ?_
        (try simp only [aP, aN, aT, aZ, aS])
        refine h_val 37 (v := _) (by simp only [aG, aH, aI]; rfl) (by kernel_rfl) (by kernel_rfl) (by kernel_rfl) (by exact fun _ _ _ h => h) HS.out (by kernel_rfl) (fun w hs => by (repeat (rename ∀ (_ : Act) (_ : World), _ => hK9; clear hK9)); go_simp; rfl) ?_
        (try simp only [aP, aN, aT, aZ, aS])
        refine h_val 38 (v := _) (by simp only [aG, aH, aI]; rfl) (by kernel_rfl) (by kernel_rfl) (by kernel_rfl) (by exact fun _ _ _ h => h) HS.out (by kernel_rfl) (fun w hs => by (repeat (rename ∀ (_ : Act) (_ : World), _ => hK9; clear hK9)); go_simp; rfl) ?_
        (try simp only [aP, aN, aT, aZ, aS])
        refine h_val 39 (v := _) (by simp only [aG, aH, aI]; rfl) (by kernel_rfl) (by kernel_rfl) (by kernel_rfl) (by exact fun _ _ _ h => h) HS.out (by kernel_rfl) (fun w hs => by (repeat (rename ∀ (_ : Act) (_ : World), _ => hK9; clear hK9)); go_simp; rfl) ?_
        (try simp only [aP, aN, aT, aZ, aS])
        refine h_load 40 (by simp only [aG, aH, aI]; rfl) (by kernel_rfl) (by kernel_rfl) (by kernel_rfl) (by exact fun _ _ _ h => h) HS.out (by kernel_rfl) rfl rfl 3 rfl ((agT _ (by decide)).trans rfl) rfl ?_
        (try simp only [aP, aN, aT, aZ, aS])
        refine h_val 41 (v := _) (by simp only [aG, aH, aI]; rfl) (by kernel_rfl) (by kernel_rfl) (by kernel_rfl) (by exact fun _ _ _ h => h) HS.out (by kernel_rfl) (fun w hs => by (repeat (rename ∀ (_ : Act) (_ : World), _ => hK9; clear hK9)); go_simp; rfl) ?_
        (try simp only [aP, aN, aT, aZ, aS])
        refine h_val 42 (v := _) (by simp only [aG, aH, aI]; rfl) (by kernel_rfl) (by kernel_rfl) (by kernel_rfl) (by exact fun _ _ _ h => h) HS.out (by kernel_rfl) (fun w hs => by (repeat (rename ∀ (_ : Act) (_ : World), _ => hK9; clear hK9)); go_simp; rfl) ?_
        (try simp only [aP, aN, aT, aZ, aS])
        refine h_val 43 (v := _) (by simp only [aG, aH, aI]; rfl) (by kernel_rfl) (by kernel_rfl) (by kernel_rfl) (by exact fun _ _ _ h => h) HS.out (by kernel_rfl) (fun w hs => by (repeat (rename ∀ (_ : Act) (_ : World), _ => hK9; clear hK9)); go_simp; rfl) ?_
        (try simp only [aP, aN, aT, aZ, aS])
        refine h_val 44 (v := _) (by simp only [aG, aH, aI]; rfl) (by kernel_rfl) (by kernel_rfl) (by kernel_rfl) (by exact fun _ _ _ h => h) HS.out (by kernel_rfl) (fun w hs => by (repeat (rename ∀ (_ : Act) (_ : World), _ => hK9; clear hK9)); go_simp; rfl) ?_
        (try simp only [aP, aN, aT, aZ, aS])
        refine h_val 45 (v := _) (by simp only [aG, aH, aI]; rfl) (by kernel_rfl) (by kernel_rfl) (by kernel_rfl) (by exact fun _ _ _ h => h) HS.out (by kernel_rfl) (fun w hs => by (repeat (rename ∀ (_ : Act) (_ : World), _ => hK9; clear hK9)); go_simp; rfl) ?_
        (try simp only [aP, aN, aT, aZ, aS])
        refine wpAnyH_done (by kernel_rfl) ?_ _
        obtain ⟨n9, hn9⟩ : ∃ n9, xs9.length = n9 := ⟨_, rfl⟩
        have hn9b : n9 ≤ 9223372036854775807 := by rw [← hn9]; exact (row_rds (hl := ints_len .u8) (h1 := ints_one .u8) 8 rfl _ HS.out).len.2
        rw [hn9] at HS ⊢
        have HN9 := Aside0.mk hn9
        clear hn9
        go_wp2_with (first | ((first | ((first | ((with_reducible refine gA rfl ?_); refine sh_alloc HS.out rfl rfl (zeT _ (by decide)) ?_) | ((with_reducible refine gB rfl ?_); refine bx HS.out rfl rfl ?_; first | refine bv (v := .agg (List.toArray _)) rfl ?_ | refine bv (v := .int _ _) rfl ?_ | refine bv (v := .slice _ _ _) rfl ?_ | refine bv (v := .bool _) rfl ?_ | refine bv (v := .pointer _) rfl ?_ | refine bv (v := .string _) rfl ?_ | refine bv (v := .map _) rfl ?_ | refine bv (v := .func _ _ _) rfl ?_) | ((with_reducible refine gL rfl ?_); refine sh_lit HS.out rfl rfl (by go_simp; exact ⟨⟨rfl, rfl⟩, rfl⟩) ?_)); clear HS; intro g w1 hg HS1; (simp only [RF.enc, zeF, segOf, aL, aC, aE] at HS1); have HS := Aside0.mk HS1; clear HS1) | ((with_reducible refine gLd rfl ?_); refine ld2 HS.out rfl rfl rfl (by repeat (first | exact AtI.here | apply AtI.there)) ?_; (first | refine LdK.one ((agT _ (by decide)).trans rfl) rfl ?_ | (refine LdK.agg ((agT _ (by decide)).trans rfl) (szT _ (by decide)) (lb rfl) ?_; try simp only [szL, aP, aN, aT, aZ, aS, aD, aF, aJ, aK, aM, aO]))) | ((with_reducible refine gSt rfl ?_); refine st2 HS.out rfl rfl rfl rfl (by repeat (first | exact AtI.here | apply AtI.there)) ?_; (first | refine sv (u := .agg (List.toArray _)) rfl ?_ | refine sv (u := .int _ _) rfl ?_ | refine sv (u := .slice _ _ _) rfl ?_ | refine sv (u := .bool _) rfl ?_ | refine sv (u := .pointer _) rfl ?_ | refine sv (u := .string _) rfl ?_ | refine sv (u := .map _) rfl ?_ | refine sv (u := .func _ _ _) rfl ?_); refine sw (szT _ (by decide)) rfl (lb rfl) ?_; clear HS; intro w1 HS1; (simp only [RF.enc, segOf, aL, aZ, aS, putSeg] at HS1); have HS := Aside0.mk HS1; clear HS1)); try simp only [aP, aN, aT, aZ, aS]))
        go_loopw [96] (fun v96 wr => ∃ (j : Nat) (ys : List Int) (SY : Nat → Prop), j ≤ n9 ∧ v96 = .int .i64 j ∧ Aside0 (SH w0 wr [blk gD [.map (some gM), .int .i64 left, .bool armed, .bool true] 52, mpF gM m, poolI L S, blk gX [.slice (some ad) n c, .int .i64 arm, .bool true] 60, row rfK 65 (.slice (some ad) n c) F SR, G, row strK 9 (.slice (some adN) n cN) nl SN, blk gf [.string nm, .string (b8 jx), .int .i64 (js : Int)] 65, row u8K 5 (.slice A9 n9 c9) ys SY])) (fun v96 _ => n9 - (intOf v96).toNat)
        case atStart => exact ⟨0, xs9, S9, Nat.zero_le _, rfl, HS⟩
        case round =>
          clear HS
          obtain ⟨j, ys, SY, hj, rfl, HS⟩ := hrel
          by_cases hjl : j < n9
          · have HRY := Aside0.mk (row_rds (hl := ints_len .u8) (h1 := ints_one .u8) 8 rfl _ HS.out)
            obtain ⟨ad9, rfl⟩ := HRY.out.addr (by omega)
            obtain ⟨y, hy⟩ : ∃ y, ys.getD j 0 = y := ⟨_, rfl⟩
            have HY := Aside0.mk hy
            clear hy
            go_wp2_with (first | ((with_reducible refine gLd rfl ?_); refine rd_load1 (enc := Value.int .u8) HRY.out rfl rfl (i := j) rfl hjl 0 ((agT _ (by decide)).trans rfl) ?_; intro x hx; obtain rfl := HY.out.symm.trans hx; (try simp only [aP, aN, aT, aZ, aS])) | ((with_reducible refine gSt rfl ?_); refine sh_storeE (hl := ints_len .u8) (h1 := ints_one .u8) HS.out rfl rfl rfl (i := j) (j := 0) (add1 ad9 j) 8 rfl hjl (by decide) (u := .int .u8 _) rfl rfl (szT _ (by decide)) rfl 0 _ rfl ?_; clear HS; intro w1 S1 HS1; (simp only [aZ, aS] at HS1); have HS := Aside0.mk HS1; clear HS1) | ((first | ((first | ((with_reducible refine gA rfl ?_); refine sh_alloc HS.out rfl rfl (zeT _ (by decide)) ?_) | ((with_reducible refine gB rfl ?_); refine bx HS.out rfl rfl ?_; first | refine bv (v := .agg (List.toArray _)) rfl ?_ | refine bv (v := .int _ _) rfl ?_ | refine bv (v := .slice _ _ _) rfl ?_ | refine bv (v := .bool _) rfl ?_ | refine bv (v := .pointer _) rfl ?_ | refine bv (v := .string _) rfl ?_ | refine bv (v := .map _) rfl ?_ | refine bv (v := .func _ _ _) rfl ?_) | ((with_reducible refine gL rfl ?_); refine sh_lit HS.out rfl rfl (by go_simp; exact ⟨⟨rfl, rfl⟩, rfl⟩) ?_)); clear HS; intro g w1 hg HS1; (simp only [RF.enc, zeF, segOf, aL, aC, aE] at HS1); have HS := Aside0.mk HS1; clear HS1) | ((with_reducible refine gLd rfl ?_); refine ld2 HS.out rfl rfl rfl (by repeat (first | exact AtI.here | apply AtI.there)) ?_; (first | refine LdK.one ((agT _ (by decide)).trans rfl) rfl ?_ | (refine LdK.agg ((agT _ (by decide)).trans rfl) (szT _ (by decide)) (lb rfl) ?_; try simp only [szL, aP, aN, aT, aZ, aS, aD, aF, aJ, aK, aM, aO]))) | ((with_reducible refine gSt rfl ?_); refine st2 HS.out rfl rfl rfl rfl (by repeat (first | exact AtI.here | apply AtI.there)) ?_; (first | refine sv (u := .agg (List.toArray _)) rfl ?_ | refine sv (u := .int _ _) rfl ?_ | refine sv (u := .slice _ _ _) rfl ?_ | refine sv (u := .bool _) rfl ?_ | refine sv (u := .pointer _) rfl ?_ | refine sv (u := .string _) rfl ?_ | refine sv (u := .map _) rfl ?_ | refine sv (u := .func _ _ _) rfl ?_); refine sw (szT _ (by decide)) rfl (lb rfl) ?_; clear HS; intro w1 HS1; (simp only [RF.enc, segOf, aL, aZ, aS, putSeg] at HS1); have HS := Aside0.mk HS1; clear HS1)); try simp only [aP, aN, aT, aZ, aS]))
            go_roundw
            case rel => exact ⟨j + 1, _, _, by omega, by go_num, HS⟩
            case measure => simp [intOf]; omega
          · go_wp2_with (first | ((first | ((first | ((with_reducible refine gA rfl ?_); refine sh_alloc HS.out rfl rfl (zeT _ (by decide)) ?_) | ((with_reducible refine gB rfl ?_); refine bx HS.out rfl rfl ?_; first | refine bv (v := .agg (List.toArray _)) rfl ?_ | refine bv (v := .int _ _) rfl ?_ | refine bv (v := .slice _ _ _) rfl ?_ | refine bv (v := .bool _) rfl ?_ | refine bv (v := .pointer _) rfl ?_ | refine bv (v := .string _) rfl ?_ | refine bv (v := .map _) rfl ?_ | refine bv (v := .func _ _ _) rfl ?_) | ((with_reducible refine gL rfl ?_); refine sh_lit HS.out rfl rfl (by go_simp; exact ⟨⟨rfl, rfl⟩, rfl⟩) ?_)); clear HS; intro g w1 hg HS1; (simp only [RF.enc, zeF, segOf, aL, aC, aE] at HS1); have HS := Aside0.mk HS1; clear HS1) | ((with_reducible refine gLd rfl ?_); refine ld2 HS.out rfl rfl rfl (by repeat (first | exact AtI.here | apply AtI.there)) ?_; (first | refine LdK.one ((agT _ (by decide)).trans rfl) rfl ?_ | (refine LdK.agg ((agT _ (by decide)).trans rfl) (szT _ (by decide)) (lb rfl) ?_; try simp only [szL, aP, aN, aT, aZ, aS, aD, aF, aJ, aK, aM, aO]))) | ((with_reducible refine gSt rfl ?_); refine st2 HS.out rfl rfl rfl rfl (by repeat (first | exact AtI.here | apply AtI.there)) ?_; (first | refine sv (u := .agg (List.toArray _)) rfl ?_ | refine sv (u := .int _ _) rfl ?_ | refine sv (u := .slice _ _ _) rfl ?_ | refine sv (u := .bool _) rfl ?_ | refine sv (u := .pointer _) rfl ?_ | refine sv (u := .string _) rfl ?_ | refine sv (u := .map _) rfl ?_ | refine sv (u := .func _ _ _) rfl ?_); refine sw (szT _ (by decide)) rfl (lb rfl) ?_; clear HS; intro w1 HS1; (simp only [RF.enc, segOf, aL, aZ, aS, putSeg] at HS1); have HS := Aside0.mk HS1; clear HS1)); try simp only [aP, aN, aT, aZ, aS]))
            go_roundw
            case rel => exact ⟨k + 1, by omega, by go_num, ⟨HS.out.pick [0, 1, 2, 3, 4, 5, 6] rfl (by decide)⟩⟩
            case measure => simp [intOf]; omega
      · go_wp2_with (first | ((first | ((first | ((with_reducible refine gA rfl ?_); refine sh_alloc HS.out rfl rfl (zeT _ (by decide)) ?_) | ((with_reducible refine gB rfl ?_); refine bx HS.out rfl rfl ?_; first | refine bv (v := .agg (List.toArray _)) rfl ?_ | refine bv (v := .int _ _) rfl ?_ | refine bv (v := .slice _ _ _) rfl ?_ | refine bv (v := .bool _) rfl ?_ | refine bv (v := .pointer _) rfl ?_ | refine bv (v := .string _) rfl ?_ | refine bv (v := .map _) rfl ?_ | refine bv (v := .func _ _ _) rfl ?_) | ((with_reducible refine gL rfl ?_); refine sh_lit HS.out rfl rfl (by go_simp; exact ⟨⟨rfl, rfl⟩, rfl⟩) ?_)); clear HS; intro g w1 hg HS1; (simp only [RF.enc, zeF, segOf, aL, aC, aE] at HS1); have HS := Aside0.mk HS1; clear HS1) | ((with_reducible refine gLd rfl ?_); refine ld2 HS.out rfl rfl rfl (by repeat (first | exact AtI.here | apply AtI.there)) ?_; (first | refine LdK.one ((agT _ (by decide)).trans rfl) rfl ?_ | (refine LdK.agg ((agT _ (by decide)).trans rfl) (szT _ (by decide)) (lb rfl) ?_; try simp only [szL, aP, aN, aT, aZ, aS, aD, aF, aJ, aK, aM, aO]))) | ((with_reducible refine gSt rfl ?_); refine st2 HS.out rfl rfl rfl rfl (by repeat (first | exact AtI.here | apply AtI.there)) ?_; (first | refine sv (u := .agg (List.toArray _)) rfl ?_ | refine sv (u := .int _ _) rfl ?_ | refine sv (u := .slice _ _ _) rfl ?_ | refine sv (u := .bool _) rfl ?_ | refine sv (u := .pointer _) rfl ?_ | refine sv (u := .string _) rfl ?_ | refine sv (u := .map _) rfl ?_ | refine sv (u := .func _ _ _) rfl ?_); refine sw (szT _ (by decide)) rfl (lb rfl) ?_; clear HS; intro w1 HS1; (simp only [RF.enc, segOf, aL, aZ, aS, putSeg] at HS1); have HS := Aside0.mk HS1; clear HS1)); try simp only [aP, aN, aT, aZ, aS]))
        go_loopw [109] (fun v109 wr => ∃ (j : Nat) (nz : List ByteArray) (SZ : Nat → Prop), j ≤ n ∧ v109 = .int .i64 j ∧ Aside0 (SH w0 wr [blk gD [.map (some gM), .int .i64 left, .bool armed, .bool true] 52, mpF gM m, poolI L S, blk gX [.slice A n c, .int .i64 arm, .bool true] 60, row rfK 65 (.slice A n c) F SR, G, row strK 9 (.slice AN n cN) nz SZ])) (fun v109 _ => n - (intOf v109).toNat)
        case atStart => exact ⟨0, nl, SN, Nat.zero_le _, rfl, HS⟩
        case round =>
          clear HS
          obtain ⟨j, nz, SZ, hj, rfl, HS⟩ := hrel
          by_cases hjl : j < n
          · obtain ⟨adN, rfl⟩ : ∃ adN, AN = some adN := (row_rds (hl := strs_len) (h1 := strs_one) 6 rfl _ HS.out).addr (by omega)
            go_wp2_with (first | ((with_reducible refine gSt rfl ?_); refine sh_storeE (hl := strs_len) (h1 := strs_one) HS.out rfl rfl rfl (i := j) (j := 0) (add1 adN j) 6 rfl hjl (by decide) (u := .string _) rfl rfl (szT _ (by decide)) rfl (⟨#[]⟩ : ByteArray) _ rfl ?_; clear HS; intro w1 S1 HS1; (simp only [aZ, aS] at HS1); have HS := Aside0.mk HS1; clear HS1) | ((first | ((first | ((with_reducible refine gA rfl ?_); refine sh_alloc HS.out rfl rfl (zeT _ (by decide)) ?_) | ((with_reducible refine gB rfl ?_); refine bx HS.out rfl rfl ?_; first | refine bv (v := .agg (List.toArray _)) rfl ?_ | refine bv (v := .int _ _) rfl ?_ | refine bv (v := .slice _ _ _) rfl ?_ | refine bv (v := .bool _) rfl ?_ | refine bv (v := .pointer _) rfl ?_ | refine bv (v := .string _) rfl ?_ | refine bv (v := .map _) rfl ?_ | refine bv (v := .func _ _ _) rfl ?_) | ((with_reducible refine gL rfl ?_); refine sh_lit HS.out rfl rfl (by go_simp; exact ⟨⟨rfl, rfl⟩, rfl⟩) ?_)); clear HS; intro g w1 hg HS1; (simp only [RF.enc, zeF, segOf, aL, aC, aE] at HS1); have HS := Aside0.mk HS1; clear HS1) | ((with_reducible refine gLd rfl ?_); refine ld2 HS.out rfl rfl rfl (by repeat (first | exact AtI.here | apply AtI.there)) ?_; (first | refine LdK.one ((agT _ (by decide)).trans rfl) rfl ?_ | (refine LdK.agg ((agT _ (by decide)).trans rfl) (szT _ (by decide)) (lb rfl) ?_; try simp only [szL, aP, aN, aT, aZ, aS, aD, aF, aJ, aK, aM, aO]))) | ((with_reducible refine gSt rfl ?_); refine st2 HS.out rfl rfl rfl rfl (by repeat (first | exact AtI.here | apply AtI.there)) ?_; (first | refine sv (u := .agg (List.toArray _)) rfl ?_ | refine sv (u := .int _ _) rfl ?_ | refine sv (u := .slice _ _ _) rfl ?_ | refine sv (u := .bool _) rfl ?_ | refine sv (u := .pointer _) rfl ?_ | refine sv (u := .string _) rfl ?_ | refine sv (u := .map _) rfl ?_ | refine sv (u := .func _ _ _) rfl ?_); refine sw (szT _ (by decide)) rfl (lb rfl) ?_; clear HS; intro w1 HS1; (simp only [RF.enc, segOf, aL, aZ, aS, putSeg] at HS1); have HS := Aside0.mk HS1; clear HS1)); try simp only [aP, aN, aT, aZ, aS]))
            go_roundw
            case rel => exact ⟨j + 1, _, _, by omega, by go_num, HS⟩
            case measure => simp [intOf]; omega
          · go_wp2_with (first | ((first | ((first | ((with_reducible refine gA rfl ?_); refine sh_alloc HS.out rfl rfl (zeT _ (by decide)) ?_) | ((with_reducible refine gB rfl ?_); refine bx HS.out rfl rfl ?_; first | refine bv (v := .agg (List.toArray _)) rfl ?_ | refine bv (v := .int _ _) rfl ?_ | refine bv (v := .slice _ _ _) rfl ?_ | refine bv (v := .bool _) rfl ?_ | refine bv (v := .pointer _) rfl ?_ | refine bv (v := .string _) rfl ?_ | refine bv (v := .map _) rfl ?_ | refine bv (v := .func _ _ _) rfl ?_) | ((with_reducible refine gL rfl ?_); refine sh_lit HS.out rfl rfl (by go_simp; exact ⟨⟨rfl, rfl⟩, rfl⟩) ?_)); clear HS; intro g w1 hg HS1; (simp only [RF.enc, zeF, segOf, aL, aC, aE] at HS1); have HS := Aside0.mk HS1; clear HS1) | ((with_reducible refine gLd rfl ?_); refine ld2 HS.out rfl rfl rfl (by repeat (first | exact AtI.here | apply AtI.there)) ?_; (first | refine LdK.one ((agT _ (by decide)).trans rfl) rfl ?_ | (refine LdK.agg ((agT _ (by decide)).trans rfl) (szT _ (by decide)) (lb rfl) ?_; try simp only [szL, aP, aN, aT, aZ, aS, aD, aF, aJ, aK, aM, aO]))) | ((with_reducible refine gSt rfl ?_); refine st2 HS.out rfl rfl rfl rfl (by repeat (first | exact AtI.here | apply AtI.there)) ?_; (first | refine sv (u := .agg (List.toArray _)) rfl ?_ | refine sv (u := .int _ _) rfl ?_ | refine sv (u := .slice _ _ _) rfl ?_ | refine sv (u := .bool _) rfl ?_ | refine sv (u := .pointer _) rfl ?_ | refine sv (u := .string _) rfl ?_ | refine sv (u := .map _) rfl ?_ | refine sv (u := .func _ _ _) rfl ?_); refine sw (szT _ (by decide)) rfl (lb rfl) ?_; clear HS; intro w1 HS1; (simp only [RF.enc, segOf, aL, aZ, aS, putSeg] at HS1); have HS := Aside0.mk HS1; clear HS1)); try simp only [aP, aN, aT, aZ, aS]))
            go_ret
            exact ⟨rfl, by rw [HM.out]; exact HS.out.pick [0, 1, 2, 3, 4, 5] rfl (by decide)⟩
end Go.Proofs.YtgcgnhcjjlnloaaDoor.Dk
