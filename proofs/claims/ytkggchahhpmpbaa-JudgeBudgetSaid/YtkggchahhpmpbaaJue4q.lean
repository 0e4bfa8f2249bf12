/- Lemmas towards the law: what of the text Jue4 it needs. -/
import Derived.Test.YtkggchahhpmpbaaJue3q
namespace Go.Proofs.Ytkggchahhpmpbaa.Jue
open Go.RowKit Go.Proofs.YtkggchahhpmpbaaW.PrintWords Go.Proofs.Ytkggchahhpmpbaa.Sl
set_option linter.unusedVariables false
set_option linter.unusedSimpArgs false
def judgeS (lim : Int) : List Seen → List Cn → Int → Int × Int
  | [], _, _ => (-1, 0)
  | s :: l, L, i => if errS lim L s = 0 then judgeS lim l (nextS L s) (i + 1) else (i, errS lim L s)
def openS (l : List Seen) : List Cn := l.foldl nextS []
theorem openS_succ {l : List Seen} {k : Nat} {x : Seen} (hk : k < l.length) (hx : l.getD k default = x) : openS (l.take (k + 1)) = nextS (openS (l.take k)) x := by
  unfold openS
  rw [List.take_succ_eq_append_getElem hk, List.foldl_append]
  rw [List.getD_eq_getElem?_getD, List.getElem?_eq_getElem hk, Option.getD_some] at hx
  rw [hx]
  rfl
theorem judgeS_drop {lim : Int} {l : List Seen} {L : List Cn} {k : Nat} {x : Seen} {i : Int} (hk : k < l.length) (hx : l.getD k default = x) : judgeS lim (l.drop k) L i = if errS lim L x = 0 then judgeS lim (l.drop (k + 1)) (nextS L x) (i + 1) else (i, errS lim L x) := by
  rw [List.drop_eq_getElem_cons hk]
  rw [List.getD_eq_getElem?_getD, List.getElem?_eq_getElem hk, Option.getD_some] at hx
  rw [hx]
  rfl
def PlayPost (w : World) (lim : Int) (l : List Seen) (e : Ending) (w' : World) : Prop :=
  ((judgeS lim l [] 0).2 = 0 ∧ (judgeS lim l [] 0).1 = -1 ∧ ∃ gO gc go gm C O M, e = .returned (.tuple #[.pointer (some ⟨gO, 0, none⟩), .int .i64 (-1), .int .i64 0]) ∧ Rel (openS l) C O M ∧ SH w w' [opB gO gc go gm, mpC gc C, mpI go O, mpI gm M]) ∨
  ((judgeS lim l [] 0).2 ≠ 0 ∧ e = .returned (.tuple #[.pointer none, .int .i64 (judgeS lim l [] 0).1, .int .i64 (judgeS lim l [] 0).2]) ∧ Below w.heap.size w w')
set_option maxHeartbeats 3200000 in
set_option maxRecDepth 100000 in
theorem play_any (A : Option Addr) (N c : Nat) (lim : Int) (l : List Seen) (w : World) (hr : Rd Seen.enc 3 w A N l) :
    Calls Try.prog 24 #[.int .i64 lim, .slice A N c] w (PlayPost w lim l) := by
  obtain rfl := hr.len.1
  have hm := hr.len.2
  have HR := Aside0.mk hr
  clear hr
  have HS := Aside0.mk (SH.start w)
  obtain ⟨z, hz⟩ : ∃ z, judgeS lim l [] 0 = z := ⟨_, rfl⟩
  have HZ := Aside0.mk hz
  unfold PlayPost
  rw [hz]
  clear hz
  go_enter Try.func24, Try.ntmps24
  go_upto_region 2 with (first | ((fail_if_success (have _ := gc)); ((with_reducible refine gMm rfl ?_); refine sh_makeMap HS.out rfl rfl pairKey (Value.int .i64) (fun _ : Cn => True) ?_; clear HS; intro gc w1 hgc HS1; (simp only [aC, aE] at HS1); have HS := Aside0.mk HS1; clear HS1; try simp only [aP, aN, aT, aZ, aS])) | ((fail_if_success (have _ := go)); ((with_reducible refine gMm rfl ?_); refine sh_makeMap HS.out rfl rfl (Value.int .i64) (Value.int .i64) (fun _ : Int => True) ?_; clear HS; intro go w1 hgo HS1; (simp only [aC, aE] at HS1); have HS := Aside0.mk HS1; clear HS1; try simp only [aP, aN, aT, aZ, aS])) | ((fail_if_success (have _ := gm)); ((with_reducible refine gMm rfl ?_); refine sh_makeMap HS.out rfl rfl (Value.int .i64) (Value.int .i64) (fun _ : Int => True) ?_; clear HS; intro gm w1 hgm HS1; (simp only [aC, aE] at HS1); have HS := Aside0.mk HS1; clear HS1; try simp only [aP, aN, aT, aZ, aS])) | ((fail_if_success (have _ := gO)); ((with_reducible refine gB rfl ?_); refine bx HS.out rfl rfl ?_; (first | refine bv (v := .agg (List.toArray _)) rfl ?_ | refine bv (v := .int _ _) rfl ?_ | refine bv (v := .slice _ _ _) rfl ?_ | refine bv (v := .bool _) rfl ?_ | refine bv (v := .pointer _) rfl ?_ | refine bv (v := .string _) rfl ?_ | refine bv (v := .map _) rfl ?_ | refine bv (v := .func _ _ _) rfl ?_); clear HS; intro gO w1 hgO HS1; (simp only [Seen.enc, segOf, aL, aC, aE] at HS1); have HS := Aside0.mk HS1; clear HS1; try simp only [aP, aN, aT, aZ, aS])) | ((first | ((first | ((with_reducible refine gA rfl ?_); refine sh_alloc HS.out rfl rfl (zeT _ (by decide)) ?_) | ((with_reducible refine gB rfl ?_); refine bx HS.out rfl rfl ?_; first | refine bv (v := .agg (List.toArray _)) rfl ?_ | refine bv (v := .int _ _) rfl ?_ | refine bv (v := .slice _ _ _) rfl ?_ | refine bv (v := .bool _) rfl ?_ | refine bv (v := .pointer _) rfl ?_ | refine bv (v := .string _) rfl ?_ | refine bv (v := .map _) rfl ?_ | refine bv (v := .func _ _ _) rfl ?_) | ((with_reducible refine gL rfl ?_); refine sh_lit HS.out rfl rfl (by go_simp; exact ⟨⟨rfl, rfl⟩, rfl⟩) ?_)); clear HS; intro g w1 hg HS1; (simp only [Seen.enc, zeF, segOf, aL, aC, aE] at HS1); have HS := Aside0.mk HS1; clear HS1) | ((with_reducible refine gLd rfl ?_); refine ld2 HS.out rfl rfl rfl (by repeat (first | exact AtI.here | apply AtI.there)) ?_; (first | refine LdK.one ((agT _ (by decide)).trans rfl) rfl ?_ | (refine LdK.agg ((agT _ (by decide)).trans rfl) (szT _ (by decide)) (lb rfl) ?_; try simp only [szL, aP, aN, aT, aZ, aS, aD, aF, aJ, aK, aM, aO]))) | ((with_reducible refine gSt rfl ?_); refine st2 HS.out rfl rfl rfl rfl (by repeat (first | exact AtI.here | apply AtI.there)) ?_; (first | refine sv (u := .agg (List.toArray _)) rfl ?_ | refine sv (u := .int _ _) rfl ?_ | refine sv (u := .slice _ _ _) rfl ?_ | refine sv (u := .bool _) rfl ?_ | refine sv (u := .pointer _) rfl ?_ | refine sv (u := .string _) rfl ?_ | refine sv (u := .map _) rfl ?_ | refine sv (u := .func _ _ _) rfl ?_); refine sw (szT _ (by decide)) rfl (lb rfl) ?_; clear HS; intro w1 HS1; (simp only [Seen.enc, segOf, aL, aZ, aS, putSeg] at HS1); have HS := Aside0.mk HS1; clear HS1)); try simp only [aP, aN, aT, aZ, aS]))
  go_wp2_with (first | ((first | ((first | ((with_reducible refine gA rfl ?_); refine sh_alloc HS.out rfl rfl (zeT _ (by decide)) ?_) | ((with_reducible refine gB rfl ?_); refine bx HS.out rfl rfl ?_; first | refine bv (v := .agg (List.toArray _)) rfl ?_ | refine bv (v := .int _ _) rfl ?_ | refine bv (v := .slice _ _ _) rfl ?_ | refine bv (v := .bool _) rfl ?_ | refine bv (v := .pointer _) rfl ?_ | refine bv (v := .string _) rfl ?_ | refine bv (v := .map _) rfl ?_ | refine bv (v := .func _ _ _) rfl ?_) | ((with_reducible refine gL rfl ?_); refine sh_lit HS.out rfl rfl (by go_simp; exact ⟨⟨rfl, rfl⟩, rfl⟩) ?_)); clear HS; intro g w1 hg HS1; (simp only [Seen.enc, zeF, segOf, aL, aC, aE] at HS1); have HS := Aside0.mk HS1; clear HS1) | ((with_reducible refine gLd rfl ?_); refine ld2 HS.out rfl rfl rfl (by repeat (first | exact AtI.here | apply AtI.there)) ?_; (first | refine LdK.one ((agT _ (by decide)).trans rfl) rfl ?_ | (refine LdK.agg ((agT _ (by decide)).trans rfl) (szT _ (by decide)) (lb rfl) ?_; try simp only [szL, aP, aN, aT, aZ, aS, aD, aF, aJ, aK, aM, aO]))) | ((with_reducible refine gSt rfl ?_); refine st2 HS.out rfl rfl rfl rfl (by repeat (first | exact AtI.here | apply AtI.there)) ?_; (first | refine sv (u := .agg (List.toArray _)) rfl ?_ | refine sv (u := .int _ _) rfl ?_ | refine sv (u := .slice _ _ _) rfl ?_ | refine sv (u := .bool _) rfl ?_ | refine sv (u := .pointer _) rfl ?_ | refine sv (u := .string _) rfl ?_ | refine sv (u := .map _) rfl ?_ | refine sv (u := .func _ _ _) rfl ?_); refine sw (szT _ (by decide)) rfl (lb rfl) ?_; clear HS; intro w1 HS1; (simp only [Seen.enc, segOf, aL, aZ, aS, putSeg] at HS1); have HS := Aside0.mk HS1; clear HS1)); try simp only [aP, aN, aT, aZ, aS]))
  go_loopw [18] (fun v18 wr => ∃ (k : Nat) (C : CM) (O M : IM), k ≤ l.length ∧ v18 = .int .i64 k ∧ Aside0 (judgeS lim (l.drop k) (openS (l.take k)) k = z) ∧ Aside0 (Rel (openS (l.take k)) C O M) ∧ Aside0 (SH w wr [mpC gc C, mpI go O, mpI gm M, opB gO gc go gm])) (fun v18 _ => l.length - (intOf v18).toNat)
  case atStart => exact ⟨0, [], [], [], Nat.zero_le _, rfl, ⟨HZ.out⟩, ⟨Rel.zero⟩, HS⟩
  case round =>
    clear HS
    obtain ⟨k, C, O, M, hk, rfl, HJ, HREL, HS⟩ := hrel
    by_cases hlt : k < l.length
    · obtain ⟨ad, rfl⟩ := HR.out.addr (by omega)
      obtain ⟨x, hx⟩ : ∃ x, l.getD k default = x := ⟨_, rfl⟩
      have HX := Aside0.mk hx
      have HRR := Aside0.mk (HR.out.sh HS.out)
      have HJ2 := Aside0.mk ((judgeS_drop hlt hx).symm.trans HJ.out)
      have HOS := Aside0.mk (openS_succ hlt hx)
      clear hx HJ
      obtain ⟨er, her⟩ : ∃ er, errS lim (openS (l.take k)) x = er := ⟨_, rfl⟩
      have HER := Aside0.mk her
      by_cases he0 : er = 0
      · have hq : (er != 0) = false := by rw [he0]; rfl
        have HE0 := Aside0.mk he0
        clear he0 her
        go_wp2_with (first | ((with_reducible refine gLd rfl ?_); refine rd_load HRR.out rfl rfl (i := k) rfl hlt default Seen.len ((agT _ (by decide)).trans rfl) (szT _ (by decide)) ?_; intro x hx; obtain rfl := HX.out.symm.trans hx; (try simp only [Seen.enc, aP, aN, aT, aZ, aS])) | (go_at_call 41; (with_reducible refine (take_any gO gc go gm lim x (openS (l.take k)) C O M _ HREL.out (SH.pack (is := [_, _, _, _]) [_] (HS.out.pick [3, 0, 1, 2, 4] rfl (by decide)))).mono ?_); rintro e w2 ⟨rfl, C', O', M', HS2, hrel2⟩; have HREL2 := Aside0.mk hrel2; clear hrel2; have HSN := (show SH w w2 [_, _, _, _, _] from (SH.unpack (is := [_, _, _, _]) [_] HS2).pick [1, 2, 3, 0, 4] rfl (by decide)); clear HS2 HS; have HS := Aside0.mk HSN; clear HSN; rw [HER.out]) | ((first | ((first | ((with_reducible refine gA rfl ?_); refine sh_alloc HS.out rfl rfl (zeT _ (by decide)) ?_) | ((with_reducible refine gB rfl ?_); refine bx HS.out rfl rfl ?_; first | refine bv (v := .agg (List.toArray _)) rfl ?_ | refine bv (v := .int _ _) rfl ?_ | refine bv (v := .slice _ _ _) rfl ?_ | refine bv (v := .bool _) rfl ?_ | refine bv (v := .pointer _) rfl ?_ | refine bv (v := .string _) rfl ?_ | refine bv (v := .map _) rfl ?_ | refine bv (v := .func _ _ _) rfl ?_) | ((with_reducible refine gL rfl ?_); refine sh_lit HS.out rfl rfl (by go_simp; exact ⟨⟨rfl, rfl⟩, rfl⟩) ?_)); clear HS; intro g w1 hg HS1; (simp only [Seen.enc, zeF, segOf, aL, aC, aE] at HS1); have HS := Aside0.mk HS1; clear HS1) | ((with_reducible refine gLd rfl ?_); refine ld2 HS.out rfl rfl rfl (by repeat (first | exact AtI.here | apply AtI.there)) ?_; (first | refine LdK.one ((agT _ (by decide)).trans rfl) rfl ?_ | (refine LdK.agg ((agT _ (by decide)).trans rfl) (szT _ (by decide)) (lb rfl) ?_; try simp only [szL, aP, aN, aT, aZ, aS, aD, aF, aJ, aK, aM, aO]))) | ((with_reducible refine gSt rfl ?_); refine st2 HS.out rfl rfl rfl rfl (by repeat (first | exact AtI.here | apply AtI.there)) ?_; (first | refine sv (u := .agg (List.toArray _)) rfl ?_ | refine sv (u := .int _ _) rfl ?_ | refine sv (u := .slice _ _ _) rfl ?_ | refine sv (u := .bool _) rfl ?_ | refine sv (u := .pointer _) rfl ?_ | refine sv (u := .string _) rfl ?_ | refine sv (u := .map _) rfl ?_ | refine sv (u := .func _ _ _) rfl ?_); refine sw (szT _ (by decide)) rfl (lb rfl) ?_; clear HS; intro w1 HS1; (simp only [Seen.enc, segOf, aL, aZ, aS, putSeg] at HS1); have HS := Aside0.mk HS1; clear HS1)); try simp only [aP, aN, aT, aZ, aS]))
        go_roundw
        case rel =>
          refine ⟨k + 1, C', O', M', by omega, by go_num, ⟨?_⟩, ⟨?_⟩, ⟨HS.out.pick [0, 1, 2, 3] rfl (by decide)⟩⟩
          · have h := HJ2.out
            rw [HER.out, HE0.out, if_pos rfl] at h
            rw [HOS.out, Int.natCast_succ]
            exact h
          · have h := HREL2.out (HER.out.trans HE0.out)
            rw [HOS.out]
            exact h
        case measure => simp [intOf]; omega
      · have hq : (er != 0) = true := by rw [bne_iff_ne]; exact he0
        have HE0 := Aside0.mk he0
        clear he0 her
        go_wp2_with (first | ((with_reducible refine gLd rfl ?_); refine rd_load HRR.out rfl rfl (i := k) rfl hlt default Seen.len ((agT _ (by decide)).trans rfl) (szT _ (by decide)) ?_; intro x hx; obtain rfl := HX.out.symm.trans hx; (try simp only [Seen.enc, aP, aN, aT, aZ, aS])) | (go_at_call 41; (with_reducible refine (take_any gO gc go gm lim x (openS (l.take k)) C O M _ HREL.out (SH.pack (is := [_, _, _, _]) [_] (HS.out.pick [3, 0, 1, 2, 4] rfl (by decide)))).mono ?_); rintro e w2 ⟨rfl, C', O', M', HS2, hrel2⟩; have HREL2 := Aside0.mk hrel2; clear hrel2; have HSN := (show SH w w2 [_, _, _, _, _] from (SH.unpack (is := [_, _, _, _]) [_] HS2).pick [1, 2, 3, 0, 4] rfl (by decide)); clear HS2 HS; have HS := Aside0.mk HSN; clear HSN; rw [HER.out]) | ((first | ((first | ((with_reducible refine gA rfl ?_); refine sh_alloc HS.out rfl rfl (zeT _ (by decide)) ?_) | ((with_reducible refine gB rfl ?_); refine bx HS.out rfl rfl ?_; first | refine bv (v := .agg (List.toArray _)) rfl ?_ | refine bv (v := .int _ _) rfl ?_ | refine bv (v := .slice _ _ _) rfl ?_ | refine bv (v := .bool _) rfl ?_ | refine bv (v := .pointer _) rfl ?_ | refine bv (v := .string _) rfl ?_ | refine bv (v := .map _) rfl ?_ | refine bv (v := .func _ _ _) rfl ?_) | ((with_reducible refine gL rfl ?_); refine sh_lit HS.out rfl rfl (by go_simp; exact ⟨⟨rfl, rfl⟩, rfl⟩) ?_)); clear HS; intro g w1 hg HS1; (simp only [Seen.enc, zeF, segOf, aL, aC, aE] at HS1); have HS := Aside0.mk HS1; clear HS1) | ((with_reducible refine gLd rfl ?_); refine ld2 HS.out rfl rfl rfl (by repeat (first | exact AtI.here | apply AtI.there)) ?_; (first | refine LdK.one ((agT _ (by decide)).trans rfl) rfl ?_ | (refine LdK.agg ((agT _ (by decide)).trans rfl) (szT _ (by decide)) (lb rfl) ?_; try simp only [szL, aP, aN, aT, aZ, aS, aD, aF, aJ, aK, aM, aO]))) | ((with_reducible refine gSt rfl ?_); refine st2 HS.out rfl rfl rfl rfl (by repeat (first | exact AtI.here | apply AtI.there)) ?_; (first | refine sv (u := .agg (List.toArray _)) rfl ?_ | refine sv (u := .int _ _) rfl ?_ | refine sv (u := .slice _ _ _) rfl ?_ | refine sv (u := .bool _) rfl ?_ | refine sv (u := .pointer _) rfl ?_ | refine sv (u := .string _) rfl ?_ | refine sv (u := .map _) rfl ?_ | refine sv (u := .func _ _ _) rfl ?_); refine sw (szT _ (by decide)) rfl (lb rfl) ?_; clear HS; intro w1 HS1; (simp only [Seen.enc, segOf, aL, aZ, aS, putSeg] at HS1); have HS := Aside0.mk HS1; clear HS1)); try simp only [aP, aN, aT, aZ, aS]))
        go_ret3
        have h := HJ2.out
        rw [HER.out, if_neg HE0.out] at h
        subst h
        exact .inr ⟨HE0.out, rfl, HS.out.below⟩
    · obtain rfl : k = l.length := by omega
      go_wp2_with (first | ((first | ((first | ((with_reducible refine gA rfl ?_); refine sh_alloc HS.out rfl rfl (zeT _ (by decide)) ?_) | ((with_reducible refine gB rfl ?_); refine bx HS.out rfl rfl ?_; first | refine bv (v := .agg (List.toArray _)) rfl ?_ | refine bv (v := .int _ _) rfl ?_ | refine bv (v := .slice _ _ _) rfl ?_ | refine bv (v := .bool _) rfl ?_ | refine bv (v := .pointer _) rfl ?_ | refine bv (v := .string _) rfl ?_ | refine bv (v := .map _) rfl ?_ | refine bv (v := .func _ _ _) rfl ?_) | ((with_reducible refine gL rfl ?_); refine sh_lit HS.out rfl rfl (by go_simp; exact ⟨⟨rfl, rfl⟩, rfl⟩) ?_)); clear HS; intro g w1 hg HS1; (simp only [Seen.enc, zeF, segOf, aL, aC, aE] at HS1); have HS := Aside0.mk HS1; clear HS1) | ((with_reducible refine gLd rfl ?_); refine ld2 HS.out rfl rfl rfl (by repeat (first | exact AtI.here | apply AtI.there)) ?_; (first | refine LdK.one ((agT _ (by decide)).trans rfl) rfl ?_ | (refine LdK.agg ((agT _ (by decide)).trans rfl) (szT _ (by decide)) (lb rfl) ?_; try simp only [szL, aP, aN, aT, aZ, aS, aD, aF, aJ, aK, aM, aO]))) | ((with_reducible refine gSt rfl ?_); refine st2 HS.out rfl rfl rfl rfl (by repeat (first | exact AtI.here | apply AtI.there)) ?_; (first | refine sv (u := .agg (List.toArray _)) rfl ?_ | refine sv (u := .int _ _) rfl ?_ | refine sv (u := .slice _ _ _) rfl ?_ | refine sv (u := .bool _) rfl ?_ | refine sv (u := .pointer _) rfl ?_ | refine sv (u := .string _) rfl ?_ | refine sv (u := .map _) rfl ?_ | refine sv (u := .func _ _ _) rfl ?_); refine sw (szT _ (by decide)) rfl (lb rfl) ?_; clear HS; intro w1 HS1; (simp only [Seen.enc, segOf, aL, aZ, aS, putSeg] at HS1); have HS := Aside0.mk HS1; clear HS1)); try simp only [aP, aN, aT, aZ, aS]))
      go_ret3
      have h := HJ.out
      rw [List.drop_length] at h
      have h : ((-1 : Int), (0 : Int)) = z := h
      subst h
      have hrel := HREL.out
      rw [List.take_length] at hrel
      exact .inl ⟨rfl, rfl, gO, gc, go, gm, C, O, M, rfl, hrel, HS.out.pick [3, 0, 1, 2] rfl (by decide)⟩
end Go.Proofs.Ytkggchahhpmpbaa.Jue
