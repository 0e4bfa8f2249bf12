/- Lemmas towards the law: what of the text Jur6 it needs. -/
import Derived.Test.YtkggchahhpmpbaaJur5q
import Derived.Test.YtkggchahhpmpbaaJue7q
namespace Go.Proofs.Ytkggchahhpmpbaa.Jue
open Go.RowKit Go.Proofs.YtkggchahhpmpbaaW.PrintWords Go.Proofs.Ytkggchahhpmpbaa.Sl Go.Shelf
set_option linter.unusedVariables false
set_option linter.unusedSimpArgs false
theorem own_row {w w' : World} {v : Value} {ss : List Cn} (h : w'.ownsRow w.heap.size 56 2 v ss.length (ss.flatMap cnEnc)) (hb : Below w.heap.size w w') : SH w w' [row cnK 56 v ss (fun b => v.ownBlock = some b)] := by
  have := (SH.start w).push hb (i := row cnK 56 v ss (fun b => v.ownBlock = some b)) ⟨fun k hk => hk, ss.flatMap cnEnc, ⟨h.1, h.2.imp id (fun ⟨g, cap, cur, h1, h2, h3⟩ => ⟨g, cap, cur, h1, Nat.zero_le _, h3⟩)⟩, reps_flat cnLen ss⟩ (fun b hb => by
    have h1 := h.lt b hb
    exact ⟨h1.1, h1.2⟩)
  simpa using this
def KeysPost (w : World) (C : CM) (e : Ending) (w' : World) : Prop := ∃ (v : Value) (ss : List Cn) (S : Nat → Prop), e = .returned v ∧ ss.Perm (keysOf C) ∧ SH w w' [row cnK 56 v ss S]
theorem appendKeys (gb gc : Nat) (C : CM) (w : World) (hb : w.heap[gb]? = some (.cells #[.map (some gc)] 77 (0, 0))) (hok : (mpC gc C).ok w) (hC : C.length ≤ 1000) :
    Calls Try.prog 50 #[.slice none 0 0, .func (.func 46) #[] #[.pointer (some ⟨gb, 0, none⟩)]] w (KeysPost w C) := by
  have hlt := (Array.getElem?_eq_some_iff.1 hb).1
  refine (callsIn_wide.1 (appendSeq_in 3 (by omega) 46 _ (enters_of Try.func46 (by kernel_rfl) rfl) _ C.length (by omega) w (keys1_stops 2 (by omega) gb gc C w hlt (by simp [World.cell?, hb]) hok))).mono ?_
  rintro e w' ⟨v, ss, rfl, hp, hown, hbel⟩
  exact ⟨v, ss, _, rfl, hp, own_row hown hbel⟩
theorem collectKeys (gb gc : Nat) (C : CM) (w : World) (hb : w.heap[gb]? = some (.cells #[.map (some gc)] 77 (0, 0))) (hok : (mpC gc C).ok w) (hC : C.length ≤ 1000) :
    Calls Try.prog 44 #[.func (.func 46) #[] #[.pointer (some ⟨gb, 0, none⟩)]] w (KeysPost w C) := by
  have HK := Aside0.mk (appendKeys gb gc C w hb hok hC)
  clear hb hok
  unfold KeysPost at HK ⊢
  go_enter Try.func44, Try.ntmps44
  go_wp2_with (go_at_call 50; (with_reducible refine HK.out.mono ?_); rintro e w2 ⟨v, ss, S, rfl, hp, HS1⟩)
  go_ret
  exact ⟨v, ss, S, rfl, hp, HS1⟩
def SortedPost (w : World) (C : CM) (e : Ending) (w' : World) : Prop := ∃ (v : Value) (S : Nat → Prop), e = .returned v ∧ SH w w' [row cnK 56 v (sortC (keysOf C)) S]
theorem sortedKeys (gb gc : Nat) (C : CM) (w : World) (hb : w.heap[gb]? = some (.cells #[.map (some gc)] 77 (0, 0))) (hok : (mpC gc C).ok w) (hC : C.length ≤ 1000) :
    Calls Try.prog 35 #[.func (.func 46) #[] #[.pointer (some ⟨gb, 0, none⟩)], .func (.func 37) #[] #[]] w (SortedPost w C) := by
  have HK := Aside0.mk (collectKeys gb gc C w hb hok hC)
  clear hb hok
  unfold KeysPost at HK
  unfold SortedPost
  go_enter Try.func35, Try.ntmps35
  go_upto_region 2 with (go_at_call 44; (with_reducible refine HK.out.mono ?_); rintro e w2 ⟨v, ss, S, rfl, hp, HS1⟩; have HS := Aside0.mk HS1; clear HS1)
  obtain ⟨A1, c1, rfl, hc1, _⟩ := row_rd HS.out 0 rfl
  have HP := Aside0.mk hp
  have hlen : ss.length ≤ 1000 := by
    have := hp.length_eq
    simp [keysOf] at this
    omega
  clear hp
  have HF := Aside0.mk (sortFunc_any HS.out 0 rfl (by omega))
  go_wp2_with (go_at_call 45; (with_reducible refine HF.out.mono ?_); rintro e w3 ⟨rfl, HS2⟩; clear HS HF; have HS := Aside0.mk HS2; clear HS2)
  go_ret
  exact ⟨_, S, rfl, by rw [← sortC_of_perm HP.out]; exact HS.out⟩
theorem Rel.keys {L : List Cn} {C : CM} {O M : IM} (h : Rel L C O M) : (keysOf C).Perm L := by
  refine (List.perm_ext_iff_of_nodup h.ndC h.ndL).2 fun k => ?_
  rw [mem_keys h.ndC]
  constructor
  · rintro ⟨v, hv⟩; exact ((h.c k v).1 hv).1
  · intro hk; exact ⟨1, (h.c k 1).2 ⟨hk, rfl⟩⟩
theorem openS_le (l : List Seen) : (openS l).length ≤ l.length := by
  have := openS_len l l.length (Nat.le_refl _)
  rwa [List.take_length] at this
def ReplayPost (w : World) (z : Int × Int) (L : List Cn) (e : Ending) (w' : World) : Prop :=
  (z.2 = 0 ∧ ∃ (v : Value) (S : Nat → Prop), e = .returned (.tuple #[v, .int .i64 0]) ∧ SH w w' [row cnK 56 v (sortC L) S]) ∨ (z.2 ≠ 0 ∧ e = .returned (.tuple #[.slice none 0 0, .int .i64 z.2]) ∧ Below w.heap.size w w')
set_option maxHeartbeats 1600000 in
theorem replay_any (A : Option Addr) (N c : Nat) (lim : Int) (l : List Seen) (w : World) (hr : Rd Seen.enc 3 w A N l) (hN : N ≤ 1000) :
    Calls Try.prog 22 #[.int .i64 lim, .slice A N c] w (ReplayPost w (judgeS lim l [] 0) (openS l)) := by
  have hlen := openS_le l
  rw [hr.len.1] at hlen
  have HR := Aside0.mk hr
  clear hr
  have HS := Aside0.mk (SH.start w)
  obtain ⟨z, hz⟩ : ∃ z, judgeS lim l [] 0 = z := ⟨_, rfl⟩
  obtain ⟨L, hL⟩ : ∃ L, openS l = L := ⟨_, rfl⟩
  have HP := Aside0.mk (fun w1 hr => play_any A N c lim l w1 hr)
  unfold PlayPost at HP
  rw [hz, hL] at HP
  rw [hz, hL]
  rw [hL] at hlen
  clear hz hL
  unfold ReplayPost
  go_enter Try.func22, Try.ntmps22
  go_upto_region 2 with (first | (go_at_call 24; (with_reducible refine (HP.out _ (HR.out.sh HS.out)).mono ?_); rintro e w2 (⟨hz2, hz1, gO, gc, go, gm, C, O, M, rfl, hrel, HS1⟩ | ⟨hz2, rfl, hb⟩)) | ((first | ((first | ((with_reducible refine gA rfl ?_); refine sh_alloc HS.out rfl rfl (zeT _ (by decide)) ?_) | ((with_reducible refine gB rfl ?_); refine bx HS.out rfl rfl ?_; first | refine bv (v := .agg (List.toArray _)) rfl ?_ | refine bv (v := .int _ _) rfl ?_ | refine bv (v := .slice _ _ _) rfl ?_ | refine bv (v := .bool _) rfl ?_ | refine bv (v := .pointer _) rfl ?_ | refine bv (v := .string _) rfl ?_ | refine bv (v := .map _) rfl ?_ | refine bv (v := .func _ _ _) rfl ?_) | ((with_reducible refine gL rfl ?_); refine sh_lit HS.out rfl rfl (by go_simp; exact ⟨⟨rfl, rfl⟩, rfl⟩) ?_)); clear HS; intro g w1 hg HS1; (simp only [Seen.enc, cnEnc, zeF, segOf, aL, aC, aE] at HS1); have HS := Aside0.mk HS1; clear HS1)); try simp only [aP, aN, aT, aZ, aS]))
  · have HREL := Aside0.mk hrel
    have HZ := Aside0.mk hz2
    clear hrel hz1 hz2 HS
    have HS := Aside0.mk HS1
    clear HS1
    have hCl : C.length ≤ 1000 := by
      have := HREL.out.keys.length_eq
      simp [keysOf] at this
      omega
    go_upto_region 4 with (first | ((first | ((first | ((with_reducible refine gA rfl ?_); refine sh_alloc HS.out rfl rfl (zeT _ (by decide)) ?_) | ((with_reducible refine gB rfl ?_); refine bx HS.out rfl rfl ?_; first | refine bv (v := .agg (List.toArray _)) rfl ?_ | refine bv (v := .int _ _) rfl ?_ | refine bv (v := .slice _ _ _) rfl ?_ | refine bv (v := .bool _) rfl ?_ | refine bv (v := .pointer _) rfl ?_ | refine bv (v := .string _) rfl ?_ | refine bv (v := .map _) rfl ?_ | refine bv (v := .func _ _ _) rfl ?_) | ((with_reducible refine gL rfl ?_); refine sh_lit HS.out rfl rfl (by go_simp; exact ⟨⟨rfl, rfl⟩, rfl⟩) ?_)); clear HS; intro g w1 hg HS1; (simp only [Seen.enc, cnEnc, zeF, segOf, aL, aC, aE] at HS1); have HS := Aside0.mk HS1; clear HS1) | ((with_reducible refine gLd rfl ?_); refine ld2 HS.out rfl rfl rfl (by repeat (first | exact AtI.here | apply AtI.there)) ?_; (first | refine LdK.one ((agT _ (by decide)).trans rfl) rfl ?_ | (refine LdK.agg ((agT _ (by decide)).trans rfl) (szT _ (by decide)) (lb rfl) ?_; try simp only [szL, aP, aN, aT, aZ, aS, aD, aF, aJ, aK, aM, aO]))) | ((with_reducible refine gSt rfl ?_); refine st2 HS.out rfl rfl rfl rfl (by repeat (first | exact AtI.here | apply AtI.there)) ?_; (first | refine sv (u := .agg (List.toArray _)) rfl ?_ | refine sv (u := .int _ _) rfl ?_ | refine sv (u := .slice _ _ _) rfl ?_ | refine sv (u := .bool _) rfl ?_ | refine sv (u := .pointer _) rfl ?_ | refine sv (u := .string _) rfl ?_ | refine sv (u := .map _) rfl ?_ | refine sv (u := .func _ _ _) rfl ?_); refine sw (szT _ (by decide)) rfl (lb rfl) ?_; clear HS; intro w1 HS1; (simp only [Seen.enc, cnEnc, segOf, aL, aZ, aS, putSeg] at HS1); have HS := Aside0.mk HS1; clear HS1)); try simp only [aP, aN, aT, aZ, aS]))
    have HKK := Aside0.mk (fun w1 => keys_any gc w1)
    go_wp2_with (first | (go_at_call 36; (with_reducible refine (HKK.out _).mono ?_); rintro e w2 ⟨gb, rfl, HS1⟩; have HS2 := HS.out.call HS1; clear HS HS1; simp only [aC, aE] at HS2; have HS := Aside0.mk HS2; clear HS2) | (go_at_call 35; (with_reducible refine (sortedKeys gb gc C _ (HS.out.blk 4 rfl) (HS.out.at 1 rfl) hCl).mono ?_); rintro e w2 ⟨v, S, rfl, HS1⟩; have HS2 := HS.out.call HS1; clear HS HS1; simp only [aC, aE] at HS2; have HS := Aside0.mk HS2; clear HS2) | ((first | ((first | ((with_reducible refine gA rfl ?_); refine sh_alloc HS.out rfl rfl (zeT _ (by decide)) ?_) | ((with_reducible refine gB rfl ?_); refine bx HS.out rfl rfl ?_; first | refine bv (v := .agg (List.toArray _)) rfl ?_ | refine bv (v := .int _ _) rfl ?_ | refine bv (v := .slice _ _ _) rfl ?_ | refine bv (v := .bool _) rfl ?_ | refine bv (v := .pointer _) rfl ?_ | refine bv (v := .string _) rfl ?_ | refine bv (v := .map _) rfl ?_ | refine bv (v := .func _ _ _) rfl ?_) | ((with_reducible refine gL rfl ?_); refine sh_lit HS.out rfl rfl (by go_simp; exact ⟨⟨rfl, rfl⟩, rfl⟩) ?_)); clear HS; intro g w1 hg HS1; (simp only [Seen.enc, cnEnc, zeF, segOf, aL, aC, aE] at HS1); have HS := Aside0.mk HS1; clear HS1) | ((with_reducible refine gLd rfl ?_); refine ld2 HS.out rfl rfl rfl (by repeat (first | exact AtI.here | apply AtI.there)) ?_; (first | refine LdK.one ((agT _ (by decide)).trans rfl) rfl ?_ | (refine LdK.agg ((agT _ (by decide)).trans rfl) (szT _ (by decide)) (lb rfl) ?_; try simp only [szL, aP, aN, aT, aZ, aS, aD, aF, aJ, aK, aM, aO]))) | ((with_reducible refine gSt rfl ?_); refine st2 HS.out rfl rfl rfl rfl (by repeat (first | exact AtI.here | apply AtI.there)) ?_; (first | refine sv (u := .agg (List.toArray _)) rfl ?_ | refine sv (u := .int _ _) rfl ?_ | refine sv (u := .slice _ _ _) rfl ?_ | refine sv (u := .bool _) rfl ?_ | refine sv (u := .pointer _) rfl ?_ | refine sv (u := .string _) rfl ?_ | refine sv (u := .map _) rfl ?_ | refine sv (u := .func _ _ _) rfl ?_); refine sw (szT _ (by decide)) rfl (lb rfl) ?_; clear HS; intro w1 HS1; (simp only [Seen.enc, cnEnc, segOf, aL, aZ, aS, putSeg] at HS1); have HS := Aside0.mk HS1; clear HS1)); try simp only [aP, aN, aT, aZ, aS]))
    go_ret2
    refine .inl ⟨HZ.out, v, S, rfl, ?_⟩
    have h := HS.out.pick [5] rfl (by decide)
    rw [sortC_of_perm HREL.out.keys] at h
    exact h
  · have HS1 := HS.out.quiet hb; clear HS hb; have HS := Aside0.mk HS1; clear HS1
    have HZ := Aside0.mk hz2
    have hq : (z.2 != 0) = true := by rw [bne_iff_ne]; exact hz2
    clear hz2
    go_wp2_with (first | ((first | ((first | ((with_reducible refine gA rfl ?_); refine sh_alloc HS.out rfl rfl (zeT _ (by decide)) ?_) | ((with_reducible refine gB rfl ?_); refine bx HS.out rfl rfl ?_; first | refine bv (v := .agg (List.toArray _)) rfl ?_ | refine bv (v := .int _ _) rfl ?_ | refine bv (v := .slice _ _ _) rfl ?_ | refine bv (v := .bool _) rfl ?_ | refine bv (v := .pointer _) rfl ?_ | refine bv (v := .string _) rfl ?_ | refine bv (v := .map _) rfl ?_ | refine bv (v := .func _ _ _) rfl ?_) | ((with_reducible refine gL rfl ?_); refine sh_lit HS.out rfl rfl (by go_simp; exact ⟨⟨rfl, rfl⟩, rfl⟩) ?_)); clear HS; intro g w1 hg HS1; (simp only [Seen.enc, cnEnc, zeF, segOf, aL, aC, aE] at HS1); have HS := Aside0.mk HS1; clear HS1)); try simp only [aP, aN, aT, aZ, aS]))
    go_ret2
    exact .inr ⟨HZ.out, rfl, HS.out.below⟩
end Go.Proofs.Ytkggchahhpmpbaa.Jue
