/- Lemmas towards the law: what of the text Dk4 it needs. -/
import Derived.Test.YtgcgnhcjjlnloaaDoorDk3q
namespace Go.Proofs.YtgcgnhcjjlnloaaDoor.Dk
open Go.RowKit Go.Proofs.YtgcgnhcjjlnloaaDoorW.PrintWords Go.Proofs.YtgcgnhcjjlnloaaDoor.Sl Go.Maps
set_option linter.unusedVariables false
set_option linter.unusedSimpArgs false
def strs (s : ByteArray) : List Value := [.string s]
theorem strs_len (s : ByteArray) : (strs s).length = 1 := rfl
theorem strs_one (s : ByteArray) : (strs s).all (·.oneCell') = true := rfl
def strK : Kd ByteArray := flk strs 1 strs_len strs_one
def bs (l : List UInt8) : ByteArray := ⟨l.toArray⟩
theorem enc_flat : ∀ ss : List (List UInt8), ss.map encStr = (ss.map bs).flatMap strs
  | [] => rfl
  | x :: ss => by
    rw [List.map_cons, List.map_cons, List.flatMap_cons, enc_flat ss]
    rfl
theorem own_strs {W w' : World} {v : Value} {ss : List (List UInt8)} {B : Nat} (h : w'.ownsRow B 9 1 v ss.length (ss.map encStr)) (hB : W.heap.size ≤ B) (hb : Below W.heap.size W w') : SH W w' [row strK 9 v (ss.map bs) (fun b => v.ownBlock = some b)] := by
  have hf := enc_flat ss
  have hl : ss.length = (ss.map bs).length := (List.length_map _).symm
  rw [hf, hl] at h
  have := (SH.start W).push hb (i := row strK 9 v (ss.map bs) (fun b => v.ownBlock = some b)) ⟨fun k hk => hk, (ss.map bs).flatMap strs, ⟨h.1, h.2.imp id (fun ⟨g, cap, cur, h1, h2, h3⟩ => ⟨g, cap, cur, h1, Nat.zero_le _, h3⟩)⟩, reps_flat strs_len (ss.map bs)⟩ (fun b hb => by
    have h1 := h.lt b hb
    exact ⟨Nat.le_trans hB h1.1, h1.2⟩)
  simpa using this
def NamesPost (w0 : World) (is : List HP) (m : FM) (e : Ending) (w' : World) : Prop := ∃ v S, e = .returned v ∧ SH w0 w' (is ++ [row strK 9 v (namesOf m) S])
theorem names_done {w0 W w' : World} {is : List HP} {m : FM} {D : DataW Unit} {v : Value} {ss : List (List UInt8)} {o : Obj} (HS : SH w0 W is) (hp : (strKeys D).Perm (keyL m)) (hss : ss.Perm (strKeys D)) (hown : w'.ownsRow (W.alloc o).heap.size 9 1 v ss.length ((ss.mergeSort (fun x y => decide (x ≤ y))).map encStr)) (hb : Below (W.alloc o).heap.size (W.alloc o) w') : NamesPost w0 is m (.returned v) w' := by
  have hbel : Below W.heap.size W w' := (below_alloc (Below.refl _ W) _).trans (hb.mono (by simp))
  have hl : ss.length = (ss.mergeSort (fun x y => decide (x ≤ y))).length := (List.length_mergeSort _).symm
  rw [hl] at hown
  have h1 := own_strs hown (by simp) hbel
  have e : ss.mergeSort (fun x y => decide (x ≤ y)) = (keyL m).mergeSort leB := mergeSort_of_perm (hss.trans hp)
  rw [e] at h1
  exact ⟨_, _, rfl, HS.call h1⟩
set_option maxHeartbeats 1600000 in
set_option maxRecDepth 100000 in
theorem names_any {w0 w : World} {F : HP} (gD gM : Nat) (x1 x2 x3 : Value) (m : FM) (hm : KeysOk m) (HS0 : SH w0 w [blk gD [.map (some gM), x1, x2, x3] 52, mpF gM m, F]) :
    Calls Tryd.prog 14 #[.pointer (some ⟨gD, 0, none⟩)] w (NamesPost w0 [blk gD [.map (some gM), x1, x2, x3] 52, mpF gM m, F] m) := by
  have HS := Aside0.mk HS0
  clear HS0
  obtain ⟨D, hown, hsz, hp⟩ := owns_of (HS.out.at 1 rfl) hm
  have hlen := hm.len
  have hcall := sorted_call gM m.length D w hown (by rw [hsz]; unfold maxLen; omega) (by rw [hsz]; omega)
  have HP := Aside0.mk hp
  have HC := Aside0.mk hcall
  clear hp hown hsz hcall hm hlen
  go_enter Tryd.func14, Tryd.ntmps14
  go_wp2_with (first | (go_at_call 33; (with_reducible refine (keys_call _ _).mono ?_); rintro e w2 ⟨rfl, rfl⟩) | (go_at_call 32; (with_reducible refine HC.out.mono ?_); rintro e w2 ⟨v, ss, rfl, hss, hrow, hnil, hb⟩) | ((first | ((first | ((with_reducible refine gA rfl ?_); refine sh_alloc HS.out rfl rfl (zeT _ (by decide)) ?_) | ((with_reducible refine gB rfl ?_); refine bx HS.out rfl rfl ?_; first | refine bv (v := .agg (List.toArray _)) rfl ?_ | refine bv (v := .int _ _) rfl ?_ | refine bv (v := .slice _ _ _) rfl ?_ | refine bv (v := .bool _) rfl ?_ | refine bv (v := .pointer _) rfl ?_) | ((with_reducible refine gL rfl ?_); refine sh_lit HS.out rfl rfl (by go_simp; exact ⟨⟨rfl, rfl⟩, rfl⟩) ?_)); clear HS; intro g w1 hg HS1; (simp only [zeF, segOf, aL, aC, aE] at HS1); have HS := Aside0.mk HS1; clear HS1) | ((with_reducible refine gLd rfl ?_); refine ld2 HS.out rfl rfl rfl (by repeat (first | exact AtI.here | apply AtI.there)) ?_; (first | refine LdK.one ((agT _ (by decide)).trans rfl) rfl ?_ | (refine LdK.agg ((agT _ (by decide)).trans rfl) (szT _ (by decide)) (lb rfl) ?_; try simp only [szL, aP, aN, aT, aZ, aS, aD, aF, aJ, aK, aM, aO]))) | ((with_reducible refine gSt rfl ?_); refine st2 HS.out rfl rfl rfl rfl (by repeat (first | exact AtI.here | apply AtI.there)) ?_; (first | refine sv (u := .agg (List.toArray _)) rfl ?_ | refine sv (u := .int _ _) rfl ?_ | refine sv (u := .slice _ _ _) rfl ?_ | refine sv (u := .bool _) rfl ?_ | refine sv (u := .pointer _) rfl ?_); refine sw (szT _ (by decide)) rfl (lb rfl) ?_; clear HS; intro w1 HS1; (simp only [segOf, aL, aZ, aS, putSeg] at HS1); have HS := Aside0.mk HS1; clear HS1)); try simp only [aP, aN, aT, aZ, aS]))
  go_ret
  exact names_done HS.out HP.out hss hrow hb
end Go.Proofs.YtgcgnhcjjlnloaaDoor.Dk
