/- Lemmas towards the law: what of the text DkP2 it needs. -/
import Derived.Test.YtgcgnhcjjlnloaaDoorDkP1q
namespace Go.Proofs.YtgcgnhcjjlnloaaDoor.Dk
open Go.RowKit Go.Proofs.YtgcgnhcjjlnloaaDoorW.PrintWords Go.Proofs.YtgcgnhcjjlnloaaDoor.Sl Go.Maps Go.Sort
set_option linter.unusedVariables false
set_option linter.unusedSimpArgs false
theorem mem_mid {F1 F2 : List RF} {y f : RF} : f ∈ F1 ++ y :: F2 ↔ f = y ∨ f ∈ F1 ++ F2 := by
  rw [List.mem_append, List.mem_cons, List.mem_append]
  constructor
  · rintro (h | h | h)
    · exact .inr (.inl h)
    · exact .inl h
    · exact .inr (.inr h)
  · rintro (h | h | h)
    · exact .inr (.inl h)
    · exact .inl h
    · exact .inr (.inr h)
theorem srt_mid {F1 F2 : List RF} {y : RF} : (F1 ++ y :: F2).Pairwise (fun a b => lt8 a.name b.name) ↔ (F1 ++ F2).Pairwise (fun a b => lt8 a.name b.name) ∧ (∀ f ∈ F1, lt8 f.name y.name) ∧ (∀ f ∈ F2, lt8 y.name f.name) := by
  rw [List.pairwise_append, List.pairwise_append, List.pairwise_cons]
  constructor
  · rintro ⟨h1, ⟨h2, h3⟩, h4⟩
    exact ⟨⟨h1, h3, fun a ha b hb => h4 a ha b (List.mem_cons_of_mem _ hb)⟩, fun f hf => h4 f hf y List.mem_cons_self, h2⟩
  · rintro ⟨⟨h1, h3, h4⟩, h5, h2⟩
    refine ⟨h1, ⟨h2, h3⟩, fun a ha b hb => ?_⟩
    rcases List.mem_cons.1 hb with rfl | hb
    · exact h5 a ha
    · exact h4 a ha b hb
theorem mid_ne {F1 F2 : List RF} {y : RF} (h : (F1 ++ y :: F2).Pairwise (fun a b => lt8 a.name b.name)) : ∀ f ∈ F1 ++ F2, f.name ≠ y.name := by
  intro f hf e
  have h2 := (srt_mid.1 h).2
  rcases List.mem_append.1 hf with hf | hf
  · have := h2.1 f hf
    rw [e] at this
    exact lt8_irr _ this
  · have := h2.2 f hf
    rw [e] at this
    exact lt8_irr _ this
theorem Sim.setM {m : FM} {F1 F2 : List RF} {f : RF} (h : Sim m (F1 ++ f :: F2)) (g : Fi) : Sim (mput m f.name g) (F1 ++ rf f.name g :: F2) := by
  have hne := mid_ne h.srt
  have hs := srt_mid.1 h.srt
  refine ⟨srt_mid.2 ⟨hs.1, hs.2.1, hs.2.2⟩, fun x hx => ?_, fun nm g' hg' => ?_⟩
  · rcases mem_mid.1 hx with rfl | hx
    · exact ⟨g, by rw [mget_put, if_pos (show f.name = (rf f.name g).name from rfl)], rfl⟩
    · obtain ⟨g1, h3, h4⟩ := h.fwd x (mem_mid.2 (.inr hx))
      exact ⟨g1, by rw [mget_put, if_neg (fun e => hne x hx e.symm)]; exact h3, h4⟩
  · rw [mget_put] at hg'
    split at hg'
    · rename_i e
      injection hg' with hg'
      subst hg'
      rw [← e]
      exact mem_mid.2 (.inl rfl)
    · rename_i hn
      rcases mem_mid.1 (h.bwd _ _ hg') with e | hx
      · exact absurd (congrArg RF.name e).symm hn
      · exact mem_mid.2 (.inr hx)
theorem Sim.delM {m : FM} {F1 F2 : List RF} {f : RF} (h : Sim m (F1 ++ f :: F2)) (hk : (keysOf m).Nodup) : Sim (mdel m f.name) (F1 ++ F2) := by
  have hne := mid_ne h.srt
  refine ⟨(srt_mid.1 h.srt).1, fun x hx => ?_, fun nm g' hg' => ?_⟩
  · obtain ⟨g1, h3, h4⟩ := h.fwd x (mem_mid.2 (.inr hx))
    exact ⟨g1, by rw [mget_del _ _ _ hk, if_neg (fun e => hne x hx e.symm)]; exact h3, h4⟩
  · rw [mget_del _ _ _ hk] at hg'
    split at hg'
    · cases hg'
    · rename_i hn
      rcases mem_mid.1 (h.bwd _ _ hg') with e | hx
      · exact absurd (congrArg RF.name e).symm hn
      · exact hx
theorem Sim.del {m : FM} {F : List RF} (h : Sim m F) (hk : (keysOf m).Nodup) {name : ByteArray} (hr : rfind F name < F.length) : Sim (mdel m name) (F.take (rfind F name) ++ F.drop (rfind F name + 1)) := by
  obtain ⟨_, h2⟩ := rfind_some hr
  have hg : F.getD (rfind F name) default = F[rfind F name] := by rw [List.getD_eq_getElem?_getD, List.getElem?_eq_getElem hr, Option.getD_some]
  rw [hg] at h2
  have e : F = F.take (rfind F name) ++ F[rfind F name] :: F.drop (rfind F name + 1) := by rw [← List.drop_eq_getElem_cons hr, List.take_append_drop]
  have h3 : Sim m (F.take (rfind F name) ++ F[rfind F name] :: F.drop (rfind F name + 1)) := by rw [← e]; exact h
  have h4 := h3.delM hk
  rwa [h2] at h4
theorem Sim.ins {m : FM} {F : List RF} (h : Sim m F) {name : ByteArray} (hr : ¬ rfind F name < F.length) (g : Fi) : Sim (mput m name g) (F.take (rat F name) ++ rf name g :: F.drop (rat F name)) := by
  have hno := rfind_no hr
  have hsrt : (F.take (rat F name) ++ rf name g :: F.drop (rat F name)).Pairwise (fun a b => lt8 a.name b.name) := by
    refine srt_mid.2 ⟨by rw [List.take_append_drop]; exact h.srt, fun f hf => ?_, fun f hf => ?_⟩
    · obtain ⟨j, hj, rfl⟩ := List.getElem_of_mem hf
      rw [List.length_take] at hj
      have hj1 : j < rat F name := by omega
      have h1 := List.not_of_lt_findIdx (p := fun f : RF => !Op.bytesLess f.name.toList name.toList) (xs := F) (i := j) hj1
      rw [List.getElem_take]
      show lt8 _ name
      rw [← less_iff]
      simpa using h1
    · have hlt : rat F name < F.length := by
        rcases Nat.lt_or_ge (rat F name) F.length with hl | hl
        · exact hl
        · rw [List.drop_of_length_le hl] at hf
          cases hf
      have h3 : List.findIdx (fun f => !Op.bytesLess f.name.toList name.toList) F < F.length := hlt
      have h4 := List.findIdx_getElem (w := h3)
      have h6 : lt8 name F[rat F name].name := by
        refine lt8_tot (fun hh => ?_) (hno _ (List.getElem_mem _))
        rw [← less_iff] at hh
        have : (!Op.bytesLess F[rat F name].name.toList name.toList) = true := h4
        rw [hh] at this
        cases this
      show lt8 name f.name
      rw [List.drop_eq_getElem_cons hlt] at hf
      rcases List.mem_cons.1 hf with rfl | hf
      · exact h6
      · obtain ⟨j, hj, rfl⟩ := List.getElem_of_mem hf
        rw [List.length_drop] at hj
        rw [List.getElem_drop]
        exact lt8_trans h6 (List.pairwise_iff_getElem.1 h.srt _ _ hlt (by omega) (by omega))
  refine ⟨hsrt, fun x hx => ?_, fun nm g' hg' => ?_⟩
  · rcases mem_mid.1 hx with rfl | hx
    · exact ⟨g, by rw [mget_put, if_pos (show name = (rf name g).name from rfl)], rfl⟩
    · rw [List.take_append_drop] at hx
      obtain ⟨g1, h3, h4⟩ := h.fwd x hx
      exact ⟨g1, by rw [mget_put, if_neg (fun e => hno x hx e.symm)]; exact h3, h4⟩
  · rw [mget_put] at hg'
    split at hg'
    · rename_i e
      injection hg' with hg'
      subst hg'
      rw [← e]
      exact mem_mid.2 (.inl rfl)
    · refine mem_mid.2 (.inr ?_)
      rw [List.take_append_drop]
      exact h.bwd _ _ hg'
/-- what is put -/
theorem Sim.put {m : FM} {F : List RF} (h : Sim m F) {name : ByteArray} {A : Option Addr} {c : Nat} {xs : List Int} {safe : Nat} (hf : (mget m name).getD fi0 = ⟨A, c, xs, safe⟩) (zs : List Int) {m' : FM} {L L' : List (Option Addr × List Int)} (ha : AppTo name xs safe zs m L m' L') : Sim m' (rputF F name (b8 zs)) := by
  rcases ha with ⟨rfl, rfl, rfl⟩ | ⟨hne, A', c', hc, rfl, rfl⟩
  · unfold rputF
    rw [if_pos (by rw [b8_size]; rfl)]
    exact h
  · have hz : ¬ (b8 zs).size = 0 := by rw [b8_size]; exact fun e => hne (List.length_eq_zero_iff.1 e)
    unfold rputF
    rw [if_neg hz]
    rcases h.get name with ⟨g, hg, hr, e⟩ | ⟨hg, hr⟩
    · rw [if_pos hr, e]
      rw [hg, Option.getD_some] at hf
      subst hf
      have := h.set hr ⟨A', c', xs ++ zs, safe⟩
      unfold rf at this
      rw [b8_app] at this
      exact this
    · rw [if_neg hr]
      rw [hg, Option.getD_none] at hf
      unfold fi0 at hf
      injection hf with h1 h2 h3 h4
      subst h3 h4
      exact h.ins hr ⟨A', c', [] ++ zs, 0⟩
theorem Sim.sync {m : FM} {F : List RF} (h : Sim m F) (name : ByteArray) (off : Bool) : Sim (syncM off m name (mget m name)) (rsyncF F name off) := by
  unfold syncM rsyncF
  cases off with
  | true => exact h
  | false =>
    rw [if_neg (by decide), if_neg (by decide)]
    rcases h.get name with ⟨g, hg, hr, e⟩ | ⟨hg, hr⟩
    · rw [if_pos hr, e, hg]
      have := h.set hr { g with safe := g.xs.length }
      unfold rf at this ⊢
      simp only at this ⊢
      rw [b8_size]
      exact this
    · rw [if_neg hr, hg]
      exact h
theorem Sim.rem {m : FM} {F : List RF} (h : Sim m F) (hk : (keysOf m).Nodup) (name : ByteArray) (off : Bool) : Sim (remM off m name (mget m name)) (rremF F name off) := by
  unfold remM rremF
  cases off with
  | true => exact h
  | false =>
    rw [if_neg (by decide), if_neg (by decide)]
    rcases h.get name with ⟨g, hg, hr, e⟩ | ⟨hg, hr⟩
    · rw [if_pos hr, hg]
      exact h.del hk hr
    · rw [if_neg hr, hg]
      exact h
theorem Sim.findE {m : FM} {F : List RF} (h : Sim m F) (name : ByteArray) (off : Bool) : findE off (mget m name) = rreadE F name off := by
  unfold Dk.findE rreadE
  cases off with
  | true => rfl
  | false =>
    simp only [Bool.false_eq_true, if_false]
    rcases h.get name with ⟨g, hg, hr, e⟩ | ⟨hg, hr⟩
    · rw [if_pos hr, hg]; rfl
    · rw [if_neg hr, hg]; rfl
theorem Sim.findF {m : FM} {F : List RF} (h : Sim m F) (name : ByteArray) (off : Bool) : b8 (findF off (mget m name)).xs = rreadB F name off := by
  unfold Dk.findF rreadB
  cases off with
  | true => rfl
  | false =>
    simp only [Bool.false_eq_true, if_false]
    rcases h.get name with ⟨g, hg, hr, e⟩ | ⟨hg, hr⟩
    · rw [e, hg]; rfl
    · rw [hg, List.getD_eq_getElem?_getD, List.getElem?_eq_none (by omega)]; rfl
theorem kept_eq (ks : List Int) {z : Int} (hz : 0 < z) : kept ks z = rkept ks z := by
  unfold kept rkept
  cases ks with
  | nil => rfl
  | cons k ks => simp only; omega
theorem crash_rf (nm : ByteArray) (g : Fi) (ks : List Int) : rcrashF (rf nm g) ks = rf nm (crashF g ks) ∧ rcrashK (rf nm g) ks = crashK g ks := by
  have hsz : (rf nm g).b.size = g.xs.length := b8_size g.xs
  constructor
  · unfold rcrashF crashF
    rw [hsz]
    show (if (g.safe : Int) < (g.xs.length : Int) then _ else _) = _
    by_cases hlt : g.safe < g.xs.length
    · have hl2 : (g.safe : Int) < (g.xs.length : Int) := by omega
      rw [if_pos hl2, if_pos hlt, kept_eq ks (by omega)]
      have hb := rkept_le (ks := ks) (show (0 : Int) < (g.xs.length : Int) - g.safe by omega)
      obtain ⟨q, hq⟩ := Int.eq_ofNat_of_zero_le hb.1
      show RF.mk nm ((b8 g.xs).extract 0 ((g.safe : Int) + rkept ks ((g.xs.length : Int) - g.safe)).toNat) ((((b8 g.xs).extract 0 ((g.safe : Int) + rkept ks ((g.xs.length : Int) - g.safe)).toNat).size : Nat) : Int) = RF.mk nm (b8 (g.xs.take (g.safe + (rkept ks ((g.xs.length : Int) - g.safe)).toNat))) ((g.safe + (rkept ks ((g.xs.length : Int) - g.safe)).toNat : Nat) : Int)
      have hq2 := hb.2
      rw [hq] at hq2 ⊢
      have e : ((g.safe : Int) + (q : Int)).toNat = g.safe + (q : Int).toNat := by omega
      rw [e, b8_take]
      have e2 : ((b8 g.xs).extract 0 (g.safe + (q : Int).toNat)).size = g.safe + (q : Int).toNat := by
        rw [ByteArray.size_extract, b8_size]
        omega
      rw [e2]
    · have hl2 : ¬ (g.safe : Int) < (g.xs.length : Int) := by omega
      rw [if_neg hl2, if_neg hlt]
  · unfold rcrashK crashK
    rw [hsz]
    show (if (g.safe : Int) < (g.xs.length : Int) then _ else _) = _
    by_cases hlt : g.safe < g.xs.length
    · rw [if_pos (by omega), if_pos hlt]
    · rw [if_neg (by omega), if_neg hlt]
theorem nodup_putF {m : FM} {name : ByteArray} {f : Fi} (h : (keysOf m).Nodup) : (keysOf (mput m name f)).Nodup := by
  rw [keys_put]
  split
  · exact h
  · rename_i hn
    exact List.nodup_append.2 ⟨h, by simp, fun a ha b hb e => hn (by rw [List.mem_singleton] at hb; rw [← hb, ← e]; exact ha)⟩
theorem Sim.crash : ∀ (F2 : List RF) (m : FM) (F1 : List RF) (ks : List Int), Sim m (F1 ++ F2) → (keysOf m).Nodup → Sim (crashM (F2.map (·.name)) m ks) (F1 ++ rcrashL F2 ks)
  | [], m, F1, ks, h, hk => h
  | f :: F2, m, F1, ks, h, hk => by
    obtain ⟨g, hg, e⟩ := h.fwd f (mem_mid.2 (.inl rfl))
    have hcr := crash_rf f.name g ks
    rw [← e] at hcr
    rw [List.map_cons, crashM, hg, Option.getD_some, rcrashL, hcr.1, hcr.2]
    have hz : (rf f.name (crashF g ks)).b.size = (crashF g ks).xs.length := b8_size _
    unfold crash1
    rw [hz]
    by_cases h0 : (crashF g ks).xs.length = 0
    · rw [if_pos h0, if_pos h0]
      have h1 := (h.setM (crashF g ks)).delM (nodup_putF hk)
      exact Sim.crash F2 _ F1 _ h1 (nodup_del _ (nodup_putF hk))
    · rw [if_neg h0, if_neg h0]
      have h1 := h.setM (crashF g ks)
      have h2 : Sim (mput m f.name (crashF g ks)) ((F1 ++ [rf f.name (crashF g ks)]) ++ F2) := by rw [List.append_assoc]; exact h1
      have h3 := Sim.crash F2 _ _ (crashK g ks) h2 (nodup_putF hk)
      rw [List.append_assoc] at h3
      exact h3
theorem Sim.crashA {m : FM} {F : List RF} (h : Sim m F) (hk : KeysOk m) (ks : List Int) : Sim (crashM (namesOf m) m ks) (rcrashL F ks) := by
  rw [h.names hk]
  exact Sim.crash F m [] ks h hk.nd
end Go.Proofs.YtgcgnhcjjlnloaaDoor.Dk
