/- Lemmas towards the law: what of the text DkP1 it needs. -/
import Derived.Test.YtgcgnhcjjlnloaaDoorDkYq
import Derived.Test.YtgcgnhcjjlnloaaDoorDkEq
namespace Go.Proofs.YtgcgnhcjjlnloaaDoor.Dk
open Go.RowKit Go.Proofs.YtgcgnhcjjlnloaaDoorW.PrintWords Go.Proofs.YtgcgnhcjjlnloaaDoor.Sl Go.Maps Go.Sort
set_option linter.unusedVariables false
set_option linter.unusedSimpArgs false
def b8 (xs : List Int) : ByteArray := bs (xs.map fun n => UInt8.ofNat n.toNat)
theorem b8_size (xs : List Int) : (b8 xs).size = xs.length := by
  unfold b8 bs
  show (List.toArray _).size = _
  simp
theorem b8_app (xs ys : List Int) : b8 (xs ++ ys) = b8 xs ++ b8 ys := by
  apply ByteArray.ext
  rw [ByteArray.data_append]
  unfold b8 bs
  simp
theorem b8_take (xs : List Int) (k : Nat) : b8 (xs.take k) = (b8 xs).extract 0 k := by
  apply ByteArray.ext
  rw [ByteArray.data_extract]
  unfold b8 bs
  simp [List.map_take]
theorem b8_bi (b : ByteArray) : b8 (bi b) = b := by
  apply ByteArray.ext
  unfold b8 bs bi
  rw [List.map_map]
  show (List.map _ _).toArray = b.data
  have : b.data.toList.map ((fun n : Int => UInt8.ofNat n.toNat) ∘ fun b => (b.toNat : Int)) = b.data.toList := by
    conv => rhs; rw [← List.map_id b.data.toList]
    apply List.map_congr_left
    intro x _
    simp
  rw [this]
/-- a file as the document has it -/
def rf (name : ByteArray) (f : Fi) : RF := ⟨name, b8 f.xs, f.safe⟩
def lt8 (a b : ByteArray) : Prop := a.data.toList < b.data.toList
theorem less_iff (a b : ByteArray) : Op.bytesLess a.toList b.toList = true ↔ lt8 a b := by
  rw [bytesLess_eq, ByteArray.toList_eq, ByteArray.toList_eq, decide_eq_true_eq]
  exact Iff.rfl
theorem lt8_trans {a b c : ByteArray} (h : lt8 a b) (k : lt8 b c) : lt8 a c := List.lt_trans h k
theorem lt8_irr (a : ByteArray) : ¬ lt8 a a := List.lt_irrefl _
theorem ext8 {a b : ByteArray} (h : a.data.toList = b.data.toList) : a = b := ByteArray.ext (Array.ext' h)
theorem lt8_tot {a b : ByteArray} (h : ¬ lt8 a b) (hn : a ≠ b) : lt8 b a := Std.lt_of_le_of_ne h (fun e => hn (ext8 e.symm))
/-- the two are alike -/
structure Sim (m : FM) (F : List RF) : Prop where
  srt : F.Pairwise (fun a b => lt8 a.name b.name)
  fwd : ∀ f ∈ F, ∃ g, mget m f.name = some g ∧ f = rf f.name g
  bwd : ∀ name g, mget m name = some g → rf name g ∈ F
theorem Sim.names {m : FM} {F : List RF} (h : Sim m F) (hk : KeysOk m) : namesOf m = F.map (·.name) := by
  unfold namesOf
  have hnd1 : (F.map (fun f => f.name.data.toList)).Nodup := by
    unfold List.Nodup
    rw [List.pairwise_map]
    exact h.srt.imp (fun {a b} hab e => by unfold lt8 at hab; rw [e] at hab; exact List.lt_irrefl _ hab)
  have hnd2 : (keyL m).Nodup := by
    unfold keyL List.Nodup
    rw [List.pairwise_map]
    have := hk.nd
    unfold List.Nodup at this
    rw [List.pairwise_map] at this
    exact this.imp (fun {a b} hab e => hab (ext8 e))
  have hperm : (keyL m).Perm (F.map (fun f => f.name.data.toList)) := by
    refine (List.perm_ext_iff_of_nodup hnd2 hnd1).2 fun a => ⟨fun ha => ?_, fun ha => ?_⟩
    · unfold keyL at ha
      obtain ⟨p, hp, rfl⟩ := List.mem_map.1 ha
      have : ∃ g, mget m p.1 = some g := by
        cases hq : mget m p.1 with
        | some g => exact ⟨g, rfl⟩
        | none =>
          unfold mget at hq
          rw [Option.map_eq_none_iff] at hq
          have h5 := List.find?_eq_none.1 hq p hp
          simp at h5
      obtain ⟨g, hg⟩ := this
      exact List.mem_map.2 ⟨_, h.bwd _ _ hg, rfl⟩
    · obtain ⟨f, hf, rfl⟩ := List.mem_map.1 ha
      obtain ⟨g, hg, _⟩ := h.fwd f hf
      unfold keyL
      exact List.mem_map.2 ⟨_, mget_mem hg, rfl⟩
  rw [mergeSort_of_perm hperm, List.mergeSort_of_pairwise]
  · rw [List.map_map]
    apply List.map_congr_left
    intro f _
    show ByteArray.mk (f.name.data.toList.toArray) = f.name
    simp
  · rw [List.pairwise_map]
    exact h.srt.imp (fun {a b} hab => by
      unfold leB
      rw [decide_eq_true_eq]
      exact List.le_of_lt hab)
theorem Sim.len {m : FM} {F : List RF} (h : Sim m F) (hk : KeysOk m) : m.length = F.length := by
  have h1 := congrArg List.length (h.names hk)
  unfold namesOf keyL at h1
  rw [List.length_map, List.length_mergeSort, List.length_map, List.length_map] at h1
  exact h1
theorem rfind_some {F : List RF} {name : ByteArray} (h : rfind F name < F.length) : F.getD (rfind F name) default ∈ F ∧ (F.getD (rfind F name) default).name = name := by
  rw [List.getD_eq_getElem?_getD, List.getElem?_eq_getElem h, Option.getD_some]
  refine ⟨List.getElem_mem _, ?_⟩
  have h3 : List.findIdx (fun f => decide (f.name = name)) F < F.length := h
  exact of_decide_eq_true (List.findIdx_getElem (w := h3))
theorem rfind_no {F : List RF} {name : ByteArray} (h : ¬ rfind F name < F.length) : ∀ f ∈ F, f.name ≠ name := by
  intro f hf e
  apply h
  exact List.findIdx_lt_length_of_exists ⟨f, hf, by simp [e]⟩
theorem Sim.get {m : FM} {F : List RF} (h : Sim m F) (name : ByteArray) : (∃ g, mget m name = some g ∧ rfind F name < F.length ∧ F.getD (rfind F name) default = rf name g) ∨ (mget m name = none ∧ ¬ rfind F name < F.length) := by
  by_cases hr : rfind F name < F.length
  · obtain ⟨h1, h2⟩ := rfind_some hr
    obtain ⟨g, hg, e⟩ := h.fwd _ h1
    rw [h2] at hg e
    exact .inl ⟨g, hg, hr, e⟩
  · right
    refine ⟨?_, hr⟩
    cases hg : mget m name with
    | none => rfl
    | some g => exact absurd rfl (rfind_no hr _ (h.bwd _ _ hg))
theorem mem_set_of {F : List RF} (h : F.Pairwise (fun a b => lt8 a.name b.name)) {i : Nat} (hi : i < F.length) (y : RF) (hy : y.name = F[i].name) (f : RF) : f ∈ F.set i y ↔ f = y ∨ (f ∈ F ∧ f.name ≠ y.name) := by
  constructor
  · intro hf
    obtain ⟨j, hj, e⟩ := List.getElem_of_mem hf
    rw [List.getElem_set] at e
    split at e
    · exact .inl e.symm
    · rename_i hne
      right
      rw [List.length_set] at hj
      refine ⟨e ▸ List.getElem_mem hj, fun e2 => ?_⟩
      rw [← e, hy] at e2
      rcases Nat.lt_or_gt_of_ne hne with hlt | hlt
      · have := List.pairwise_iff_getElem.1 h i j hi hj hlt
        rw [e2] at this
        exact lt8_irr _ this
      · have := List.pairwise_iff_getElem.1 h j i hj hi hlt
        rw [e2] at this
        exact lt8_irr _ this
  · rintro (rfl | ⟨hf, hne⟩)
    · exact List.mem_set hi f
    · obtain ⟨j, hj, rfl⟩ := List.getElem_of_mem hf
      have hij : ¬ i = j := fun e => hne (by subst e; exact hy.symm)
      have : (F.set i y)[j]'(by rw [List.length_set]; exact hj) = F[j] := by rw [List.getElem_set, if_neg hij]
      rw [← this]
      exact List.getElem_mem _
theorem srt_set {F : List RF} (h : F.Pairwise (fun a b => lt8 a.name b.name)) {i : Nat} (hi : i < F.length) (y : RF) (hy : y.name = F[i].name) : (F.set i y).Pairwise (fun a b => lt8 a.name b.name) := by
  have e : (F.set i y).map (·.name) = F.map (·.name) := by
    rw [List.map_set, hy]
    apply List.ext_getElem
    · simp
    · intro j h1 h2
      rw [List.getElem_set]
      split
      · rename_i e; subst e; simp
      · rfl
  have : (F.map (·.name)).Pairwise lt8 := List.pairwise_map.2 h
  rw [← e] at this
  exact List.pairwise_map.1 this
/-- one file's row is another's -/
theorem Sim.set {m : FM} {F : List RF} (h : Sim m F) {name : ByteArray} (hr : rfind F name < F.length) (g : Fi) : Sim (mput m name g) (F.set (rfind F name) (rf name g)) := by
  obtain ⟨h1, h2⟩ := rfind_some hr
  have hg : F.getD (rfind F name) default = F[rfind F name] := by rw [List.getD_eq_getElem?_getD, List.getElem?_eq_getElem hr, Option.getD_some]
  have hy : (rf name g).name = F[rfind F name].name := by rw [← hg, h2]; rfl
  refine ⟨srt_set h.srt hr _ hy, fun f hf => ?_, fun nm g' hg' => ?_⟩
  · rcases (mem_set_of h.srt hr _ hy f).1 hf with rfl | ⟨hf, hne⟩
    · exact ⟨g, by rw [mget_put, if_pos (show name = (rf name g).name from rfl)], rfl⟩
    · obtain ⟨g1, h3, h4⟩ := h.fwd f hf
      exact ⟨g1, by rw [mget_put, if_neg (fun e => hne e.symm)]; exact h3, h4⟩
  · rw [mget_put] at hg'
    refine (mem_set_of h.srt hr _ hy _).2 ?_
    split at hg'
    · rename_i e
      subst e
      injection hg' with hg'
      subst hg'
      exact .inl rfl
    · rename_i hne
      exact .inr ⟨h.bwd _ _ hg', fun e => hne e.symm⟩
end Go.Proofs.YtgcgnhcjjlnloaaDoor.Dk
