/- Lemmas towards the law: what of the text Dk3 it needs. -/
import Derived.Test.YtgcgnhcjjlnloaaDoorDk2q
namespace Go.Proofs.YtgcgnhcjjlnloaaDoor.Dk
open Go.RowKit Go.Proofs.YtgcgnhcjjlnloaaDoorW.PrintWords Go.Proofs.YtgcgnhcjjlnloaaDoor.Sl Go.Maps Go.Sort Go.Shelf Go.WideElems Go.WideShapes
set_option linter.unusedVariables false
set_option linter.unusedSimpArgs false
theorem sorts_at (m : Nat) : AnyZ.SortsIn Tryd.prog Tryd.sortedL_ren Fence.wide m :=
  ⟨fun blk off cap ss W hH hblk hsz => callsIn_wide.2 (AnyM.slices_Sort_string Tryd.sortL blk off cap ss W hH hblk hsz),
   fun p cap W => callsIn_wide.2 (AnyM.slices_Sort_string_none Tryd.sortL p cap W)⟩
theorem keys_call (mb : Option Nat) (W : World) : Calls Tryd.prog 33 #[.map mb] W fun e w' => e = .returned (.func (.func 44) #[] #[.pointer (some ⟨W.heap.size, 0, none⟩)]) ∧ w' = W.alloc (.cells #[.map mb] 50) :=
  (callsIn_wide (n := 5)).1 (AnyZ.keys_in Tryd.keysL Fence.wide 5 trivial rfl mb W)
def Rn (_ : Value) : Option (DataW Unit × List MemPlace) := some (.nil, [])
set_option maxHeartbeats 1000000 in
theorem sorted_call (b nn : Nat) (D0 : DataW Unit) (w : World) (hown : w.ownsMap Tryd.prog 9 Rn b nn D0) (hmax : Maps.size D0 ≤ maxLen) (hbytes : Maps.size D0 * 16 ≤ 140737488355328) :
    Calls Tryd.prog 32 #[.func (.func 44) #[] #[.pointer (some ⟨w.heap.size, 0, none⟩)]] (w.alloc (.cells #[.map (some b)] 50)) fun e w' => ∃ (v : Value) (ss : List (List UInt8)), e = .returned v ∧ ss.Perm (strKeys D0) ∧
      w'.ownsRow (w.alloc (.cells #[.map (some b)] 50)).heap.size 9 1 v ss.length ((ss.mergeSort (fun x y => decide (x ≤ y))).map encStr) ∧ (v = .slice none 0 0 ↔ ss = []) ∧ Below (w.alloc (.cells #[.map (some b)] 50)).heap.size (w.alloc (.cells #[.map (some b)] 50)) w' := by
  refine (callsIn_wide (n := 5)).1 ?_
  have hbl := hown.lt
  have hseq : SeqGives Fence.wide 2 Tryd.prog 44 #[.pointer (some ⟨w.heap.size, 0, none⟩)] encStr (fun ss => ss.Perm (strKeys D0)) (Maps.size D0) (w.alloc (.cells #[.map (some b)] 50)) :=
    AnyZ.keys_gives (ρ := Tryd.keysL_ren) { Tryd.keysL with } Fence.wide _ trivial rfl (by omega) w.heap.size b nn D0 _ (by simp) (by simp) (by
      obtain ⟨es, clock, hb, Ft, hs, hD⟩ := hown
      exact ⟨es, clock, (Below.heap_alloc _ _ b hbl).trans hb, Ft, hs, hD⟩)
  exact AnyZ.sorted_in Tryd.sortedL Fence.wide 5 trivial trivial trivial trivial rfl (by omega) (sorts_at _) (enters_of Tryd.func43 (by kernel_rfl) rfl) 44 #[.pointer (some ⟨w.heap.size, 0, none⟩)] trivial (enters_of Tryd.func44 (by kernel_rfl) rfl) _ _ hmax hbytes _ hseq
/-- what the keys of a map are, in order -/
def keyL (m : FM) : List (List UInt8) := m.map (fun p => p.1.data.toList)
def namesOf (m : FM) : List ByteArray := ((keyL m).mergeSort leB).map (fun l => ⟨l.toArray⟩)
structure KeysOk (m : FM) : Prop where
  nd : (m.map (·.1)).Nodup
  small : ∀ p ∈ m, p.1.size ≤ maxLen
  len : m.length ≤ 1000
def keyBytesOf : Value → List UInt8
  | .string s => s.data.toList
  | _ => []
theorem owns_of {w : World} {g : Nat} {m : FM} (h : (mpF g m).ok w) (hm : KeysOk m) : ∃ D : DataW Unit, w.ownsMap Tryd.prog 9 Rn g m.length D ∧ Maps.size D = m.length ∧ (strKeys D).Perm (keyL m) := by
  obtain ⟨es, clock, hh, hp, _, hb, hnd⟩ := h
  have hpk : es.toList.map (·.key) = m.map (fun p => strV p.1) := by
    have := congrArg (List.map Prod.fst) hp
    unfold pairs encP at this
    rw [List.map_map, List.map_map] at this
    exact this
  have hlen : es.toList.length = m.length := by
    have := congrArg List.length hpk
    simpa using this
  have hkey : ∀ x ∈ es.toList, ∃ p ∈ m, x.key = strV p.1 := fun x hx => by
    have : x.key ∈ es.toList.map (·.key) := List.mem_map.2 ⟨x, hx, rfl⟩
    rw [hpk] at this
    obtain ⟨p, hp, e⟩ := List.mem_map.1 this
    exact ⟨p, hp, e.symm⟩
  have hko : ∀ p ∈ m, keyOf Tryd.prog 9 (strV p.1) = some (.string p.1.data.toList) := fun p hp => by
    unfold keyOf
    rw [Tryd.underlying9]
    simp [strV, mapKey, Tryd.underlying9, hm.small p hp]
  have hrd : ∀ x ∈ es.toList, ∀ p ∈ m, x.key = strV p.1 → rd Tryd.prog 9 Rn x = some (.string p.1.data.toList, .nil) := fun x hx p hp e => by
    have := hko p hp
    rw [← e] at this
    obtain ⟨k, v, bn⟩ := x
    exact rd_mk (R := Rn) (yv := (.nil, [])) this rfl
  refine ⟨_, ⟨es, clock, hh, ⟨by rw [← Array.length_toList, hlen]; have := hm.len; unfold maxLen; omega, ⟨hb, hnd, ?_⟩, fun x hx => ?_⟩, by rw [← Array.length_toList, hlen]; exact Nat.le_refl _, rfl⟩, ?_, ?_⟩
  · rw [hpk]
    have : (m.map (fun p => strV p.1)) = (m.map (·.1)).map strV := by rw [List.map_map]; rfl
    rw [this]
    exact List.pairwise_map.2 (hm.nd.imp (fun {a b} hab e => hab (by unfold strV at e; injection e)))
  · obtain ⟨p, hp, e⟩ := hkey x hx
    exact ⟨_, hrd x hx p hp e⟩
  · show ((es.toList.map _).foldr DataW.insert []).length = _
    rw [(sorted_perm _).length_eq, List.length_map, hlen]
  · have hG : ∀ x ∈ es.toList, strOf (rg Tryd.prog 9 Rn x).1 = keyBytesOf x.key := fun x hx => by
      obtain ⟨p, hp, e⟩ := hkey x hx
      rw [rg_of (hrd x hx p hp e), e]
      rfl
    obtain ⟨G, hGe⟩ : ∃ G, rg Tryd.prog 9 Rn = G := ⟨_, rfl⟩
    rw [hGe] at hG ⊢
    show (((es.toList.map G).foldr DataW.insert []).map fun p => strOf p.1).Perm _
    refine ((sorted_perm _).map _).trans ?_
    rw [List.map_map]
    refine List.Perm.of_eq ((List.map_congr_left (g := fun x => keyBytesOf x.key) fun x hx => hG x hx).trans ?_)
    have e2 : es.toList.map (fun x => keyBytesOf x.key) = (es.toList.map (·.key)).map keyBytesOf := by rw [List.map_map]; rfl
    rw [e2, hpk, List.map_map]
    rfl
end Go.Proofs.YtgcgnhcjjlnloaaDoor.Dk
