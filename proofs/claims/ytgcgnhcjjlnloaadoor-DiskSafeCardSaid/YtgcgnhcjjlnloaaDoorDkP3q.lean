/- Lemmas towards the law: what of the text DkP3 it needs. -/
import Derived.Test.YtgcgnhcjjlnloaaDoorDkP2q
namespace Go.Proofs.YtgcgnhcjjlnloaaDoor.Dk
open Go.RowKit Go.Proofs.YtgcgnhcjjlnloaaDoorW.PrintWords Go.Proofs.YtgcgnhcjjlnloaaDoor.Sl Go.Maps Go.Sort
set_option linter.unusedVariables false
set_option linter.unusedSimpArgs false
structure DOk (Bd : Nat) (left : Int) (armed : Bool) (m : FM) (L : List (Option Addr × List Int)) : Prop where
  nd : (keysOf m).Nodup
  small : ∀ p ∈ m, p.1.size ≤ maxLen
  len : m.length ≤ 64
  ok : MOk Bd m L
  lf : armed = true → 0 ≤ left ∧ left ≤ 9223372036854775807
theorem DOk.keys {Bd : Nat} {left : Int} {armed : Bool} {m : FM} {L : List (Option Addr × List Int)} (h : DOk Bd left armed m L) : KeysOk m := ⟨h.nd, h.small, Nat.le_trans h.len (by omega)⟩
structure XOk (Bd : Nat) (x : RDk) : Prop where
  len : x.F.length ≤ 64
  each : ∀ f ∈ x.F, 0 ≤ f.safe ∧ f.safe ≤ f.b.size ∧ f.b.size ≤ Bd
  arm : x.arm ≤ 9223372036854775807
theorem XOk.rd {Bd : Nat} {x : RDk} (h : XOk Bd x) (hb : Bd ≤ 70368744177664) : RDOk x := ⟨Nat.le_trans h.len (by omega), fun f hf => ⟨(h.each f hf).1, (h.each f hf).2.1, Nat.le_trans (h.each f hf).2.2 hb⟩, h.arm⟩
/-- both are alike -/
structure Lk (left : Int) (armed off : Bool) (m : FM) (x : RDk) : Prop where
  sim : Sim m x.F
  off : x.off = off
  arm : x.arm = if armed then left else -1
theorem maxLen_12 {s : ByteArray} (h : isName s = true) : s.size ≤ maxLen := by
  rw [isName_eq, Bool.and_eq_true, Bool.and_eq_true, decide_eq_true_eq, decide_eq_true_eq] at h
  unfold maxLen
  have := h.1.2
  omega
theorem mput_len (m : FM) (name : ByteArray) (f : Fi) : (mput m name f).length = if (mget m name).isSome then m.length else m.length + 1 := by
  have h1 := congrArg List.length (keys_put m name f)
  have e1 : (keysOf (mput m name f)).length = (mput m name f).length := by unfold keysOf; rw [List.length_map]
  have e2 : (keysOf m).length = m.length := by unfold keysOf; rw [List.length_map]
  rw [e1] at h1
  rw [h1]
  cases hg : mget m name with
  | some g =>
    have : name ∈ keysOf m := List.mem_map.2 ⟨_, mget_mem hg, rfl⟩
    rw [if_pos this, e2]
    rfl
  | none =>
    have : name ∉ keysOf m := fun hm => by
      obtain ⟨p, hp, e⟩ := List.mem_map.1 hm
      unfold mget at hg
      rw [Option.map_eq_none_iff] at hg
      have := List.find?_eq_none.1 hg p hp
      simp [e] at this
    rw [if_neg this, List.length_append, e2]
    rfl
theorem DOk.set {Bd Bd' : Nat} {left left' : Int} {armed armed' : Bool} {m : FM} {L L' : List (Option Addr × List Int)} (h : DOk Bd left armed m L) {name : ByteArray} {f : Fi} (hz : name.size ≤ maxLen) (hl : (mget m name).isSome = true ∨ m.length < 64) (hok : MOk Bd' (mput m name f) L') (hlf : armed' = true → 0 ≤ left' ∧ left' ≤ 9223372036854775807) : DOk Bd' left' armed' (mput m name f) L' := by
  refine ⟨nodup_putF h.nd, mput_keys (q := fun k : ByteArray => k.size ≤ maxLen) h.small hz, ?_, hok, hlf⟩
  rw [mput_len]
  have := h.len
  rcases hl with hl | hl
  · rw [if_pos hl]; exact this
  · split <;> omega
theorem MOk.appT2 {Bd : Nat} {m : FM} {L : List (Option Addr × List Int)} (h : MOk Bd m L) {name : ByteArray} {A : Option Addr} {c : Nat} {xs : List Int} {safe : Nat} (hf : (mget m name).getD fi0 = ⟨A, c, xs, safe⟩) {zs : List Int} {m' : FM} {L' : List (Option Addr × List Int)} (ha : AppTo name xs safe zs m L m' L') : MOk (Bd + zs.length) m' L' := by
  rcases ha with ⟨_, rfl, rfl⟩ | ⟨_, A', c', hc, rfl, rfl⟩
  · exact h.up (Nat.le_add_right _ _)
  · exact h.app hf zs hc
theorem DOk.appTo {Bd N : Nat} {left left' : Int} {armed armed' : Bool} {m : FM} {L : List (Option Addr × List Int)} (h : DOk Bd left armed m L) {name : ByteArray} {A : Option Addr} {c : Nat} {xs : List Int} {safe : Nat} (hf : (mget m name).getD fi0 = ⟨A, c, xs, safe⟩) {zs : List Int} {m' : FM} {L' : List (Option Addr × List Int)} (ha : AppTo name xs safe zs m L m' L') (hn : isName name = true) (hfu : fullM m (mget m name).isSome N = false) (hz : zs.length ≤ N) (hlf : armed' = true → 0 ≤ left' ∧ left' ≤ 9223372036854775807) : DOk (Bd + N) left' armed' m' L' := by
  have hok := (h.ok.appT2 hf ha).up (show Bd + zs.length ≤ Bd + N by omega)
  rcases ha with ⟨_, rfl, rfl⟩ | ⟨hne, A', c', hc, rfl, rfl⟩
  · exact ⟨h.nd, h.small, h.len, hok, hlf⟩
  · refine h.set (maxLen_12 hn) ?_ hok hlf
    unfold fullM at hfu
    have hN : 0 < N := by
      have : zs.length ≠ 0 := fun e => hne (List.length_eq_zero_iff.1 e)
      omega
    cases hi : (mget m name).isSome with
    | true => exact .inl rfl
    | false =>
      rw [hi, decide_eq_true hN] at hfu
      right
      have : ¬ 64 ≤ m.length := by simpa using hfu
      omega
theorem DOk.sub {Bd : Nat} {left left' : Int} {armed armed' : Bool} {m m' : FM} {L L' : List (Option Addr × List Int)} (h : DOk Bd left armed m L) (hs : m'.Sublist m) (hL : ∀ p ∈ L, p ∈ L') (hlf : armed' = true → 0 ≤ left' ∧ left' ≤ 9223372036854775807) : DOk Bd left' armed' m' L' :=
  ⟨h.nd.sublist (hs.map _), fun p hp => h.small p (hs.mem hp), Nat.le_trans hs.length_le h.len, (h.ok.sub (fun p hp => hs.mem hp)).more hL, hlf⟩
theorem crash1_keys (m : FM) (name : ByteArray) (f : Fi) (h : (mget m name).isSome = true) : (keysOf (crash1 m name f)).Sublist (keysOf m) := by
  have e : keysOf (mput m name f) = keysOf m := by
    rw [keys_put, if_pos]
    obtain ⟨g, hg⟩ := Option.isSome_iff_exists.1 h
    exact List.mem_map.2 ⟨_, mget_mem hg, rfl⟩
  unfold crash1
  split
  · have := (mdel_sub (mput m name f) name).map (·.1)
    unfold keysOf at e ⊢
    rw [e] at this
    exact this
  · rw [e]; exact List.Sublist.refl _
theorem crashM_keys : ∀ (l : List ByteArray) (m : FM) (ks : List Int), l.Nodup → (keysOf m).Nodup → (∀ n ∈ l, (mget m n).isSome = true) → (keysOf (crashM l m ks)).Sublist (keysOf m)
  | [], m, ks, _, _, _ => List.Sublist.refl _
  | name :: l, m, ks, hnd, hk, hl => by
    rw [crashM]
    obtain ⟨f', hf'⟩ : ∃ f', crashF ((mget m name).getD fi0) ks = f' := ⟨_, rfl⟩
    rw [hf']
    have h1 := crash1_keys m name f' (hl name List.mem_cons_self)
    rw [List.nodup_cons] at hnd
    refine (crashM_keys l _ _ hnd.2 (hk.sublist h1) (fun n hn => ?_)).trans h1
    have hne : ¬ name = n := fun e => hnd.1 (e ▸ hn)
    have h2 := hl n (List.mem_cons_of_mem _ hn)
    unfold crash1
    split
    · rw [mget_del _ _ _ (nodup_putF hk), if_neg hne, mget_put, if_neg hne]; exact h2
    · rw [mget_put, if_neg hne]; exact h2
theorem namesOf_mem {m : FM} {n : ByteArray} : n ∈ namesOf m ↔ n ∈ keysOf m := by
  unfold namesOf keyL keysOf
  rw [List.mem_map]
  constructor
  · rintro ⟨l, hl, rfl⟩
    rw [List.mem_mergeSort] at hl
    obtain ⟨p, hp, rfl⟩ := List.mem_map.1 hl
    exact List.mem_map.2 ⟨p, hp, by simp⟩
  · intro h
    obtain ⟨p, hp, rfl⟩ := List.mem_map.1 h
    exact ⟨p.1.data.toList, List.mem_mergeSort.2 (List.mem_map.2 ⟨p, hp, rfl⟩), by simp⟩
theorem namesOf_nodup {m : FM} (h : (keysOf m).Nodup) : (namesOf m).Nodup := by
  unfold namesOf
  have h1 : (keyL m).Nodup := by
    unfold keyL List.Nodup
    rw [List.pairwise_map]
    unfold keysOf List.Nodup at h
    rw [List.pairwise_map] at h
    exact h.imp (fun {a b} hab e => hab (ext8 e))
  have h2 : ((keyL m).mergeSort leB).Nodup := (List.mergeSort_perm (keyL m) leB).nodup_iff.2 h1
  unfold List.Nodup at h2 ⊢
  rw [List.pairwise_map]
  exact h2.imp (fun {a b} hab e => hab (by
    have := congrArg (fun x : ByteArray => x.data.toList) e
    simpa using this))
theorem key_some {m : FM} {n : ByteArray} (h : n ∈ keysOf m) : (mget m n).isSome = true := by
  cases hg : mget m n with
  | some g => rfl
  | none =>
    obtain ⟨p, hp, e⟩ := List.mem_map.1 h
    unfold mget at hg
    rw [Option.map_eq_none_iff] at hg
    have := List.find?_eq_none.1 hg p hp
    simp [e] at this
theorem DOk.crash {Bd : Nat} {left left' : Int} {armed : Bool} {m : FM} {L L' : List (Option Addr × List Int)} (h : DOk Bd left armed m L) (ks : List Int) (hok : MOk Bd (crashM (namesOf m) m ks) L') : DOk Bd left' false (crashM (namesOf m) m ks) L' := by
  have hs := crashM_keys (namesOf m) m ks (namesOf_nodup h.nd) h.nd (fun n hn => key_some (namesOf_mem.1 hn))
  refine ⟨h.nd.sublist hs, fun p hp => ?_, ?_, hok, fun h => by cases h⟩
  · have : p.1 ∈ keysOf m := hs.mem (List.mem_map.2 ⟨p, hp, rfl⟩)
    obtain ⟨q, hq, e⟩ := List.mem_map.1 this
    rw [← e]
    exact h.small q hq
  · have := hs.length_le
    unfold keysOf at this
    rw [List.length_map, List.length_map] at this
    exact Nat.le_trans this h.len
/-- the document's -/
theorem rputF_len (F : List RF) (name b : ByteArray) : (rputF F name b).length ≤ F.length + 1 ∧ (rfind F name < F.length ∨ b.size = 0 → (rputF F name b).length = F.length) := by
  unfold rputF
  split
  · exact ⟨by omega, fun _ => rfl⟩
  · rename_i hb
    split
    · rw [List.length_set]; exact ⟨by omega, fun _ => rfl⟩
    · rename_i hr
      have := rat_le F name
      refine ⟨by rw [List.length_append, List.length_cons, List.length_take, List.length_drop]; omega, fun h => ?_⟩
      rcases h with h | h
      · exact absurd h hr
      · exact absurd h hb
theorem rputF_each {F : List RF} {Bd : Nat} (name b : ByteArray) (h : ∀ f ∈ F, 0 ≤ f.safe ∧ f.safe ≤ f.b.size ∧ f.b.size ≤ Bd) : ∀ f ∈ rputF F name b, 0 ≤ f.safe ∧ f.safe ≤ f.b.size ∧ f.b.size ≤ Bd + b.size := by
  have hup : ∀ f ∈ F, 0 ≤ f.safe ∧ f.safe ≤ f.b.size ∧ f.b.size ≤ Bd + b.size := fun f hf => ⟨(h f hf).1, (h f hf).2.1, by have := (h f hf).2.2; omega⟩
  unfold rputF
  split
  · exact hup
  · split
    · rename_i hr
      intro f hf
      rcases List.mem_or_eq_of_mem_set hf with hf | rfl
      · exact hup f hf
      · have := h _ (rfind_some hr).1
        refine ⟨this.1, ?_, ?_⟩
        · show (F.getD (rfind F name) default).safe ≤ (((F.getD (rfind F name) default).b ++ b).size : Int)
          rw [ByteArray.size_append]
          omega
        · show ((F.getD (rfind F name) default).b ++ b).size ≤ _
          rw [ByteArray.size_append]
          omega
    · intro f hf
      rcases mem_mid.1 hf with rfl | hf
      · exact ⟨Int.le_refl _, by show (0 : Int) ≤ (b.size : Int); omega, by show b.size ≤ _; omega⟩
      · rw [List.take_append_drop] at hf
        exact hup f hf
theorem XOk.app {Bd : Nat} {x : RDk} (h : XOk Bd x) (name b : ByteArray) : XOk (Bd + b.size) (rappD x name b) := by
  have hup : XOk (Bd + b.size) x := ⟨h.len, fun f hf => ⟨(h.each f hf).1, (h.each f hf).2.1, by have := (h.each f hf).2.2; omega⟩, h.arm⟩
  unfold rappD
  split
  · exact hup
  · split
    · split
      · exact hup
      · rename_i hfu
        have hlen : ∀ b', (b'.size = 0 ∨ b.size ≠ 0) → (rputF x.F name b').length ≤ 64 := by
          intro b' hb'
          have h1 := rputF_len x.F name b'
          by_cases hr : rfind x.F name < x.F.length
          · rw [h1.2 (.inl hr)]; exact h.len
          · rcases hb' with hb' | hb'
            · rw [h1.2 (.inr hb')]; exact h.len
            · unfold fullR at hfu
              have h4 : ¬ 64 ≤ x.F.length := fun h4 => hfu (by
                rw [decide_eq_true (show x.F.length ≤ rfind x.F name by omega), decide_eq_true hb', decide_eq_true h4]
                rfl)
              omega
        split
        · rename_i hc
          have hsz : (b.extract 0 x.arm.toNat).size ≤ b.size := by rw [ByteArray.size_extract]; omega
          refine ⟨hlen _ (.inr (by omega)), fun f hf => ?_, by show (-1 : Int) ≤ _; omega⟩
          have := rputF_each name (b.extract 0 x.arm.toNat) h.each f hf
          exact ⟨this.1, this.2.1, by omega⟩
        · refine ⟨hlen b ?_, rputF_each name b h.each, ?_⟩
          · by_cases h0 : b.size = 0
            · exact .inl h0
            · exact .inr h0
          · have := h.arm
            show (if 0 ≤ x.arm then x.arm - b.size else x.arm) ≤ _
            split <;> omega
    · exact hup
theorem XOk.sync {Bd : Nat} {x : RDk} (h : XOk Bd x) (name : ByteArray) (off : Bool) : XOk Bd ⟨rsyncF x.F name off, x.arm, x.off⟩ := by
  unfold rsyncF
  split
  · exact h
  · split
    · rename_i hr
      refine ⟨by show (List.set _ _ _).length ≤ 64; rw [List.length_set]; exact h.len, fun f hf => ?_, h.arm⟩
      rcases List.mem_or_eq_of_mem_set hf with hf | rfl
      · exact h.each f hf
      · have := h.each _ (rfind_some hr).1
        exact ⟨by show (0 : Int) ≤ (_ : Nat); omega, Int.le_refl _, this.2.2⟩
    · exact h
theorem XOk.rem {Bd : Nat} {x : RDk} (h : XOk Bd x) (name : ByteArray) (off : Bool) : XOk Bd ⟨rremF x.F name off, x.arm, x.off⟩ := by
  unfold rremF
  split
  · exact h
  · split
    · rename_i hr
      have hs : (x.F.take (rfind x.F name) ++ x.F.drop (rfind x.F name + 1)).Sublist x.F := by
        rw [← List.eraseIdx_eq_take_drop_succ]
        exact List.eraseIdx_sublist _ _
      exact ⟨Nat.le_trans hs.length_le h.len, fun f hf => h.each f (hs.mem hf), h.arm⟩
    · exact h
theorem rcrashL_len : ∀ (F : List RF) (ks : List Int), (rcrashL F ks).length ≤ F.length
  | [], _ => Nat.le_refl _
  | f :: F, ks => by
    rw [rcrashL]
    have := rcrashL_len F (rcrashK f ks)
    split
    · rw [List.length_cons]; omega
    · rw [List.length_cons, List.length_cons]; omega
theorem rcrashL_each {Bd : Nat} : ∀ (F : List RF) (ks : List Int), (∀ f ∈ F, 0 ≤ f.safe ∧ f.safe ≤ f.b.size ∧ f.b.size ≤ Bd) → ∀ f ∈ rcrashL F ks, 0 ≤ f.safe ∧ f.safe ≤ f.b.size ∧ f.b.size ≤ Bd
  | [], _, _, f, hf => by cases hf
  | g :: F, ks, h, f, hf => by
    have hg := h g List.mem_cons_self
    have hr := rcrashL_each F (rcrashK g ks) (fun f hf => h f (List.mem_cons_of_mem _ hf))
    have h1 : 0 ≤ (rcrashF g ks).safe ∧ (rcrashF g ks).safe ≤ (rcrashF g ks).b.size ∧ (rcrashF g ks).b.size ≤ Bd := by
      unfold rcrashF
      split
      · refine ⟨by show (0 : Int) ≤ (_ : Nat); omega, Int.le_refl _, ?_⟩
        show (ByteArray.extract _ _ _).size ≤ Bd
        rw [ByteArray.size_extract]
        have := hg.2.2
        omega
      · exact hg
    rw [rcrashL] at hf
    split at hf
    · exact hr f hf
    · rcases List.mem_cons.1 hf with rfl | hf
      · exact h1
      · exact hr f hf
theorem XOk.crash {Bd : Nat} {x : RDk} (h : XOk Bd x) (ks : List Int) (off : Bool) : XOk Bd ⟨rcrashL x.F ks, -1, off⟩ := ⟨Nat.le_trans (rcrashL_len _ _) h.len, rcrashL_each _ _ h.each, by show (-1 : Int) ≤ _; omega⟩
end Go.Proofs.YtgcgnhcjjlnloaaDoor.Dk
