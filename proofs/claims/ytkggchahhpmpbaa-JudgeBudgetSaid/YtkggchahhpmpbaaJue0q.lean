/- Lemmas towards the law: what of the text Jue0 it needs. -/
import Derived.Test.YtkggchahhpmpbaaMapRq
import Derived.Test.YtkggchahhpmpbaaTyq
namespace Go.Proofs.Ytkggchahhpmpbaa.Jue
open Go.RowKit Go.Proofs.YtkggchahhpmpbaaW.PrintWords Go.Proofs.Ytkggchahhpmpbaa.Sl
set_option linter.unusedVariables false
set_option linter.unusedSimpArgs false
abbrev Cn := Int × Int
abbrev CM := List (Cn × Int)
abbrev IM := List (Int × Int)
structure Seen where
  kind : Int
  node : Int
  token : Int
instance : Inhabited Seen := ⟨⟨0, 0, 0⟩⟩
def Seen.enc (s : Seen) : List Value := [.int .i64 s.kind, .int .i64 s.node, .int .i64 s.token]
theorem Seen.len (s : Seen) : s.enc.length = 3 := rfl
def badS (lim : Int) (s : Seen) : Bool :=
  decide (s.kind < 1) || decide (3 < s.kind) || decide (lim < 1) || decide (s.node < 1) || decide (7 < s.node) || decide (s.token < (if s.kind = 3 then 0 else 1)) || decide ((if s.kind = 3 then 0 else lim) < s.token)
def manyOf (L : List Cn) (n : Int) : Nat := L.countP (fun c => c.1 == n)
/-- why the next one may not be; 0: it may -/
def errS (lim : Int) (L : List Cn) (s : Seen) : Int :=
  if badS lim s then 1
  else if s.kind = 3 then 0
  else if s.kind = 2 then (if (s.node, s.token) ∈ L then 0 else 4)
  else if (s.node, s.token) ∈ L then 3
  else if L.any (fun c => c.2 == s.token) then 220
  else if 8 ≤ manyOf L s.node then 6
  else 0
def nextS (L : List Cn) (s : Seen) : List Cn :=
  if s.kind = 1 then L ++ [(s.node, s.token)]
  else L.filter (fun c => !(c.1 == s.node && (s.kind != 2 || c.2 == s.token)))
/-- the three maps say which connections are open -/
structure Rel (L : List Cn) (C : CM) (O M : IM) : Prop where
  ndL : L.Nodup
  ndC : (keysOf C).Nodup
  ndO : (keysOf O).Nodup
  c : ∀ k v, mget C k = some v ↔ (k ∈ L ∧ v = 1)
  o : ∀ t n, mget O t = some n ↔ (n, t) ∈ L
  m : ∀ n, (mget M n).getD 0 = manyOf L n
  node : ∀ c ∈ L, 1 ≤ c.1 ∧ c.1 ≤ 7
  eight : ∀ n, manyOf L n ≤ 8
theorem Rel.one {L : List Cn} {C : CM} {O M : IM} (h : Rel L C O M) {n n' t : Int} (h1 : (n, t) ∈ L) (h2 : (n', t) ∈ L) : n = n' := by
  have a := (h.o t n).2 h1
  rw [(h.o t n').2 h2] at a
  injection a with a
  exact a.symm
theorem Rel.zero : Rel [] [] [] [] := ⟨by simp, by simp [keysOf], by simp [keysOf], by simp [mget], by simp [mget], by simp [mget, manyOf], by simp, by simp [manyOf]⟩
theorem mem_keys {m : List (Cn × Int)} {k : Cn} (h : (keysOf m).Nodup) : k ∈ keysOf m ↔ ∃ v, mget m k = some v := by
  constructor
  · intro hk
    cases hg : mget m k with
    | some v => exact ⟨v, rfl⟩
    | none =>
      exfalso
      obtain ⟨p, hp, rfl⟩ := List.mem_map.1 hk
      unfold mget at hg
      rw [Option.map_eq_none_iff, List.find?_eq_none] at hg
      exact hg p hp (by simp)
  · rintro ⟨v, hv⟩
    apply Decidable.byContradiction
    intro hk
    rw [mget_none hk] at hv
    cases hv
theorem Rel.getC {L : List Cn} {C : CM} {O M : IM} (h : Rel L C O M) (k : Cn) : (mget C k).getD 0 = if k ∈ L then 1 else 0 := by
  split
  · rename_i hk
    rw [(h.c k 1).2 ⟨hk, rfl⟩]; rfl
  · rename_i hk
    cases hg : mget C k with
    | none => rfl
    | some v => exact absurd ((h.c k v).1 hg).1 hk
theorem Rel.getO {L : List Cn} {C : CM} {O M : IM} (h : Rel L C O M) (t : Int) : ((mget O t).getD 0 != 0) = L.any (fun c => c.2 == t) := by
  cases hg : mget O t with
  | none =>
    have : L.any (fun c => c.2 == t) = false := by
      rw [List.any_eq_false]
      intro c hc e
      have e' : c.2 = t := by simpa using e
      have := (h.o t c.1).2 (by rw [← e']; exact hc)
      rw [hg] at this
      cases this
    rw [this]; rfl
  | some n =>
    have hm := (h.o t n).1 hg
    have : L.any (fun c => c.2 == t) = true := List.any_eq_true.2 ⟨_, hm, by simp⟩
    rw [this]
    have := (h.node _ hm).1
    simp at this ⊢
    omega
theorem Rel.open {L : List Cn} {C : CM} {O M : IM} (h : Rel L C O M) {s : Seen} (hk : s.kind = 1) (hn : 1 ≤ s.node ∧ s.node ≤ 7) (h1 : (s.node, s.token) ∉ L) (h2 : L.any (fun c => c.2 == s.token) = false) (h3 : manyOf L s.node < 8) :
    Rel (nextS L s) (mput C (s.node, s.token) 1) (mput O s.token s.node) (mput M s.node ((mget M s.node).getD 0 + 1)) := by
  have hx : nextS L s = L ++ [(s.node, s.token)] := by unfold nextS; rw [if_pos hk]
  rw [hx]
  have h2' : ∀ n, (n, s.token) ∉ L := fun n hn => by
    have := List.any_eq_false.1 h2 _ hn
    simp at this
  have hmany : ∀ n, manyOf (L ++ [(s.node, s.token)]) n = manyOf L n + if s.node = n then 1 else 0 := by
    intro n
    unfold manyOf
    rw [List.countP_append, List.countP_singleton]
    simp
  refine ⟨?_, nodup_put _ _ h.ndC, nodup_put _ _ h.ndO, fun k v => ?_, fun t n => ?_, fun n => ?_, fun c hc => ?_, fun n => ?_⟩
  · rw [List.nodup_append]
    refine ⟨h.ndL, by simp, fun x hx y hy => ?_⟩
    rw [List.mem_singleton] at hy
    subst hy
    rintro rfl
    exact h1 hx
  · rw [mget_put, List.mem_append, List.mem_singleton]
    split
    · rename_i e
      subst e
      constructor
      · intro e; injection e with e; exact ⟨.inr rfl, e.symm⟩
      · rintro ⟨_, rfl⟩; rfl
    · rename_i e
      rw [h.c]
      constructor
      · rintro ⟨a, b⟩; exact ⟨.inl a, b⟩
      · rintro ⟨a | a, b⟩
        · exact ⟨a, b⟩
        · exact absurd a.symm e
  · rw [mget_put, List.mem_append, List.mem_singleton]
    split
    · rename_i e
      subst e
      constructor
      · intro e; injection e with e; exact .inr (by rw [e])
      · rintro (a | a)
        · exact absurd a (h2' n)
        · injection a with a _; rw [a]
    · rename_i e
      rw [h.o]
      constructor
      · exact .inl
      · rintro (a | a)
        · exact a
        · injection a with _ a; exact absurd a.symm e
  · rw [mget_put, hmany]
    split
    · rename_i e
      subst e
      rw [Option.getD_some, h.m]
      simp
    · rw [h.m]; simp
  · rcases List.mem_append.1 hc with hc | hc
    · exact h.node c hc
    · rw [List.mem_singleton] at hc; subst hc; exact hn
  · rw [hmany]
    split
    · rename_i e; subst e; omega
    · exact h.eight n
theorem Rel.shut {L : List Cn} {C : CM} {O M : IM} (h : Rel L C O M) {s : Seen} (hk : s.kind = 2) (h1 : (s.node, s.token) ∈ L) :
    Rel (nextS L s) (mdel C (s.node, s.token)) (mdel O s.token) (mput M s.node ((mget M s.node).getD 0 - 1)) := by
  have hx : nextS L s = L.filter (fun c => !(c == (s.node, s.token))) := by
    unfold nextS
    rw [if_neg (by omega)]
    congr 1
    funext c
    obtain ⟨a, b⟩ := c
    rw [Bool.eq_iff_iff]
    simp only [hk, Bool.not_eq_true', Bool.and_eq_false_iff, Bool.or_eq_false_iff, beq_eq_false_iff_ne, ne_eq, Prod.mk.injEq]
    simp
    omega
  rw [hx]
  have hmem : ∀ k, k ∈ L.filter (fun c => !(c == (s.node, s.token))) ↔ (k ∈ L ∧ k ≠ (s.node, s.token)) := by
    intro k
    rw [List.mem_filter]
    simp
  have herase : L.filter (fun c => !(c == (s.node, s.token))) = L.erase (s.node, s.token) := by
    rw [List.Nodup.erase_eq_filter h.ndL]
    rfl
  have hmany : ∀ n, manyOf (L.filter (fun c => !(c == (s.node, s.token)))) n = manyOf L n - if s.node = n then 1 else 0 := by
    intro n
    unfold manyOf
    rw [herase, (List.perm_cons_erase h1).countP_eq, List.countP_cons]
    by_cases e : s.node = n
    · simp [e]
    · simp [e]
  have hpos : 0 < manyOf L s.node := List.countP_pos_iff.2 ⟨_, h1, by simp⟩
  refine ⟨h.ndL.filter _, nodup_del _ h.ndC, nodup_del _ h.ndO, fun k v => ?_, fun t n => ?_, fun n => ?_, fun c hc => h.node c ((hmem c).1 hc).1, fun n => ?_⟩
  · rw [mget_del _ _ _ h.ndC, hmem]
    split
    · rename_i e
      constructor
      · intro e; cases e
      · rintro ⟨⟨_, a⟩, _⟩; exact absurd e.symm a
    · rename_i e
      rw [h.c]
      constructor
      · rintro ⟨a, b⟩; exact ⟨⟨a, fun e' => e e'.symm⟩, b⟩
      · rintro ⟨⟨a, _⟩, b⟩; exact ⟨a, b⟩
  · rw [mget_del _ _ _ h.ndO, hmem]
    split
    · rename_i e
      subst e
      constructor
      · intro e; cases e
      · rintro ⟨a, b⟩; exact absurd (by rw [h.one a h1]) b
    · rename_i e
      rw [h.o]
      constructor
      · intro a; exact ⟨a, fun e' => by injection e' with _ e'; exact e e'.symm⟩
      · exact fun a => a.1
  · rw [mget_put, hmany]
    split
    · rename_i e
      subst e
      rw [Option.getD_some, h.m]
      omega
    · rw [h.m]; simp
  · rw [hmany]
    have := h.eight n
    omega
/-- in the middle of a node's fall: what of its connections is left -/
structure Mid (L : List Cn) (n : Int) (left : List Cn) (C : CM) (O : IM) : Prop where
  ndC : (keysOf C).Nodup
  ndO : (keysOf O).Nodup
  sub : ∀ k ∈ left, k ∈ L
  nd : left.Nodup
  c : ∀ k v, mget C k = some v ↔ (k ∈ L ∧ v = 1 ∧ (k.1 ≠ n ∨ k ∈ left))
  o : ∀ t m, mget O t = some m ↔ ((m, t) ∈ L ∧ (m ≠ n ∨ (m, t) ∈ left))
theorem Mid.start {L : List Cn} {C : CM} {O M : IM} (h : Rel L C O M) (n : Int) : Mid L n (keysOf C) C O := by
  have hk : ∀ k, k ∈ keysOf C ↔ k ∈ L := by
    intro k
    rw [mem_keys h.ndC]
    constructor
    · rintro ⟨v, hv⟩; exact ((h.c k v).1 hv).1
    · intro hk; exact ⟨1, (h.c k 1).2 ⟨hk, rfl⟩⟩
  refine ⟨h.ndC, h.ndO, fun k hk' => (hk k).1 hk', h.ndC, fun k v => ?_, fun t m => ?_⟩
  · rw [h.c]
    constructor
    · rintro ⟨a, b⟩; exact ⟨a, b, .inr ((hk k).2 a)⟩
    · rintro ⟨a, b, _⟩; exact ⟨a, b⟩
  · rw [h.o]
    constructor
    · intro a; exact ⟨a, .inr ((hk _).2 a)⟩
    · rintro ⟨a, _⟩; exact a
theorem Mid.keep {L : List Cn} {n : Int} {l1 l2 : List Cn} {k : Cn} {C : CM} {O : IM} (h : Mid L n (l1 ++ k :: l2) C O) (hk : k.1 ≠ n) : Mid L n (l1 ++ l2) C O := by
  have hsub : (l1 ++ l2).Sublist (l1 ++ k :: l2) := (List.Sublist.refl l1).append (List.sublist_cons_self _ _)
  have hm : ∀ x : Cn, x.1 = n → (x ∈ l1 ++ k :: l2 ↔ x ∈ l1 ++ l2) := by
    intro x hx
    simp only [List.mem_append, List.mem_cons]
    constructor
    · rintro (a | a | a)
      · exact .inl a
      · exact absurd (a ▸ hx) hk
      · exact .inr a
    · rintro (a | a)
      · exact .inl a
      · exact .inr (.inr a)
  refine ⟨h.ndC, h.ndO, fun x hx => h.sub x (hsub.subset hx), h.nd.sublist hsub, fun x v => ?_, fun t m => ?_⟩
  · rw [h.c]
    by_cases hx : x.1 = n
    · rw [hm x hx]
    · simp [hx]
  · rw [h.o]
    by_cases hx : m = n
    · rw [hm (m, t) hx]
    · simp [hx]
theorem Mid.drop {L : List Cn} {n : Int} {l1 l2 : List Cn} {k : Cn} {C : CM} {O M : IM} {C0 : CM} {O0 : IM} (hr : Rel L C0 O0 M) (h : Mid L n (l1 ++ k :: l2) C O) (hk : k.1 = n) : Mid L n (l1 ++ l2) (mdel C k) (mdel O k.2) ∧ k ∉ l1 ++ l2 := by
  have hsub : (l1 ++ l2).Sublist (l1 ++ k :: l2) := (List.Sublist.refl l1).append (List.sublist_cons_self _ _)
  have hnd := h.nd
  rw [List.nodup_append, List.nodup_cons] at hnd
  obtain ⟨_, ⟨hd1, _⟩, hd2⟩ := hnd
  have hnot : k ∉ l1 ++ l2 := by
    rw [List.mem_append]
    rintro (a | a)
    · exact hd2 k a k List.mem_cons_self rfl
    · exact hd1 a
  have hm : ∀ x : Cn, k ≠ x → (x ∈ l1 ++ k :: l2 ↔ x ∈ l1 ++ l2) := by
    intro x hx
    simp only [List.mem_append, List.mem_cons]
    constructor
    · rintro (a | a | a)
      · exact .inl a
      · exact absurd a.symm hx
      · exact .inr a
    · rintro (a | a)
      · exact .inl a
      · exact .inr (.inr a)
  have hkL : k ∈ L := h.sub k (by simp)
  refine ⟨⟨nodup_del _ h.ndC, nodup_del _ h.ndO, fun x hx => h.sub x (hsub.subset hx), h.nd.sublist hsub, fun x v => ?_, fun t m => ?_⟩, hnot⟩
  · rw [mget_del _ _ _ h.ndC]
    split
    · rename_i e
      subst e
      constructor
      · intro e; cases e
      · rintro ⟨_, _, a | a⟩
        · exact absurd hk a
        · exact absurd a hnot
    · rename_i e
      rw [h.c, hm x e]
  · rw [mget_del _ _ _ h.ndO]
    split
    · rename_i e
      subst e
      constructor
      · intro e; cases e
      · rintro ⟨a, b⟩
        have he : k.1 = m := hr.one (t := k.2) hkL a
        rcases b with b | b
        · exact absurd (he.symm.trans hk) b
        · rw [← he] at b; exact absurd b hnot
    · rename_i e
      rw [h.o, hm (m, t) (fun e' => e (congrArg Prod.snd e'))]
theorem Mid.stop {L : List Cn} {C0 C : CM} {O0 O M : IM} {s : Seen} (hr : Rel L C0 O0 M) (hk : s.kind = 3) (h : Mid L s.node [] C O) : Rel (nextS L s) C O (mput M s.node 0) := by
  have hx : nextS L s = L.filter (fun c => !(c.1 == s.node)) := by
    unfold nextS
    rw [if_neg (by omega)]
    congr 1
    funext c
    simp [hk]
  rw [hx]
  have hmem : ∀ k, k ∈ L.filter (fun c => !(c.1 == s.node)) ↔ (k ∈ L ∧ k.1 ≠ s.node) := by
    intro k
    rw [List.mem_filter]
    simp
  have hmany : ∀ n, manyOf (L.filter (fun c => !(c.1 == s.node))) n = if s.node = n then 0 else manyOf L n := by
    intro n
    unfold manyOf
    rw [List.countP_filter]
    split
    · rename_i e
      subst e
      rw [List.countP_eq_zero]
      intro c _
      simp
    · rename_i e
      congr 1
      funext c
      by_cases hc : c.1 = n
      · have : ¬ c.1 = s.node := fun x => e (x.symm.trans hc)
        have e' : ¬ n = s.node := fun x => e x.symm
        simp [hc, e']
      · simp [hc]
  refine ⟨hr.ndL.filter _, h.ndC, h.ndO, fun k v => ?_, fun t m => ?_, fun n => ?_, fun c hc => hr.node c ((hmem c).1 hc).1, fun n => ?_⟩
  · rw [h.c, hmem]
    simp
    constructor
    · rintro ⟨a, b, c⟩; exact ⟨⟨a, c⟩, b⟩
    · rintro ⟨⟨a, c⟩, b⟩; exact ⟨a, b, c⟩
  · rw [h.o, hmem]
    simp
  · rw [mget_put, hmany]
    split
    · rfl
    · rw [hr.m]
  · rw [hmany]
    split
    · omega
    · exact hr.eight n
end Go.Proofs.Ytkggchahhpmpbaa.Jue
