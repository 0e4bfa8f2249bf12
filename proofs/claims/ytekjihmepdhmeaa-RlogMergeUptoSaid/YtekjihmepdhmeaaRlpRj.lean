import Derived.Test.YtekjihmepdhmeaaRlpQj
import Derived.Test.YtekjihmepdhmeaaRloF0j
/- Lemmas towards the law: what of the text RlpR it needs. -/
namespace Go.Proofs.Ytekjihmepdhmeaa.Rlo
open Go.RowKit Go.Proofs.YtekjihmepdhmeaaW.PrintWords Go.Proofs.Ytekjihmepdhmeaa.Sl
set_option linter.unusedVariables false
set_option linter.unusedSimpArgs false
structure Rc where
  kind : Int
  ix : Int
  x : Ent
  deriving Inhabited
def Rc.enc (r : Rc) : List Value := [.int .i64 r.kind, .int .i64 0, .int .u64 0, .int .u64 0, .int .u64 r.ix, .int .u64 r.x.term, .int .i64 r.x.kind, .int .i64 r.x.node, .int .i64 r.x.token, .slice r.x.A r.x.nodes.length r.x.c, .int .u64 r.x.boot, .int .u64 r.x.seq, .int .u64 r.x.serial, .int .u64 r.x.stamp, .int .u64 0, .int .u64 0, .slice none 0 0, .int .i64 0, .int .u64 0, .slice none 0 0, .slice none 0 0]
theorem Rc.len (r : Rc) : r.enc.length = 21 := rfl
theorem Rc.one (r : Rc) : r.enc.all (·.oneCell') = true := rfl
def recK : Kd Rc := flk Rc.enc 21 Rc.len Rc.one
def zeroE : Ent := ⟨0, 0, 0, 0, none, 0, [], 0, 0, 0, 0⟩
def cutR (ix : Int) : Rc := ⟨4, ix, zeroE⟩
def addR (ix : Int) (x : Ent) : Rc := ⟨3, ix, x⟩
def Rc.data (r : Rc) : Rc := if r.kind = 4 then r else { r with x := r.x.data }
theorem infoRec : (Try.prog.info? 65).map (fun i => (i.zero, i.size, i.bytes)) = some (some (.agg #[.int .i64 0, .int .i64 0, .int .u64 0, .int .u64 0, .int .u64 0, .int .u64 0, .int .i64 0, .int .i64 0, .int .i64 0, .slice none 0 0, .int .u64 0, .int .u64 0, .int .u64 0, .int .u64 0, .int .u64 0, .int .u64 0, .slice none 0 0, .int .i64 0, .int .u64 0, .slice none 0 0, .slice none 0 0]), 21, 232) := by kernel_rfl
/-- which entries stand there already: how the rest begins, behind which index, whether something is cut, whether it may not be -/
structure Skp where
  l : List Ent
  i : Int
  cut : Bool
  bad : Bool
def skipM (d : Hrd) (commit : Int) : List Ent → Int → Skp
  | [], i => ⟨[], i, false, false⟩
  | x :: l, i =>
    if (termOf d (i + 1)).2 = false then ⟨x :: l, i, false, false⟩
    else if (termOf d (i + 1)).1 = x.term then skipM d commit l (i + 1)
    else if i < commit then ⟨x :: l, i, false, true⟩
    else ⟨x :: l, i, true, false⟩
def addsM : List Ent → Int → List Rc
  | [], _ => []
  | x :: l, i => addR (i + 1) x :: addsM l (i + 1)
def recsM (s : Skp) : List Rc := (if s.cut then [cutR (s.i + 1)] else []) ++ addsM s.l s.i
/-- the log behind a record; none: it may not come -/
def doR (d : Hrd) (r : Rc) : Option Hrd :=
  if r.kind = 4 then some { d with log := d.log.take (r.ix - d.s.si - 1).toNat }
  else if okAdd d r.x then some { d with log := d.log ++ [r.x] } else none
def doAll : Hrd → List Rc → Option Hrd
  | d, [] => some d
  | d, r :: rs => (doR d r).bind fun d' => doAll d' rs
/-- how it is asked: entries behind an index -/
def headM (d : Hrd) (ix t : Int) (l : List Ent) : Option (Option (List Ent × Int)) :=
  if ix < d.s.si then
    if (l.length : Int) ≤ d.s.si - ix then some none else some (some (l.drop (d.s.si - ix).toNat, d.s.si))
  else if (termOf d ix).2 = true ∧ (termOf d ix).1 = t then some (some (l, ix)) else none
/-- how it ends, and the records -/
def mergeG (d : Hrd) (ix t commit : Int) (l : List Ent) : Int × List Rc :=
  if hardOk d = false then (3, [])
  else match headM d ix t l with
    | none => (2, [])
    | some none => (1, [])
    | some (some (l', i)) =>
      if (skipM d commit l' i).bad then (3, [])
      else match doAll d (recsM (skipM d commit l' i)) with
        | none => (3, [])
        | some _ => (1, recsM (skipM d commit l' i))
theorem zeroE_ok (w : World) : zeroE.ok w where
  rd := Rd.nil _ _ _ _
  term := ⟨by decide, by decide⟩
  boot := ⟨by decide, by decide⟩
  seq := ⟨by decide, by decide⟩
  serial := ⟨by decide, by decide⟩
  stamp := ⟨by decide, by decide⟩
  nodeHi := by decide
  tokHi := by decide
theorem run_sliceLoK {P : Program} {a : Act} {o : Oper} {t e : TypeId} {x lo : Operand} (ho : o.op = .slice t x (some lo) none none) {A : Option Addr} {n c k : Nat} {kk : IntKind} (hx : a.eval x = .slice A n c) (hlo : a.eval lo = .int kk k) (ht : P.underlying t = some (.slice e)) (hs : (P.info? e).map (·.size) = some 9) (hk : k ≤ n) (hn : n ≤ c) {w : World} :
    (execOp a.eval o).run P w = .ok (.value (.slice (cutA A c k) (n - k) (c - k))) w := by
  obtain ⟨i, hi, hsz⟩ := Option.map_eq_some_iff.1 hs
  have h1 : (0 : Int) ≤ k ∧ (k : Int) ≤ n := ⟨by omega, by omega⟩
  unfold execOp
  simp only [ho, Option.map_some, Option.map_none, hx, hlo]
  simp [Instr.sliceAt, Instr.slice, Instr.sliceBounds, Instr.sliceBound, asIntOf, run_underlying ht, sizeOf, typeInfo, hi, hsz, h1, cutA]
  intro h; omega
theorem gSl {P : Program} {ops : Array Oper} {rest : List Oper} {o : Oper} {a : Act} {Q : Exit → Act → World → Prop} {W : World} {t : TypeId} {x : Operand} {lo hi mx : Option Operand} (_ho : o.op = .slice t x lo hi mx) (h : WP P ops Q (o :: rest) a W) : wpList P ops Q (o :: rest) a W := h.out
theorem sl_lo {P : Program} {ops : Array Oper} {rest : List Oper} {o : Oper} {a : Act} {Q : Exit → Act → World → Prop} {W : World} (hw : Region.wanted o (yielded ops a.tmps) = true) {t e : TypeId} {x lo : Operand} (ho : o.op = .slice t x (some lo) none none) {A : Option Addr} {n c : Nat} (k : Nat) {kk : IntKind} (hx : a.eval x = .slice A n c) (hlo : a.eval lo = .int kk k) (ht : P.underlying t = some (.slice e)) (hs : (P.info? e).map (·.size) = some 9) (hk : k ≤ n) (hn : n ≤ c)
    (h : wpList P ops Q rest (a.put o.dst (.slice (cutA A c k) (n - k) (c - k))) W) : WP P ops Q (o :: rest) a W :=
  ⟨run_step hw (run_sliceLoK ho hx hlo ht hs hk hn) h⟩
theorem skipM_cons (d : Hrd) (commit : Int) (x : Ent) (l : List Ent) (i : Int) : skipM d commit (x :: l) i = if (termOf d (i + 1)).2 = false then ⟨x :: l, i, false, false⟩ else if (termOf d (i + 1)).1 = x.term then skipM d commit l (i + 1) else if i < commit then ⟨x :: l, i, false, true⟩ else ⟨x :: l, i, true, false⟩ := rfl
theorem skipM_sub (d : Hrd) (commit : Int) : ∀ (l : List Ent) (i : Int), ∀ e ∈ (skipM d commit l i).l, e ∈ l
  | [], i, e, h => h
  | x :: l, i, e, h => by
    rw [skipM_cons] at h
    split at h
    · exact h
    · split at h
      · exact List.mem_cons_of_mem _ (skipM_sub d commit l (i + 1) e h)
      · split at h <;> exact h
/-- a record that may come here -/
def stepOk (d : Hrd) (r : Rc) : Prop := (∃ kk : Nat, kk ≤ d.log.length ∧ r = cutR (d.s.si + kk + 1)) ∨ (∃ x, r = addR (d.s.si + d.log.length + 1) x)
def Chain : Hrd → List Rc → Prop
  | _, [] => True
  | d, r :: rs => stepOk d r ∧ ∀ d', doR d r = some d' → Chain d' rs
theorem doR_cut (d : Hrd) (kk : Nat) : doR d (cutR (d.s.si + kk + 1)) = some { d with log := d.log.take kk } := by
  unfold doR cutR
  rw [if_pos rfl]
  simp only
  rw [show (d.s.si + (kk : Int) + 1 - d.s.si - 1).toNat = kk by omega]
theorem doR_add (d : Hrd) (ix : Int) (x : Ent) : doR d (addR ix x) = if okAdd d x then some { d with log := d.log ++ [x] } else none := by
  unfold doR addR
  rw [if_neg (show ¬ (3 : Int) = 4 by decide)]
theorem chain_adds : ∀ (l : List Ent) (d : Hrd) (i : Int), (l = [] ∨ i = d.s.si + d.log.length) → Chain d (addsM l i)
  | [], d, i, _ => trivial
  | x :: l, d, i, h => by
    have hi : i = d.s.si + d.log.length := by
      rcases h with h | h
      · cases h
      · exact h
    refine ⟨.inr ⟨x, by rw [hi]⟩, fun d' hd => ?_⟩
    rw [doR_add] at hd
    split at hd
    · injection hd with hd
      subst hd
      exact chain_adds l _ _ (.inr (by show i + 1 = d.s.si + ((d.log ++ [x]).length : Int); rw [hi]; simp; omega))
    · cases hd
theorem chain_recs (d : Hrd) (S : Skp) (h1 : d.s.si ≤ S.i) (h2 : S.cut = true → S.i < d.s.si + d.log.length) (h3 : S.cut = false → S.l = [] ∨ S.i = d.s.si + d.log.length) : Chain d (recsM S) := by
  unfold recsM
  cases hc : S.cut with
  | false =>
    rw [if_neg (by decide), List.nil_append]
    exact chain_adds _ _ _ (h3 hc)
  | true =>
    have hlt := h2 hc
    obtain ⟨kk, hkk⟩ : ∃ kk : Nat, S.i = d.s.si + kk := ⟨(S.i - d.s.si).toNat, by omega⟩
    rw [if_pos rfl, List.cons_append, List.nil_append, hkk]
    refine ⟨.inl ⟨kk, by omega, rfl⟩, fun d' hd => ?_⟩
    rw [doR_cut] at hd
    injection hd with hd
    subst hd
    exact chain_adds _ _ _ (.inr (by show d.s.si + (kk : Int) = d.s.si + ((d.log.take kk).length : Int); rw [List.length_take]; omega))
theorem okAdd_data {d d2 : Hrd} (h : d.same d2) {x x2 : Ent} (hx : x2.data = x.data) : okAdd d2 x2 = okAdd d x := by
  unfold okAdd
  exact hardOk_of (d := { d with log := d.log ++ [x] }) h.boot h.term h.vote h.s (by show (d2.log ++ [x2]).map Ent.data = (d.log ++ [x]).map Ent.data; rw [List.map_append, List.map_append, h.log, List.map_cons, List.map_cons, hx])
/-- what the walk keeps of the log on its way -/
structure DyOk (d dy : Hrd) (l : List Ent) : Prop where
  s : dy.s = d.s
  g : hardOk dy = true
  e : ∀ e ∈ dy.log, e ∈ d.log ∨ e ∈ l
theorem DyOk.add {d dy : Hrd} {l : List Ent} (h : DyOk d dy l) {x : Ent} (hx : x ∈ l) (ho : okAdd dy x = true) : DyOk d { dy with log := dy.log ++ [x] } l :=
  ⟨h.s, ho, fun e he => by
    rcases List.mem_append.1 he with h1 | h1
    · exact h.e e h1
    · obtain rfl := List.mem_singleton.1 h1; exact .inr hx⟩
theorem addsM_mem : ∀ (l : List Ent) (i ix : Int) (x : Ent), addR ix x ∈ addsM l i → x ∈ l
  | [], i, ix, x, h => by cases h
  | y :: l, i, ix, x, h => by
    rw [addsM] at h
    rcases List.mem_cons.1 h with h | h
    · have : x = y := by injection h
      subst this; exact List.mem_cons_self
    · exact List.mem_cons_of_mem _ (addsM_mem l (i + 1) ix x h)
theorem recsM_mem {S : Skp} {ix : Int} {x : Ent} (h : addR ix x ∈ recsM S) : x ∈ S.l := by
  unfold recsM at h
  rcases List.mem_append.1 h with h | h
  · split at h
    · have := List.mem_singleton.1 h
      have : (3 : Int) = 4 := congrArg Rc.kind this
      omega
    · cases h
  · exact addsM_mem _ _ _ _ h
theorem data_cut {r : Rc} {ix : Int} (h : r.data = cutR ix) : r = cutR ix := by
  unfold Rc.data at h
  split at h
  · exact h
  · rename_i hk
    exact absurd (congrArg Rc.kind h) hk
theorem data_add {r : Rc} {ix : Int} {x : Ent} (h : r.data = (addR ix x).data) : r.kind = 3 ∧ r.ix = ix ∧ r.x.data = x.data := by
  have h2 : (addR ix x).data = ⟨3, ix, x.data⟩ := by unfold Rc.data addR; rw [if_neg (show ¬ (3 : Int) = 4 by decide)]
  rw [h2] at h
  unfold Rc.data at h
  split at h
  · rename_i hk
    rw [h] at hk
    have : (3 : Int) = 4 := hk
    omega
  · exact ⟨congrArg Rc.kind h, congrArg Rc.ix h, congrArg Rc.x h⟩
theorem addsM_len : ∀ (l : List Ent) (i : Int), (addsM l i).length = l.length
  | [], _ => rfl
  | x :: l, i => by rw [addsM, List.length_cons, addsM_len, List.length_cons]
end Go.Proofs.Ytekjihmepdhmeaa.Rlo

