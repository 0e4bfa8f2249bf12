/- Lemmas towards the law: what of the text DkQ0 it needs. -/
import Derived.Test.YtgcgnhcjjlnloaaDoorDkP4q
namespace Go.Proofs.YtgcgnhcjjlnloaaDoor.Dk
open Go.RowKit Go.Proofs.YtgcgnhcjjlnloaaDoorW.PrintWords Go.Proofs.YtgcgnhcjjlnloaaDoor.Sl
set_option linter.unusedVariables false
set_option linter.unusedSimpArgs false
section
variable {P : Program} {ops : Array Oper} {rest : List Oper} {o : Oper} {a : Act} {Q : Exit → Act → World → Prop}
theorem run_ofB {W : World} {ts td e : TypeId} {x : Operand} (ho : o.op = .convert ts td x) {A : Option Addr} {m c : Nat} (hx : a.eval x = .slice A m c) {xs : List Int} (HR : Rd (ints .u8) 1 W A m xs)
    (hs : P.underlying ts = some (.slice e)) (he : P.underlying e = some (.int .u8)) (hd : P.underlying td = some .string) : (execOp a.eval o).run P W = .ok (.value (.string (b8 xs))) W := by
  cases A with
  | none =>
    have hm : m = 0 := by
      rcases Nat.eq_zero_or_pos m with h | h
      · exact h
      · obtain ⟨ad, h2⟩ := HR.addr h
        cases h2
    subst hm
    have hl : xs = [] := List.length_eq_zero_iff.1 HR.len.1
    subst hl
    have h1 := run_convert_bytes_string (P := P) W ts td e none 0 c hs he hd
    have h2 : (Conv.bytesToString (.slice none 0 c)).run P W = .ok (.string (b8 [])) W := rfl
    rw [h2] at h1
    unfold execOp
    simp only [ho, hx]
    simp [go_sem, h1]
  | some ad =>
    have hld : (loadCells ad m).run P W = .ok (xs.map (Value.int .u8)).toArray W := by
      have := run_loadCells_list (P := P) W ad (xs.map (Value.int .u8)) (fun j v hj => by
        rw [List.getElem?_map] at hj
        obtain ⟨y, hy, rfl⟩ := Option.map_eq_some_iff.1 hj
        have hjl := (List.getElem?_eq_some_iff.1 hy).1
        rw [HR.len.1] at hjl
        have := HR.cell 0 hjl 0 (u := .int .u8 y) (by rw [List.getD_eq_getElem?_getD, hy]; rfl)
        rwa [Nat.mul_one, Nat.add_zero] at this)
      rwa [List.length_map, HR.len.1] at this
    have h1 := run_convert_bytes_string (P := P) W ts td e (some ad) m c hs he hd
    rw [run_bytesToString W ad m c xs hld, show ByteArray.empty = bs [] from rfl, push_fold, List.nil_append] at h1
    unfold execOp
    simp only [ho, hx]
    simp [go_sem, h1, b8]
theorem sh_ofB {W : World} (hw : Region.wanted o (yielded ops a.tmps) = true) {ts td e : TypeId} {x : Operand} (ho : o.op = .convert ts td x) {A : Option Addr} {m c : Nat} (hx : a.eval x = .slice A m c) {xs : List Int} (HR : Rd (ints .u8) 1 W A m xs)
    (hs : P.underlying ts = some (.slice e)) (he : P.underlying e = some (.int .u8)) (hd : P.underlying td = some .string)
    (h : wpList P ops Q rest (a.put o.dst (.string (b8 xs))) W) : WP P ops Q (o :: rest) a W := ⟨run_step hw (run_ofB ho hx HR hs he hd) h⟩
end
def DoPost (w0 : World) (gX Bd : Nat) (dd : Int) (gD gM : Nat) (left : Int) (armed off : Bool) (m : FM) (x : RDk) (G : HP) (e : Ending) (w' : World) : Prop := ∃ (gD' gM' : Nat) (left' : Int) (armed' off' : Bool) (m' : FM) (L' : List (Option Addr × List Int)) (S' : Nat → Prop) (x' : RDk) (r : Bool) (A' : Option Addr) (c' : Nat) (SR' : Nat → Prop), e = .returned (.tuple #[.pointer (some ⟨gD', 0, none⟩), .bool r]) ∧ DOk (Bd + 10000) left' armed' m' L' ∧ XOk (Bd + 10000) x' ∧ (Lk left armed off m x → r = true ∧ Lk left' armed' off' m' x') ∧ (dd ≤ 3 → gD' = gD ∧ gM' = gM ∧ (off = false → armed = false → off' = false ∧ armed' = false)) ∧ SH w0 w' [blk gD' [.map (some gM'), .int .i64 left', .bool armed', .bool off'] 52, mpF gM' m', poolI L' S', blk gX [.slice A' x'.F.length c', .int .i64 x'.arm, .bool x'.off] 60, row rfK 65 (.slice A' x'.F.length c') x'.F SR', G]
end Go.Proofs.YtgcgnhcjjlnloaaDoor.Dk
