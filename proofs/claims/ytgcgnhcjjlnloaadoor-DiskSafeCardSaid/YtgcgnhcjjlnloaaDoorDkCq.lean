/- Lemmas towards the law: what of the text DkC it needs. -/
import Derived.Test.YtgcgnhcjjlnloaaDoorDkBq
import Derived.Lib.ConvBytes
import Derived.Laws.BytesString
namespace Go.Proofs.YtgcgnhcjjlnloaaDoor.Dk
open Go.RowKit Go.Proofs.YtgcgnhcjjlnloaaDoorW.PrintWords Go.Proofs.YtgcgnhcjjlnloaaDoor.Sl
set_option linter.unusedVariables false
set_option linter.unusedSimpArgs false
/-- a text's bytes -/
def bi (s : ByteArray) : List Int := s.data.toList.map fun b => (b.toNat : Int)
theorem bi_len (s : ByteArray) : (bi s).length = s.size := by unfold bi; rw [List.length_map, Array.length_toList]; rfl
section
variable {P : Program} {ops : Array Oper} {rest : List Oper} {o : Oper} {a : Act} {Q : Exit → Act → World → Prop}
theorem gCv {W : World} {ts td : TypeId} {x : Operand} (_ho : o.op = .convert ts td x) (h : WP P ops Q (o :: rest) a W) : wpList P ops Q (o :: rest) a W := h.out
theorem push_fold : ∀ (ns : List Int) (s : List UInt8), ns.foldl (fun r n => r.push (UInt8.ofNat n.toNat)) (bs s) = bs (s ++ ns.map (fun n => UInt8.ofNat n.toNat))
  | [], s => by simp
  | n :: ns, s => by
    have e : (bs s).push (UInt8.ofNat n.toNat) = bs (s ++ [UInt8.ofNat n.toNat]) := by
      apply ByteArray.ext
      simp [bs, ByteArray.push]
    rw [List.foldl_cons, e, push_fold ns, List.append_assoc, List.map_cons]
    rfl
/-- string(b) -/
theorem sh_ofBytes {W : World} (hw : Region.wanted o (yielded ops a.tmps) = true) {ts td e : TypeId} {x : Operand} (ho : o.op = .convert ts td x) {ad : Addr} {m c : Nat} (hx : a.eval x = .slice (some ad) m c) {xs : List Int} (HR : Rd (ints .u8) 1 W (some ad) m xs)
    (hs : P.underlying ts = some (.slice e)) (he : P.underlying e = some (.int .u8)) (hd : P.underlying td = some .string)
    (h : wpList P ops Q rest (a.put o.dst (.string (bs (xs.map fun n => UInt8.ofNat n.toNat)))) W) : WP P ops Q (o :: rest) a W := by
  refine ⟨run_step hw ?_ h⟩
  have hld : (loadCells ad m).run P W = .ok (xs.map (Value.int .u8)).toArray W := by
    have := run_loadCells_list (P := P) W ad (xs.map (Value.int .u8)) (fun j v hj => by
      rw [List.getElem?_map] at hj
      obtain ⟨y, hy, rfl⟩ := Option.map_eq_some_iff.1 hj
      have hjl := (List.getElem?_eq_some_iff.1 hy).1
      rw [HR.len.1] at hjl
      have := HR.cell 0 hjl 0 (u := .int .u8 y) (by rw [List.getD_eq_getElem?_getD, hy]; rfl)
      rwa [Nat.mul_one, Nat.add_zero] at this)
    rwa [List.length_map, HR.len.1] at this
  have h1 := run_convert_bytes_string (P := P) W ts td e (some ad) m c hs he hd
  rw [run_bytesToString W ad m c xs hld, show ByteArray.empty = bs [] from rfl, push_fold, List.nil_append] at h1
  unfold execOp
  simp only [ho, hx]
  simp [go_sem, h1]
end
end Go.Proofs.YtgcgnhcjjlnloaaDoor.Dk
