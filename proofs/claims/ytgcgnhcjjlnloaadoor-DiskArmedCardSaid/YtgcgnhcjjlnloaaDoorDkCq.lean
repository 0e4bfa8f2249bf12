/- Lemmas towards the law: what of the text DkC it needs. -/
import Derived.Test.YtgcgnhcjjlnloaaDoorDkBq
import Derived.Lib.ConvBytes
import Derived.Laws.BytesString
namespace Go.Proofs.YtgcgnhcjjlnloaaDoor.Dk
open Go.RowKit Go.Proofs.YtgcgnhcjjlnloaaDoorW.PrintWords Go.Proofs.YtgcgnhcjjlnloaaDoor.Sl
set_option linter.unusedVariables false
set_option linter.unusedSimpArgs false
/-- a text's bytes -/
def bi (s : ByteArray) : List Int := s.data.toList.map fun b => (b.toNat : Int)
theorem bi_len (s : ByteArray) : (bi s).length = s.size := by unfold bi; rw [List.length_map, Array.length_toList]; rfl
section
variable {P : Program} {ops : Array Oper} {rest : List Oper} {o : Oper} {a : Act} {Q : Exit → Act → World → Prop}
theorem gCv {W : World} {ts td : TypeId} {x : Operand} (_ho : o.op = .convert ts td x) (h : WP P ops Q (o :: rest) a W) : wpList P ops Q (o :: rest) a W := h.out
/-- []byte(s) -/
theorem sh_toBytes {w0 W : World} {is : List HP} (HS : SH w0 W is) (hw : Region.wanted o (yielded ops a.tmps) = true) {ts td e : TypeId} {x : Operand} (ho : o.op = .convert ts td x) {s : ByteArray} (hx : a.eval x = .string s) {u : TypeDesc}
    (hs : P.underlying ts = some u) (hd : P.underlying td = some (.slice e)) (he : P.underlying e = some (.int .u8)) (hsz : s.size ≤ 9223372036854775807)
    (h : ∀ g c w1, w0.heap.size ≤ g → s.size ≤ c → SH w0 w1 (is ++ [rdI (ints .u8) 1 (some ⟨g, 0, none⟩) s.size (bi s) (fun b => b = g)]) → wpList P ops Q rest (a.put o.dst (.slice (some ⟨g, 0, none⟩) s.size c)) w1) : WP P ops Q (o :: rest) a W := by
  have h1 := Lib.run_convert_string_bytes (P := P) W ts td e s hs hd he
  have hb : Below W.heap.size W (Lib.bytesWorld W e s) := ⟨rfl, rfl, rfl, by rw [Lib.bytesWorld_size]; omega, fun k hk => Lib.bytesWorld_at_old W e s k hk⟩
  have hin : (rdI (ints .u8) 1 (some ⟨W.heap.size, 0, none⟩) s.size (bi s) (fun b => b = W.heap.size)).ok (Lib.bytesWorld W e s) := ⟨?_, ?_⟩
  · refine ⟨run_step hw (v := .slice (some ⟨W.heap.size, 0, none⟩) s.size (grownCap W s.size 0 e)) (w1 := Lib.bytesWorld W e s) ?_ (h W.heap.size (grownCap W s.size 0 e) (Lib.bytesWorld W e s) HS.size (grownCap_ge W s.size 0 e) (HS.push hb hin (fun b hb => by cases hb; exact ⟨Nat.le_refl _, by rw [Lib.bytesWorld_size]; omega⟩)))⟩
    unfold execOp
    simp only [ho, hx]
    simp [go_sem, h1]
  · refine ⟨bi_len s, hsz, fun _ => ⟨_, rfl, fun j p hj => ⟨[.int .u8 p], rfl, rfl, fun i v hv => ?_⟩⟩⟩
    have hjl : j < s.size := by rw [← bi_len s]; exact (List.getElem?_eq_some_iff.1 hj).1
    have hc := Lib.bytesWorld_cell W e s j hjl
    cases i with
    | zero =>
      have hv' : Value.int .u8 p = v := by simpa using hv
      subst hv'
      have hp : p = ((s.data.toList.getD j 0).toNat : Int) := by
        unfold bi at hj
        rw [List.getElem?_map] at hj
        obtain ⟨y, hy, rfl⟩ := Option.map_eq_some_iff.1 hj
        rw [List.getD_eq_getElem?_getD, hy]
        rfl
      rw [hp, ← hc]
      simp [Addr.add]
      by_cases h0 : j = 0
      · rw [if_pos h0, h0]
      · rw [if_neg h0]
    | succ i => simp at hv
  · intro ad e'
    cases e'
    rfl
theorem push_fold : ∀ (ns : List Int) (s : List UInt8), ns.foldl (fun r n => r.push (UInt8.ofNat n.toNat)) (bs s) = bs (s ++ ns.map (fun n => UInt8.ofNat n.toNat))
  | [], s => by simp
  | n :: ns, s => by
    have e : (bs s).push (UInt8.ofNat n.toNat) = bs (s ++ [UInt8.ofNat n.toNat]) := by
      apply ByteArray.ext
      simp [bs, ByteArray.push]
    rw [List.foldl_cons, e, push_fold ns, List.append_assoc, List.map_cons]
    rfl
/-- string(b) -/
theorem sh_ofBytes {W : World} (hw : Region.wanted o (yielded ops a.tmps) = true) {ts td e : TypeId} {x : Operand} (ho : o.op = .convert ts td x) {ad : Addr} {m c : Nat} (hx : a.eval x = .slice (some ad) m c) {xs : List Int} (HR : Rd (ints .u8) 1 W (some ad) m xs)
    (hs : P.underlying ts = some (.slice e)) (he : P.underlying e = some (.int .u8)) (hd : P.underlying td = some .string)
    (h : wpList P ops Q rest (a.put o.dst (.string (bs (xs.map fun n => UInt8.ofNat n.toNat)))) W) : WP P ops Q (o :: rest) a W := by
  refine ⟨run_step hw ?_ h⟩
  have hld : (loadCells ad m).run P W = .ok (xs.map (Value.int .u8)).toArray W := by
    have := run_loadCells_list (P := P) W ad (xs.map (Value.int .u8)) (fun j v hj => by
      rw [List.getElem?_map] at hj
      obtain ⟨y, hy, rfl⟩ := Option.map_eq_some_iff.1 hj
      have hjl := (List.getElem?_eq_some_iff.1 hy).1
      rw [HR.len.1] at hjl
      have := HR.cell 0 hjl 0 (u := .int .u8 y) (by rw [List.getD_eq_getElem?_getD, hy]; rfl)
      rwa [Nat.mul_one, Nat.add_zero] at this)
    rwa [List.length_map, HR.len.1] at this
  have h1 := run_convert_bytes_string (P := P) W ts td e (some ad) m c hs he hd
  rw [run_bytesToString W ad m c xs hld, show ByteArray.empty = bs [] from rfl, push_fold, List.nil_append] at h1
  unfold execOp
  simp only [ho, hx]
  simp [go_sem, h1]
end
end Go.Proofs.YtgcgnhcjjlnloaaDoor.Dk
