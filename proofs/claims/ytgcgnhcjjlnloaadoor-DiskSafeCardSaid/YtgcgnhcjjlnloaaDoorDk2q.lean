/- Lemmas towards the law: what of the text Dk2 it needs. -/
import Derived.Test.YtgcgnhcjjlnloaaDoorDk1q
namespace Go.Proofs.YtgcgnhcjjlnloaaDoor.Dk
open Go.RowKit Go.Proofs.YtgcgnhcjjlnloaaDoorW.PrintWords Go.Proofs.YtgcgnhcjjlnloaaDoor.Sl
set_option linter.unusedVariables false
set_option linter.unusedSimpArgs false
def strV (s : ByteArray) : Value := .string s
theorem bb_eq (x y : ByteArray) : (x == y) = decide (x = y) := by
  cases x with | mk a =>
  cases y with | mk b =>
  show (a == b) = _
  by_cases e : a = b
  · subst e; simp
  · simp [e]
theorem strKeyOK {P : Program} {kt : TypeId} (h : P.underlying kt = some .string) : KeyOK P kt strV (fun _ => True) where
  eq := fun x y w _ _ => by
    show (Op.equalIn 10000 _ (.string x) (.string y)).run _ _ = _
    rw [Op.equalIn]
    simp only [Sem.run_bind, run_underlying h, Result.andThen_ok]
    simp
    exact bb_eq x y
  chk := fun b x w _ => by
    show (Instr.checkKey b 10000 _ (.string x)).run _ _ = _
    rw [Instr.checkKey]
    simp only [Sem.run_bind, run_underlying h, Result.andThen_ok]
    simp
  same := fun x _ => by simp [Instr.sameBits, strV, bb_eq]
  und := ⟨_, h, .inr (fun x y => by simp [Instr.sameNow, strV, bb_eq])⟩
structure Fi where
  A : Option Addr
  c : Nat
  xs : List Int
  safe : Nat
def fi0 : Fi := ⟨none, 0, [], 0⟩
def Fi.enc (f : Fi) : Value := .agg #[.slice f.A f.xs.length f.c, .int .i64 f.safe]
abbrev FM := List (ByteArray × Fi)
def mpF (g : Nat) (m : FM) : HP := mp g strV Fi.enc (fun _ => True) m
section
variable {P : Program} {κ ν : Type} [DecidableEq κ] {kt : TypeId} {enc : κ → Value} {encV : ν → Value} {q : κ → Prop}
variable {ops : Array Oper} {rest : List Oper} {o : Oper} {a : Act} {Q : Exit → Act → World → Prop}
/-- m[k], of two results -/
theorem sh_lookup2 {w0 W : World} {is : List HP} (HS : SH w0 W is) (hw : Region.wanted o (yielded ops a.tmps) = true) {t : TypeId} {m k : Operand} (ho : o.op = .lookup t m k true)
    {g : Nat} (hm : a.eval m = .map (some g)) (n : Nat) {mm : List (κ × ν)} (hn : is[n]? = some (mp g enc encV q mm)) (kk : κ) (hk : a.eval k = enc kk) (hq : q kk)
    {et : TypeId} (ht : P.underlying t = some (.map kt et)) (K : KeyOK P kt enc q) {z : ν} (hz : (P.info? et).bind (·.zero) = some (encV z))
    (h : wpList P ops Q rest (a.put o.dst (.tuple #[encV ((mget mm kk).getD z), .bool (mget mm kk).isSome])) W) : WP P ops Q (o :: rest) a W := by
  refine ⟨?_⟩
  obtain ⟨es, clock, hh, hp, hqs, hb, hnd⟩ := HS.at n hn
  have hf := run_findKey (encV := encV) K hq W mm es.toList hp hqs
  obtain ⟨inf, hi, hz⟩ := Option.bind_eq_some_iff.1 hz
  have hzv : (zeroValue et).run P W = .ok (encV z) W := by simp [zeroValue, typeInfo, hi, hz]
  have hl := mget_atFrom mm kk 0
  refine run_step hw ?_ h
  unfold execOp
  simp only [ho, hm, hk]
  cases ha : atFrom mm kk 0 with
  | none =>
    rw [ha] at hf hl
    simp only [Option.map_none] at hf hl
    rw [← hl]
    simp [Instr.lookup, run_underlying ht, run_getObj hh, K.chk _ _ _ hq, hf, hzv]
  | some r =>
    rw [ha] at hf hl
    simp only [Option.map_some] at hf hl
    rw [← hl]
    simp [Instr.lookup, run_underlying ht, run_getObj hh, K.chk _ _ _ hq, hf, hzv]
end
/-- the bytes of files that lie about -/
def poolI (L : List (Option Addr × List Int)) (S : Nat → Prop) : HP where
  fp := S
  ok := fun w => ∀ p ∈ L, Rd (ints .u8) 1 w p.1 p.2.length p.2 ∧ inS S p.1
  loc := fun h k p hp => ⟨(k p hp).1.loc (fun ad e => h _ ((k p hp).2 ad e)), (k p hp).2⟩
theorem Rd.pre {w : World} {A : Option Addr} {n k : Nat} {xs : List Int} (h : Rd (ints .u8) 1 w A n xs) (hk : k ≤ n) : Rd (ints .u8) 1 w A k (xs.take k) := by
  refine ⟨by rw [List.length_take, h.len.1]; omega, by have := h.len.2; omega, fun h0 => ?_⟩
  obtain ⟨ad, e, hr⟩ := h.2.2 (by omega)
  refine ⟨ad, e, fun j p hj => ?_⟩
  have : xs[j]? = some p := by
    rw [List.getElem?_take] at hj
    split at hj
    · exact hj
    · cases hj
  exact hr j p this
theorem pool_rd {w0 w : World} {is : List HP} (HS : SH w0 w is) (n : Nat) {L : List (Option Addr × List Int)} {S : Nat → Prop} (hn : is[n]? = some (poolI L S)) {A : Option Addr} {xs : List Int} (h : (A, xs) ∈ L) : Rd (ints .u8) 1 w A xs.length xs := (HS.at n hn _ h).1
theorem pool_pre {w0 w : World} {is : List HP} (HS : SH w0 w is) (n : Nat) {L : List (Option Addr × List Int)} {S : Nat → Prop} (hn : is[n]? = some (poolI L S)) {A : Option Addr} {xs : List Int} (h : (A, xs) ∈ L) (k : Nat) (hk : k ≤ xs.length) : SH w0 w (is.set n (poolI ((A, xs.take k) :: L) S)) := by
  refine HS.say n hn (fun ho => ?_) (fun b hb => hb)
  rintro p (_ | ⟨_, hp⟩)
  · have h1 := ho _ h
    have h2 := Rd.pre h1.1 hk
    have e : (xs.take k).length = k := by rw [List.length_take]; omega
    exact ⟨by show Rd _ _ _ _ (xs.take k).length _; rw [e]; exact h2, h1.2⟩
  · exact ho p hp
theorem pool_add {w0 w : World} {is : List HP} (HS : SH w0 w is) (n m : Nat) (hne : n ≠ m) {L : List (Option Addr × List Int)} {S S' : Nat → Prop} (hn : is[n]? = some (poolI L S)) {A : Option Addr} {xs : List Int} {c k : Nat} (hm : is[m]? = some (row u8K 5 (.slice A k c) xs S')) : SH w0 w ((is.set m noI).set n (poolI ((A, xs) :: L) (fun b => S b ∨ S' b))) := by
  have hk : k = xs.length := by
    obtain ⟨A', c', he, _⟩ := row_rd HS m hm
    injection he
  subst hk
  have H1 := SH.toRd (hl := ints_len .u8) (h1 := ints_one .u8) HS m hm
  have hn1 : (is.set m (rdI (ints .u8) 1 A xs.length xs S'))[n]? = some (poolI L S) := by rw [List.getElem?_set_ne (fun e => hne e.symm)]; exact hn
  have hm1 : (is.set m (rdI (ints .u8) 1 A xs.length xs S'))[m]? = some (rdI (ints .u8) 1 A xs.length xs S') := by
    have := (List.getElem?_eq_some_iff.1 hm).1
    rw [List.getElem?_set_self (by simpa using this)]
  have H2 := H1.merge n m hne (i' := poolI ((A, xs) :: L) (fun b => S b ∨ S' b)) hn1 hm1 (fun h1 h2 => by
    rintro p (_ | ⟨_, hp⟩)
    · exact ⟨h2.1, h2.2.mono (fun b hb => .inr hb)⟩
    · exact ⟨(h1 p hp).1, (h1 p hp).2.mono (fun b hb => .inl hb)⟩) (fun b hb => hb)
  rwa [List.set_set] at H2
end Go.Proofs.YtgcgnhcjjlnloaaDoor.Dk
