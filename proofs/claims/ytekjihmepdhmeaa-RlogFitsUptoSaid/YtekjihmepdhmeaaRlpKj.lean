import Derived.Test.YtekjihmepdhmeaaRlpJj
import Derived.Test.YtekjihmepdhmeaaLeMj
import Derived.Test.YtekjihmepdhmeaaLeLj
/- Lemmas towards the law: what of the text RlpK it needs. -/
namespace Go.Proofs.Ytekjihmepdhmeaa.Rlo
open Go.RowKit Go.Proofs.YtekjihmepdhmeaaW.PrintWords Go.Proofs.Ytekjihmepdhmeaa.Sl
set_option linter.unusedVariables false
set_option linter.unusedSimpArgs false
theorem rowok_rd {α : Type} {enc : α → List Value} {sz : Nat} {hl : ∀ x, (enc x).length = sz} {h1 : ∀ x, (enc x).all (·.oneCell') = true} {e : TypeId} {A : Option Addr} {m c : Nat} {xs : List α} {S : Nat → Prop} {w : World} (h : (row (flk enc sz hl h1) e (.slice A m c) xs S).ok w) : Rd enc sz w A m xs ∧ inS S A ∧ m = xs.length ∧ m ≤ c := by
  obtain ⟨A', c', he, hc, hr⟩ := Kd.R_reads h
  injection he with e1 e2 e3
  subst e1 e2 e3
  exact ⟨hr, fun ad ea => by subst ea; exact h.1 ad.block rfl, rfl, hc⟩
theorem rows_ok {d d1 : Hrd} {w wx : World} {S1 S2 S3 S4 S5 : Nat → Prop} (h : d.same d1) (hk : d.ok wx) (hc : d1.s.held.length ≤ d1.s.hc) (r : ∀ i ∈ [row (intK .i64) 3 (.slice d1.s.nA d1.s.nodes.length d1.s.nc) d1.s.nodes S1, row Led.heldK 72 (.slice d1.s.hA d1.s.held.length d1.s.hc) d1.s.held S2, row Led.lastK 76 (.slice d1.s.lA d1.s.last.length d1.s.lc) d1.s.last S3, row entK 52 (.slice d1.gA d1.log.length d1.gc) d1.log S4, nodesI d1.log S5], i.ok w) : d1.ok w where
  s := { rn := (rowok_rd (hl := ints_len .i64) (h1 := ints_one .i64) (r _ (by simp [intK]; exact .inl rfl))).1, rh := (rowok_rd (hl := Led.Held.len) (h1 := Led.Held.one) (r _ (by simp [Led.heldK]; exact .inr (.inl rfl)))).1, rl := (rowok_rd (hl := Led.Last.len) (h1 := Led.Last.one) (r _ (by simp [Led.lastK]; exact .inr (.inr (.inl rfl))))).1, hc := hc, si := by rw [h.s.si]; exact hk.s.si, st := by rw [h.s.st]; exact hk.s.st, nxt := by rw [h.s.nxt]; exact hk.s.nxt, ser := by rw [h.s.last]; exact hk.s.ser }
  rg := (rowok_rd (hl := Ent.len) (h1 := Ent.one) (r _ (by simp [entK]; exact .inr (.inr (.inr (.inl rfl)))))).1
  re := fun e he => ((r (nodesI d1.log S5) (by simp)) e he).1
  boot := by rw [h.boot]; exact hk.boot
  term := by rw [h.term]; exact hk.term
def Clone2 (d : Hrd) (w : World) (e : Ending) (w' : World) : Prop := ∃ (d1 : Hrd) (S1 S2 S3 S4 S5 : Nat → Prop), e = .returned (.agg #[.int .u64 d1.boot, .int .u64 d1.term, .int .i64 d1.vote, .int .u64 d1.s.si, .int .u64 d1.s.st, .slice d1.s.nA d1.s.nodes.length d1.s.nc, .int .i64 d1.s.lim, .int .u64 d1.s.nxt, .slice d1.s.hA d1.s.held.length d1.s.hc, .slice d1.s.lA d1.s.last.length d1.s.lc, .slice d1.gA d1.log.length d1.gc]) ∧ d.same d1 ∧ d1.s.held.length ≤ d1.s.hc ∧ d1.log.length ≤ d1.gc ∧ SH w w' [row (intK .i64) 3 (.slice d1.s.nA d1.s.nodes.length d1.s.nc) d1.s.nodes S1, row Led.heldK 72 (.slice d1.s.hA d1.s.held.length d1.s.hc) d1.s.held S2, row Led.lastK 76 (.slice d1.s.lA d1.s.last.length d1.s.lc) d1.s.last S3, row entK 52 (.slice d1.gA d1.log.length d1.gc) d1.log S4, nodesI d1.log S5]
theorem clone2_any (d : Hrd) (w : World) (hk : d.ok w) (hz : d.szd) (hh : d.s.held.length ≤ 1000) (hl : d.s.last.length ≤ 1000) : Calls Try.prog 55 #[.agg #[.int .u64 d.boot, .int .u64 d.term, .int .i64 d.vote, .int .u64 d.s.si, .int .u64 d.s.st, .slice d.s.nA d.s.nodes.length d.s.nc, .int .i64 d.s.lim, .int .u64 d.s.nxt, .slice d.s.hA d.s.held.length d.s.hc, .slice d.s.lA d.s.last.length d.s.lc, .slice d.gA d.log.length d.gc]] w (Clone2 d w) := by
  refine (cloneHard_any d w hk hz hh hl hz.g).mono ?_
  rintro e w' ⟨A1, A2, A3, A4, c1, c2, c3, c4, l', S1, S2, S3, S4, S5, rfl, hd, hc2, HS⟩
  have hlen : l'.length = d.log.length := by
    have := congrArg List.length hd
    rwa [List.length_map, List.length_map] at this
  have hc4 : d.log.length ≤ c4 := (row_hi HS 3 rfl).2
  refine ⟨⟨d.boot, d.term, d.vote, ⟨d.s.si, d.s.st, A1, c1, d.s.nodes, d.s.lim, d.s.nxt, A2, c2, d.s.held, A3, c3, d.s.last⟩, A4, c4, l'⟩, S1, S2, S3, S4, S5, ?_, ⟨rfl, rfl, rfl, ⟨rfl, rfl, rfl, rfl, rfl, rfl, rfl⟩, hd⟩, hc2, ?_, ?_⟩
  · simp only [hlen]
  · simp only [hlen]; exact hc4
  · simp only [hlen]; exact HS
theorem led_le {s : Sht} (h : shotOk s = true) : s.held.length ≤ 1000 ∧ s.last.length ≤ 1000 := by
  unfold shotOk at h
  simp only [Bool.and_eq_true] at h
  have hl := Led.isLed_iff.1 h.1.2
  have h1 : s.held.length ≤ 64 := hl.len
  have h2 : s.last.length ≤ 7 := lastLen hl
  omega
end Go.Proofs.Ytekjihmepdhmeaa.Rlo

