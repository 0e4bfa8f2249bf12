import Derived.Test.YtekjihmepdhmeaaRloE
import Derived.Test.YtekjihmepdhmeaaRlo8
import Derived.Test.YtekjihmepdhmeaaSlX
-- ENC: Ent.enc, Led.Held.enc, Led.Last.enc
-- U5
namespace Go.Proofs.Ytekjihmepdhmeaa.Rlo
open Go.RowKit Go.Proofs.YtekjihmepdhmeaaW.PrintWords Go.Proofs.Ytekjihmepdhmeaa.Sl
set_option linter.unusedVariables false
set_option linter.unusedSimpArgs false
/-! The same data give the same answers. -/
theorem hrdI_ok' {d d' : Hrd} {w0 w wx : World} {is : List HP} {S1 S2 S3 S4 S5 : Nat → Prop} (h : d.same d') (hk : d.ok wx) (hc : d'.s.held.length ≤ d'.s.hc) (HS : SH w0 w is) (n1 n2 n3 n4 n5 : Nat) (i1 : is[n1]? = some (rdI (ints .i64) 1 d'.s.nA d'.s.nodes.length d'.s.nodes S1)) (i2 : is[n2]? = some (rdI Led.Held.enc 5 d'.s.hA d'.s.held.length d'.s.held S2)) (i3 : is[n3]? = some (rdI Led.Last.enc 6 d'.s.lA d'.s.last.length d'.s.last S3)) (i4 : is[n4]? = some (rdI Ent.enc 9 d'.gA d'.log.length d'.log S4)) (i5 : is[n5]? = some (nodesI d'.log S5)) : d'.ok w where
  s := { rn := (HS.at n1 i1).1, rh := (HS.at n2 i2).1, rl := (HS.at n3 i3).1, hc := hc, si := by rw [h.s.si]; exact hk.s.si, st := by rw [h.s.st]; exact hk.s.st, nxt := by rw [h.s.nxt]; exact hk.s.nxt, ser := by rw [h.s.last]; exact hk.s.ser }
  rg := (HS.at n4 i4).1
  re := fun e he => (HS.at n5 i5 e he).1
  boot := by rw [h.boot]; exact hk.boot
  term := by rw [h.term]; exact hk.term
theorem cmdOk_data (e : Ent) : cmdOk e = cmdOk e.data := rfl
theorem logGo_data (t : Int) : ∀ (l l' : List Ent) (p : Int), l'.map Ent.data = l.map Ent.data → logGo t l' p = logGo t l p
  | [], [], _, _ => rfl
  | [], y :: ys, _, h => by simp at h
  | x :: xs, [], _, h => by simp at h
  | x :: xs, y :: ys, p, h => by
    simp only [List.map_cons, List.cons.injEq] at h
    have h1 : y.term = x.term := show y.data.term = x.data.term by rw [h.1]
    rw [logGo, logGo, cmdOk_data y, cmdOk_data x, h.1, h1, logGo_data t xs ys _ h.2]
theorem same_hardOk {d d' : Hrd} (h : d.same d') : hardOk d' = hardOk d := by
  have hh : headOk d' = headOk d := by
    unfold headOk shotOk lastOf
    rw [h.boot, h.term, h.vote, h.s.si, h.s.st, h.s.nodes, h.s.lim, h.s.nxt, h.s.held, h.s.last, same_len h]
  unfold hardOk
  rw [hh, h.term, h.s.st, logGo_data _ _ _ _ h.log]
theorem confB_data (si u : Int) (l l' : List Ent) (z : Int × List Int) (h : l'.map Ent.data = l.map Ent.data) : ∀ k, k ≤ l.length → confB si u l' z k = confB si u l z k
  | 0, _ => rfl
  | k + 1, hk => by
    obtain ⟨A, c, he⟩ := same_at h (k := k) (by omega)
    rw [confB, confB, he, confB_data si u l l' z h k (by omega)]
    rfl
theorem same_conf {d d' : Hrd} (h : d.same d') (u : Int) : confG d' u = confG d u := by
  unfold confG
  rw [same_hardOk h, h.s.si, h.s.nodes, same_len h, confB_data _ _ _ _ _ h.log _ (Nat.le_refl _)]
theorem confM (d d' : Hrd) (u ri : Int) (rl : List Int) (w : World) (h : d.same d') (hk : d'.ok w) (hz : d'.szd) (hr : confG d u = (ri, rl)) : Calls Try.prog 19 #[.agg #[.int .u64 d'.boot, .int .u64 d'.term, .int .i64 d'.vote, .int .u64 d'.s.si, .int .u64 d'.s.st, .slice d'.s.nA d'.s.nodes.length d'.s.nc, .int .i64 d'.s.lim, .int .u64 d'.s.nxt, .slice d'.s.hA d'.s.held.length d'.s.hc, .slice d'.s.lA d'.s.last.length d'.s.lc, .slice d'.gA d'.log.length d'.gc], .int .u64 u] w
    (fun e w' => ∃ A c S, e = .returned (.tuple #[.int .u64 ri, .slice A rl.length c]) ∧ SH w w' [row (intK .i64) 3 (.slice A rl.length c) rl S]) := by
  have := conf_any d' u w hk hz
  rw [same_conf h, hr] at this
  exact this
theorem refConfM (d : Hrd) (u ri : Int) (rl : List Int) (w : World) (hk : d.ok w) (hz : d.szd) (hr : confG d u = (ri, rl)) : Calls Try.prog 20 #[.agg #[.int .u64 d.boot, .int .u64 d.term, .int .i64 d.vote, .int .u64 d.s.si, .int .u64 d.s.st, .slice d.s.nA d.s.nodes.length d.s.nc, .int .i64 d.s.lim, .int .u64 d.s.nxt, .slice d.s.hA d.s.held.length d.s.hc, .slice d.s.lA d.s.last.length d.s.lc, .slice d.gA d.log.length d.gc], .int .u64 u] w
    (fun e w' => ∃ A c S, e = .returned (.tuple #[.int .u64 ri, .slice A rl.length c]) ∧ SH w w' [row (intK .i64) 3 (.slice A rl.length c) rl S]) := by
  have := refConf_any d u w hk hz
  rw [hr] at this
  exact this
theorem exD_szd (gn gl : Nat) : (exD gn gl).szd where
  s := { n := (by decide : 1 * 8 ≤ 140737488351232), h := (by decide : 0 * 40 ≤ 140737488351232), l := (by decide : 0 * 48 ≤ 140737488351232) }
  g := (by decide : 2 * 88 ≤ 140737488351232)
  e := fun e he => by
    have : e = exE 2 ∨ e = exE 3 := by simpa [exD] using he
    rcases this with rfl | rfl
    · exact (by decide : 0 * 8 ≤ 140737488351232)
    · exact (by decide : 0 * 8 ≤ 140737488351232)
theorem exConf (gn gl : Nat) (w : World) (hk : (exD gn gl).ok w) : Calls Try.prog 19 #[.agg #[.int .u64 0, .int .u64 3, .int .i64 0, .int .u64 5, .int .u64 2, .slice (some ⟨gn, 0, none⟩) 1 1, .int .i64 2, .int .u64 1, .slice none 0 0, .slice none 0 0, .slice (some ⟨gl, 0, none⟩) 2 2], .int .u64 9] w
    (fun e w' => ∃ A c S, e = .returned (.tuple #[.int .u64 5, .slice A 1 c]) ∧ SH w w' [row (intK .i64) 3 (.slice A 1 c) [1] S]) := by
  have h := conf_any (exD gn gl) 9 w hk (exD_szd gn gl)
  have e : confG (exD gn gl) 9 = (5, [1]) := by kernel_rfl
  rw [e] at h
  exact h
end Go.Proofs.Ytekjihmepdhmeaa.Rlo
