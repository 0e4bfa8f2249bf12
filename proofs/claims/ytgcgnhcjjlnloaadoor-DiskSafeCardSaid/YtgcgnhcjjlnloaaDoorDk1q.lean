/- Lemmas towards the law: what of the text Dk1 it needs. -/
import Derived.Test.YtgcgnhcjjlnloaaDoorDk0q
import Derived.Test.YtgcgnhcjjlnloaaDoorDkLq
namespace Go.Proofs.YtgcgnhcjjlnloaaDoor.Dk
open Go.RowKit Go.Proofs.YtgcgnhcjjlnloaaDoorW.PrintWords Go.Proofs.YtgcgnhcjjlnloaaDoor.Sl Go.Shelf
set_option linter.unusedVariables false
set_option linter.unusedSimpArgs false
def GrowPost (w : World) (e : Ending) (w' : World) : Prop := ∃ v S, e = .returned v ∧ SH w w' [row u8K 5 v [] S]
theorem info5 : ∃ i0, Tryd.prog.info? 5 = some i0 ∧ i0.zero = some (.int .u8 0) ∧ i0.size = 1 ∧ i0.bytes = 1 := by
  obtain ⟨i, hi, he⟩ := Option.map_eq_some_iff.1 infoU8
  injection he with h1 he
  injection he with h2 h3
  exact ⟨i, hi, h1, h2, h3⟩
theorem grow_any (n : Nat) (w : World) (hn : n ≤ 140737488355328) : Calls Tryd.prog 37 #[.slice none 0 0, .int .i64 n] w (GrowPost w) := by
  by_cases h0 : n = 0
  · subst h0
    refine (Any8.slices_Grow_room Tryd.growL none 0 0 0 w (Nat.le_refl _) (by omega) (by omega) (by omega)).mono ?_
    rintro e w' ⟨rfl, rfl⟩
    exact ⟨_, _, rfl, (SH.start w').nil u8K 5⟩
  · obtain ⟨i0, hi, hz, hs, hb⟩ := info5
    refine (Any8.slices_Grow_grow Tryd.growL i0 (.int .u8 0) hi hz (by omega) none 0 0 n [] w (Nat.le_refl _) (by omega) (by rw [hb]; omega) (by omega) (by rw [Nat.zero_mul]; rfl) (fun _ => rfl) (fun a h => by cases h)).mono ?_
    rintro e w' ⟨rfl, rfl⟩
    have hge := grownCap_ge w (0 + n) 0 (Tryd.growL_ren.t 25)
    have hle := grownCap_le_maxLen w (0 + n) 0 (Tryd.growL_ren.t 25) (by unfold maxLen; omega)
    obtain ⟨G, hG⟩ : ∃ G, grownCap w (0 + n) 0 (Tryd.growL_ren.t 25) = G := ⟨_, rfl⟩
    rw [hG] at hge hle ⊢
    refine ⟨_, fun b => b = w.heap.size, rfl, ?_⟩
    have hbel : Below w.heap.size w (w.drew.alloc (.cells ((([] : List Value).toArray ++ Builtin.zeroCells (Value.int .u8 0).cells (0 + n - 0)) ++ Builtin.zeroCells (Value.int .u8 0).cells (G - (0 + n))) (Tryd.growL_ren.t 25))) := (Below.refl _ _).drew.alloc (Nat.le_refl _) _
    have hp := (SH.start w).push hbel (i := row u8K 5 (.slice (some ⟨w.heap.size, 0, none⟩) 0 G) [] (fun b => b = w.heap.size)) ⟨fun k hk => (by simpa [Value.ownBlock] using hk.symm), [], ⟨rfl, .inr ⟨w.heap.size, G, _, rfl, Nat.zero_le _, MapKept.heap_alloc w.drew _ |>.1, Nat.zero_le _, hle, ?_, by simp⟩⟩, reps_flat (ints_len .u8) []⟩ (fun b hb => by
      subst hb
      refine ⟨Nat.le_refl _, ?_⟩
      have := (MapKept.heap_alloc w.drew (.cells ((([] : List Value).toArray ++ Builtin.zeroCells (Value.int .u8 0).cells (0 + n - 0)) ++ Builtin.zeroCells (Value.int .u8 0).cells (G - (0 + n))) (Tryd.growL_ren.t 25))).1
      exact (Array.getElem?_eq_some_iff.1 this).1)
    · simpa using hp
    · have e1 : (Value.int .u8 0).cells.size = 1 := rfl
      have e2 : u8K.sz = 1 := rfl
      simp [Builtin.zeroCells, e1, e2]
      omega
theorem grow_two (n m : Nat) (w : World) (hn : n + m ≤ 140737488355328) : Calls Tryd.prog 37 #[.slice none 0 0, .int .i64 ((n : Int) + (m : Int))] w (GrowPost w) := by
  have := grow_any (n + m) w hn
  rwa [Int.natCast_add] at this
def valK (v : Value) : List Value := [v]
def CatPost (w : World) (zs : List Int) (e : Ending) (w' : World) : Prop := ∃ v S, e = .returned v ∧ SH w w' [row u8K 5 v zs S]
set_option maxHeartbeats 3200000 in
set_option maxRecDepth 100000 in
theorem concat_any (G : Option Addr) (A B : Option Addr) (n1 n2 c1 c2 : Nat) (xs ys : List Int) (w : World) (hg : Rd valK 1 w G 2 [.slice A n1 c1, .slice B n2 c2]) (hr1 : Rd (ints .u8) 1 w A n1 xs) (hr2 : Rd (ints .u8) 1 w B n2 ys) (hlim : n1 + n2 ≤ 140737488351232) :
    Calls Tryd.prog 21 #[.slice G 2 2] w (CatPost w (xs ++ ys)) := by
  obtain ⟨ad, rfl⟩ := hg.addr (by omega)
  have HG := Aside0.mk hg
  have HR1 := Aside0.mk hr1
  have HR2 := Aside0.mk hr2
  have hl1 := hr1.len.1
  have hl2 := hr2.len.1
  have HL1 := Aside0.mk hl1
  have HL2 := Aside0.mk hl2
  clear hg hr1 hr2 hl1 hl2
  have HX0 := Aside0.mk (show ([.slice A n1 c1, .slice B n2 c2] : List Value).getD 0 (.bool false) = .slice A n1 c1 from rfl)
  have HX1 := Aside0.mk (show ([.slice A n1 c1, .slice B n2 c2] : List Value).getD 1 (.bool false) = .slice B n2 c2 from rfl)
  have HS := Aside0.mk (SH.start w)
  have w1 : IntKind.i64.wrap (n1 : Int) = (n1 : Int) := by simp [IntKind.wrap, IntKind.bits, IntKind.signed]; omega
  have w2 : IntKind.i64.wrap ((n1 : Int) + (n2 : Int)) = (n1 : Int) + (n2 : Int) := by simp [IntKind.wrap, IntKind.bits, IntKind.signed]; omega
  go_enter Tryd.func21, Tryd.ntmps21
  go_wp2
  go_loop [3, 11] (fun v3 v11 => (v11 = .int .i64 0 ∧ v3 = .int .i64 0) ∨ (v11 = .int .i64 1 ∧ v3 = .int .i64 n1) ∨ (v11 = .int .i64 2 ∧ v3 = .int .i64 ((n1 + n2 : Nat) : Int))) (fun _ v11 => 2 - (intOf v11).toNat)
  case atStart => exact .inl ⟨rfl, rfl⟩
  case round =>
    rcases hrel with ⟨rfl, rfl⟩ | ⟨rfl, rfl⟩ | ⟨rfl, rfl⟩
    · have HG2 := HG
      go_wp2_with (first | ((with_reducible refine gLd rfl ?_); refine rd_load1 (enc := fun v => v) HG2.out rfl rfl (i := 0) rfl (by decide) (.bool false) ((agT _ (by decide)).trans rfl) ?_; intro x hx; obtain rfl := HX0.out.symm.trans hx; (try simp only [aP, aN, aT, aZ, aS])))
      all_goals (try (exfalso; omega))
      go_round
      case rel => exact .inr (.inl ⟨rfl, by go_num⟩)
      case measure => simp [intOf]
    · have HG2 := HG
      go_wp2_with (first | ((with_reducible refine gLd rfl ?_); refine rd_load1 (enc := fun v => v) HG2.out rfl rfl (i := 1) rfl (by decide) (.bool false) ((agT _ (by decide)).trans rfl) ?_; intro x hx; obtain rfl := HX1.out.symm.trans hx; (try simp only [aP, aN, aT, aZ, aS])))
      all_goals (try (exfalso; omega))
      go_round
      case rel => exact .inr (.inr ⟨rfl, by go_num⟩)
      case measure => simp [intOf]
    · have hlim2 : n1 + n2 ≤ 140737488355328 := by omega
      go_upto_region 10 with (first | (go_at_call 37; (with_reducible refine (grow_two n1 n2 _ hlim2).mono ?_); rintro e w3 ⟨v, S, rfl, HS1⟩))
      clear HS
      have HS := Aside0.mk HS1
      clear HS1
      go_wp2
      go_loopw [6, 27] (fun v6 v27 wr => (v27 = .int .i64 0 ∧ ∃ S, Aside0 (SH w wr [row u8K 5 v6 [] S])) ∨ (v27 = .int .i64 1 ∧ ∃ S, Aside0 (SH w wr [row u8K 5 v6 xs S])) ∨ (v27 = .int .i64 2 ∧ ∃ S, Aside0 (SH w wr [row u8K 5 v6 (xs ++ ys) S]))) (fun _ v27 _ => 2 - (intOf v27).toNat)
      case atStart => exact .inl ⟨rfl, _, HS⟩
      case round =>
        clear HS
        rcases hrel with ⟨rfl, S, HS⟩ | ⟨rfl, S, HS⟩ | ⟨rfl, S, HS⟩
        · have HG2 := Aside0.mk (HG.out.sh HS.out)
          go_wp2_with (first | ((with_reducible refine gLd rfl ?_); refine rd_load1 (enc := fun v => v) HG2.out rfl rfl (i := 0) rfl (by decide) (.bool false) ((agT _ (by decide)).trans rfl) ?_; intro x hx; obtain rfl := HX0.out.symm.trans hx; (try simp only [aP, aN, aT, aZ, aS])) | ((with_reducible refine gC (b := .append) rfl ?_); refine sh_append HS.out rfl rfl rfl 0 rfl rfl (HR1.out.sh HS.out) Tryd.underlying32 infoU8 rfl (by decide) (by decide) (by simp only [List.length_nil]; omega) ?_; clear HS; intro v1 w1 S1 HS1; (simp only [aZ, aS] at HS1); have HS := Aside0.mk HS1; clear HS1; try simp only [aP, aN, aT, aZ, aS]))
          go_roundw
          case rel => exact .inr (.inl ⟨rfl, _, ⟨by have h := HS.out; rw [List.nil_append] at h; exact h⟩⟩)
          case measure => simp [intOf]
        · have HG2 := Aside0.mk (HG.out.sh HS.out)
          go_wp2_with (first | ((with_reducible refine gLd rfl ?_); refine rd_load1 (enc := fun v => v) HG2.out rfl rfl (i := 1) rfl (by decide) (.bool false) ((agT _ (by decide)).trans rfl) ?_; intro x hx; obtain rfl := HX1.out.symm.trans hx; (try simp only [aP, aN, aT, aZ, aS])) | ((with_reducible refine gC (b := .append) rfl ?_); refine sh_append HS.out rfl rfl rfl 0 rfl rfl (HR2.out.sh HS.out) Tryd.underlying32 infoU8 rfl (by decide) (by decide) (by have := HL1.out; omega) ?_; clear HS; intro v1 w1 S1 HS1; (simp only [aZ, aS] at HS1); have HS := Aside0.mk HS1; clear HS1; try simp only [aP, aN, aT, aZ, aS]))
          go_roundw
          case rel => exact .inr (.inr ⟨rfl, _, HS⟩)
          case measure => simp [intOf]
        · go_wp2
          go_ret
          exact ⟨_, _, rfl, HS.out⟩
end Go.Proofs.YtgcgnhcjjlnloaaDoor.Dk
