import Derived.Test.YtkfopjonhhldnaaNodI
namespace Go.Proofs.Ytkfopjonhhldnaa.Nod
open Go.RowKit Go.Proofs.YtkfopjonhhldnaaW.PrintWords Go.Proofs.Ytkfopjonhhldnaa.Sl
set_option linter.unusedVariables false
set_option linter.unusedSimpArgs false
/-! The library's Sort, of at most seven numbers. -/
set_option maxHeartbeats 1600000 in
set_option maxRecDepth 100000 in
theorem len64_any (n : Nat) (hn : n ≤ 7) (w : World) : Calls Try.prog 49 #[.int .u64 n] w (fun e w' => (∃ v, e = .returned (.int .i64 v)) ∧ Below w.heap.size w w') := by
  have HS := Aside0.mk (SH.start w)
  have hc : n = 0 ∨ n = 1 ∨ n = 2 ∨ n = 3 ∨ n = 4 ∨ n = 5 ∨ n = 6 ∨ n = 7 := by omega
  rcases hc with rfl | rfl | rfl | rfl | rfl | rfl | rfl | rfl
  all_goals
    go_enter Try.func49, Try.ntmps49
    go_wp2
    go_ret
    exact ⟨⟨_, rfl⟩, HS.out.below⟩
theorem len_any (n : Nat) (hn : n ≤ 7) (w : World) : Calls Try.prog 38 #[.int .u64 n] w (fun e w' => (∃ v, e = .returned (.int .i64 v)) ∧ Below w.heap.size w w') := by
  have HS := Aside0.mk (SH.start w)
  go_enter Try.func38, Try.ntmps38
  go_wp2_with (first | (go_at_call 49; (with_reducible refine (len64_any n hn _).mono ?_); rintro e w2 ⟨⟨v, rfl⟩, hb⟩;  have HS1 := HS.out.quiet hb; clear HS hb; have HS := Aside0.mk HS1; clear HS1))
  go_ret
  exact ⟨⟨_, rfl⟩, HS.out.below⟩
/-- what a sort leaves -/
def SortPost (w0 : World) (g : Nat) (xs : List Int) (e : Ending) (w' : World) : Prop := ∃ (cs' : List Value) (ys : List Int), e = .returned (.tuple #[]) ∧ ys.length = xs.length ∧ Srt ys ys.length ∧ (∀ p, ys.countP p = xs.countP p) ∧ Mem cs' ys ∧ SH w0 w' [blk g cs' 34]
set_option maxHeartbeats 1600000 in
set_option maxRecDepth 100000 in
theorem pdq_any {w0 : World} (g : Nat) (cs : List Value) (xs : List Int) (c : Nat) (lim : Int) (w : World) (HS0 : SH w0 w [blk g cs 34]) (hm : Mem cs xs) (hc : xs.length ≤ c) (hl : xs.length ≤ 7) :
    Calls Try.prog 37 #[.slice (some ⟨g, 0, none⟩) xs.length c, .int .i64 0, .int .i64 xs.length, .int .i64 lim] w (SortPost w0 g xs) := by
  have HS := Aside0.mk HS0
  have HM := Aside0.mk hm
  clear HS0 hm
  obtain ⟨n, hn⟩ : ∃ n, xs.length = n := ⟨_, rfl⟩
  have HC := Aside0.mk hc
  have HL := Aside0.mk (show xs.length ≤ 9223372036854775807 by omega)
  have HINS := Aside0.mk (fun (w : World) (HS0 : SH w0 w [blk g cs 34]) => insSort_any g cs xs c w HS0 HM.out HC.out HL.out)
  rw [hn] at HINS
  rw [hn] at hc hl ⊢
  have HNX := Aside0.mk hn
  clear HC HL hn
  have hle : decide ((n : Int) ≤ 12) = true := by rw [decide_eq_true_eq]; omega
  go_enter Try.func37, Try.ntmps37
  go_wp2
  go_loopw [1, 2, 3] (fun v1 v2 v3 wr => v1 = .int .i64 0 ∧ v2 = .int .i64 n ∧ v3 = .int .i64 lim ∧ Aside0 (SH w0 wr [blk g cs 34])) (fun _ _ _ _ => 0)
  case atStart => exact ⟨rfl, rfl, rfl, HS⟩
  case round =>
    clear HS
    obtain ⟨rfl, rfl, rfl, HS⟩ := hrel
    go_wp2_with (first | (go_at_call 39; (with_reducible refine (HINS.out _ HS.out).mono ?_); rintro e w2 ⟨cs', ys, rfl, h1, h2, h3, h4, h5⟩; have HP := Aside0.mk (And.intro h1 (And.intro h2 (And.intro h3 (And.intro h4 h5)))); clear h1 h2 h3 h4 h5))
    (try simp only [Exit.inBlock, Exit.then]); first | refine bodyPost_end (results_none rfl _ _ _) rfl ?_ | refine bodyPost_ret (results_none rfl _ _ _) rfl ?_
    obtain ⟨h1, h2, h3, h4, h5⟩ := HP.out
    exact ⟨cs', ys, rfl, h1.trans HNX.out.symm, h2, h3, h4, h5⟩
set_option maxHeartbeats 1600000 in
theorem sort_any {w0 : World} (g : Nat) (cs : List Value) (xs : List Int) (c : Nat) (w : World) (HS0 : SH w0 w [blk g cs 34]) (hm : Mem cs xs) (hc : xs.length ≤ c) (hl : xs.length ≤ 7) :
    Calls Try.prog 34 #[.slice (some ⟨g, 0, none⟩) xs.length c] w (SortPost w0 g xs) := by
  have HS := Aside0.mk HS0
  have HM := Aside0.mk hm
  clear HS0 hm
  obtain ⟨n, hn⟩ : ∃ n, xs.length = n := ⟨_, rfl⟩
  have HC := Aside0.mk hc
  have HL := Aside0.mk hl
  have HPD := Aside0.mk (fun (lim : Int) (w : World) (HS0 : SH w0 w [blk g cs 34]) => pdq_any g cs xs c lim w HS0 HM.out HC.out HL.out)
  rw [hn] at HPD
  rw [hn] at hc hl ⊢
  have HLN := Aside0.mk (fun (w : World) => len_any n hl w)
  have HNX := Aside0.mk hn
  clear HC HL hn
  go_enter Try.func34, Try.ntmps34
  go_wp2_with (first | (go_at_call 38; (with_reducible refine (HLN.out _).mono ?_); rintro e w2 ⟨⟨v, rfl⟩, hb⟩;  have HS1 := HS.out.quiet hb; clear HS hb; have HS := Aside0.mk HS1; clear HS1) | (go_at_call 37; (with_reducible refine (HPD.out _ _ HS.out).mono ?_); rintro e w2 ⟨cs', ys, rfl, h1, h2, h3, h4, h5⟩; have HP := Aside0.mk (And.intro h1 (And.intro h2 (And.intro h3 (And.intro h4 h5)))); clear h1 h2 h3 h4 h5))
  (try simp only [Exit.inBlock, Exit.then]); first | refine bodyPost_end (results_none rfl _ _ _) rfl ?_ | refine bodyPost_ret (results_none rfl _ _ _) rfl ?_
  obtain ⟨h1, h2, h3, h4, h5⟩ := HP.out
  exact ⟨cs', ys, rfl, h1, h2, h3, h4, h5⟩
end Go.Proofs.Ytkfopjonhhldnaa.Nod
