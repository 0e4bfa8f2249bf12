/- Lemmas towards the law: what of the text DkP4 it needs. -/
import Derived.Test.YtgcgnhcjjlnloaaDoorDkP3q
import Derived.Test.YtgcgnhcjjlnloaaDoorDkNq
import Derived.Test.YtgcgnhcjjlnloaaDoorDkBq
namespace Go.Proofs.YtgcgnhcjjlnloaaDoor.Dk
open Go.RowKit Go.Proofs.YtgcgnhcjjlnloaaDoorW.PrintWords Go.Proofs.YtgcgnhcjjlnloaaDoor.Sl
set_option linter.unusedVariables false
set_option linter.unusedSimpArgs false
theorem DOk.up {Bd Bd' : Nat} {left : Int} {armed : Bool} {m : FM} {L : List (Option Addr × List Int)} (h : DOk Bd left armed m L) (hb : Bd ≤ Bd') : DOk Bd' left armed m L := ⟨h.nd, h.small, h.len, h.ok.up hb, h.lf⟩
theorem XOk.up {Bd Bd' : Nat} {x : RDk} (h : XOk Bd x) (hb : Bd ≤ Bd') : XOk Bd' x := ⟨h.len, fun f hf => ⟨(h.each f hf).1, (h.each f hf).2.1, Nat.le_trans (h.each f hf).2.2 hb⟩, h.arm⟩
theorem Lk.full {left : Int} {armed off : Bool} {m : FM} {x : RDk} (h : Lk left armed off m x) (hk : KeysOk m) (name b : ByteArray) : fullR x.F name b = fullM m (mget m name).isSome (bi b).length := by
  have hl := h.sim.len hk
  unfold fullR fullM
  rw [bi_len, hl]
  rcases h.sim.get name with ⟨g, hg, hr, _⟩ | ⟨hg, hr⟩
  · rw [hg, decide_eq_false (show ¬ x.F.length ≤ rfind x.F name by omega)]
    rfl
  · rw [hg, decide_eq_true (show x.F.length ≤ rfind x.F name by omega)]
    by_cases h0 : b.size = 0
    · simp [h0]
    · have h1 : 0 < b.size := by omega
      simp [h0, h1]
theorem append_rel {w0 w : World} {F : HP} (gD gM : Nat) (left : Int) (armed off : Bool) (m : FM) (L : List (Option Addr × List Int)) (S : Nat → Prop) (Bd : Nat) (hd : DOk Bd left armed m L) (hBd : Bd ≤ 70368744177664) (name : ByteArray) (B : Option Addr) (cB : Nat) (b : ByteArray) (hB : ∀ w, F.ok w → Rd (ints .u8) 1 w B b.size (bi b)) (hb : b.size ≤ 10000) (hcB : b.size ≤ cB) (HS0 : SH w0 w [blk gD [.map (some gM), .int .i64 left, .bool armed, .bool off] 52, mpF gM m, poolI L S, F]) :
    Calls Tryd.prog 9 #[.pointer (some ⟨gD, 0, none⟩), .string name, .slice B b.size cB] w (fun e w' => ∃ (r left' : Int) (armed' off' : Bool) (m' : FM) (L' : List (Option Addr × List Int)) (S' : Nat → Prop), e = .returned (.int .i64 r) ∧ DOk (Bd + 10000) left' armed' m' L' ∧ (∀ x, Lk left armed off m x → rappE x name b = r ∧ Lk left' armed' off' m' (rappD x name b)) ∧ (off = false → armed = false → off' = false ∧ armed' = false) ∧ (∀ p ∈ L, p ∈ L') ∧ SH w0 w' [blk gD [.map (some gM), .int .i64 left', .bool armed', .bool off'] 52, mpF gM m', poolI L' S', F]) := by
  have hLa : ∀ {zs : List Int} {m' : FM} {L' : List (Option Addr × List Int)} {xs : List Int} {safe : Nat}, AppTo name xs safe zs m L m' L' → ∀ p ∈ L, p ∈ L' := by
    rintro zs m' L' xs safe (⟨_, _, rfl⟩ | ⟨_, A', c', _, _, rfl⟩) p hp
    · exact hp
    · exact List.mem_cons_of_mem _ hp
  obtain ⟨⟨A, c, xs, safe⟩, hf⟩ : ∃ f, (mget m name).getD fi0 = f := ⟨_, rfl⟩
  have hg := hd.ok.get name
  rw [hf] at hg
  have h2 := hg.small
  simp only at h2
  have hl := bi_len b
  have hB' : ∀ w, F.ok w → Rd (ints .u8) 1 w B (bi b).length (bi b) := fun w h => by rw [hl]; exact hB w h
  have HC := append_any gD gM left armed off m L S name B cB (bi b) hB' A c xs safe _ hf rfl hg.mem (by rw [hl]; omega) hd.lf (by rw [hl]; exact hcB) HS0
  rw [hl] at HC
  refine HC.mono ?_
  rintro e w' (⟨hoff, rfl, HS⟩ | ⟨hoff, hn, rfl, HS⟩ | ⟨hoff, hn, hfu, rfl, HS⟩ | ⟨hoff, hn, hfu, har, h2, rfl, m', L', S', ha, HS⟩ | ⟨hoff, hn, hfu, h2, rfl, m', L', S', ha, HS⟩)
  · refine ⟨7, left, armed, off, m, L, S, rfl, hd.up (by omega), fun x hx => ?_, fun h1 h2 => ⟨h1, h2⟩, fun p hp => hp, HS⟩
    have : x.off = true := hx.off.trans hoff
    unfold rappE rappD
    rw [if_pos this, if_pos this]
    exact ⟨rfl, hx⟩
  · refine ⟨1, left, armed, off, m, L, S, rfl, hd.up (by omega), fun x hx => ?_, fun h1 h2 => ⟨h1, h2⟩, fun p hp => hp, HS⟩
    have h0 : ¬ x.off = true := by rw [hx.off, hoff]; decide
    have h1 : ¬ isName name = true := by rw [hn]; decide
    unfold rappE rappD
    rw [if_neg h0, if_neg h0, if_neg h1, if_neg h1]
    exact ⟨rfl, hx⟩
  · refine ⟨5, left, armed, off, m, L, S, rfl, hd.up (by omega), fun x hx => ?_, fun h1 h2 => ⟨h1, h2⟩, fun p hp => hp, HS⟩
    have h0 : ¬ x.off = true := by rw [hx.off, hoff]; decide
    have h3 : fullR x.F name b = true := by rw [hx.full hd.keys]; exact hfu
    unfold rappE rappD
    rw [if_neg h0, if_neg h0, if_pos hn, if_pos hn, if_pos h3, if_pos h3]
    exact ⟨rfl, hx⟩
  · rw [hl] at h2
    refine ⟨7, left, false, true, m', L', S', rfl, (hd.appTo hf ha hn hfu (N := (bi b).length) (by rw [List.length_take]; omega) (fun h => by cases h)).up (by rw [hl]; omega), fun x hx => ?_, (fun _ h1 => by rw [h1] at har; cases har), hLa ha, HS⟩
    have h0 : ¬ x.off = true := by rw [hx.off, hoff]; decide
    have h3 : ¬ fullR x.F name b = true := by rw [hx.full hd.keys, hfu]; decide
    have h4 : x.arm = left := by rw [hx.arm, har]; rfl
    have h5 : 0 ≤ x.arm ∧ x.arm < b.size := by rw [h4]; exact ⟨(hd.lf har).1, h2⟩
    unfold rappE rappD
    rw [if_neg h0, if_neg h0, if_pos hn, if_pos hn, if_neg h3, if_neg h3, if_pos h5, if_pos h5]
    refine ⟨rfl, ?_, rfl, rfl⟩
    have := hx.sim.put hf _ ha
    rw [b8_take, b8_bi, ← h4] at this
    exact this
  · rw [hl] at h2
    have hlf' : armed = true → 0 ≤ (if armed then left - (bi b).length else left) ∧ (if armed then left - (bi b).length else left) ≤ 9223372036854775807 := fun h => by
      have := h2 h
      have := hd.lf h
      rw [if_pos h, hl]
      omega
    refine ⟨0, _, armed, false, m', L', S', rfl, (hd.appTo hf ha hn hfu (N := (bi b).length) (Nat.le_refl _) hlf').up (by rw [hl]; omega), fun x hx => ?_, fun _ h1 => ⟨rfl, h1⟩, hLa ha, HS⟩
    have h0 : ¬ x.off = true := by rw [hx.off, hoff]; decide
    have h3 : ¬ fullR x.F name b = true := by rw [hx.full hd.keys, hfu]; decide
    have h5 : ¬ (0 ≤ x.arm ∧ x.arm < b.size) := by
      rw [hx.arm]
      cases har : armed with
      | true => rw [if_pos rfl]; have := h2 har; omega
      | false => rw [if_neg (by decide)]; omega
    unfold rappE rappD
    rw [if_neg h0, if_neg h0, if_pos hn, if_pos hn, if_neg h3, if_neg h3, if_neg h5, if_neg h5]
    refine ⟨rfl, ?_, rfl, ?_⟩
    · have := hx.sim.put hf _ ha
      rw [b8_bi] at this
      exact this
    · show (if 0 ≤ x.arm then x.arm - b.size else x.arm) = _
      rw [hx.arm, hl]
      cases har : armed with
      | true => rw [if_pos rfl, if_pos (hd.lf har).1]; rfl
      | false => rfl
set_option maxHeartbeats 3200000 in
set_option maxRecDepth 100000 in
theorem rpower_any {w0 w : World} {G : HP} (gX : Nat) (A : Option Addr) (n c : Nat) (arm : Int) (off : Bool) (F : List RF) (S : Nat → Prop) (hn : n ≤ 1000) (heach : ∀ f ∈ F, 0 ≤ f.safe ∧ f.safe ≤ f.b.size ∧ f.b.size ≤ 70368744177664) (HS0 : SH w0 w [blk gX [.slice A n c, .int .i64 arm, .bool off] 60, row rfK 65 (.slice A n c) F S, G]) :
    Calls Tryd.prog 29 #[.pointer (some ⟨gX, 0, none⟩)] w (fun e w' => e = .returned (.tuple #[]) ∧ RSt w0 w' gX (if off then ⟨rcrashL F [], -1, false⟩ else ⟨F, arm, false⟩) G) := by
  have HM := Aside0.mk (row_rds (hl := RF.len) (h1 := RF.one) 1 rfl _ HS0).len.1
  have HS := Aside0.mk HS0
  clear HS0
  cases off with
  | false =>
    go_enter Tryd.func29, Tryd.ntmps29
    go_wp2_with (first | ((first | ((first | ((with_reducible refine gA rfl ?_); refine sh_alloc HS.out rfl rfl (zeT _ (by decide)) ?_) | ((with_reducible refine gB rfl ?_); refine bx HS.out rfl rfl ?_; first | refine bv (v := .agg (List.toArray _)) rfl ?_ | refine bv (v := .int _ _) rfl ?_ | refine bv (v := .slice _ _ _) rfl ?_ | refine bv (v := .bool _) rfl ?_ | refine bv (v := .pointer _) rfl ?_ | refine bv (v := .string _) rfl ?_ | refine bv (v := .map _) rfl ?_ | refine bv (v := .func _ _ _) rfl ?_) | ((with_reducible refine gL rfl ?_); refine sh_lit HS.out rfl rfl (by go_simp; exact ⟨⟨rfl, rfl⟩, rfl⟩) ?_)); clear HS; intro g w1 hg HS1; (simp only [RF.enc, zeF, segOf, aL, aC, aE] at HS1); have HS := Aside0.mk HS1; clear HS1) | ((with_reducible refine gLd rfl ?_); refine ld2 HS.out rfl rfl rfl (by repeat (first | exact AtI.here | apply AtI.there)) ?_; (first | refine LdK.one ((agT _ (by decide)).trans rfl) rfl ?_ | (refine LdK.agg ((agT _ (by decide)).trans rfl) (szT _ (by decide)) (lb rfl) ?_; try simp only [szL, aP, aN, aT, aZ, aS, aD, aF, aJ, aK, aM, aO]))) | ((with_reducible refine gSt rfl ?_); refine st2 HS.out rfl rfl rfl rfl (by repeat (first | exact AtI.here | apply AtI.there)) ?_; (first | refine sv (u := .agg (List.toArray _)) rfl ?_ | refine sv (u := .int _ _) rfl ?_ | refine sv (u := .slice _ _ _) rfl ?_ | refine sv (u := .bool _) rfl ?_ | refine sv (u := .pointer _) rfl ?_ | refine sv (u := .string _) rfl ?_ | refine sv (u := .map _) rfl ?_ | refine sv (u := .func _ _ _) rfl ?_); refine sw (szT _ (by decide)) rfl (lb rfl) ?_; clear HS; intro w1 HS1; (simp only [RF.enc, segOf, aL, aZ, aS, putSeg] at HS1); have HS := Aside0.mk HS1; clear HS1)); try simp only [aP, aN, aT, aZ, aS]))
    go_end0
    exact ⟨rfl, A, c, S, by show SH w0 _ [blk gX [.slice A F.length c, .int .i64 arm, .bool false] 60, row rfK 65 (.slice A F.length c) F S, G]; rw [HM.out]; exact HS.out⟩
  | true =>
    go_enter Tryd.func29, Tryd.ntmps29
    go_wp2_with (first | (go_at_call 28; (with_reducible refine (rcrash_any gX A n c arm true F S none 0 0 [] (fun w _ _ => Rd.nil _ _ _ _) hn heach HS.out).mono ?_); rintro e w2 ⟨rfl, A9, c9, S9, HS9⟩; clear HS; have HS := Aside0.mk (show SH w0 w2 [blk gX [.slice A9 (rcrashL F []).length c9, .int .i64 (-1), .bool true] 60, row rfK 65 (.slice A9 (rcrashL F []).length c9) (rcrashL F []) S9, G] from HS9); clear HS9) | ((first | ((first | ((with_reducible refine gA rfl ?_); refine sh_alloc HS.out rfl rfl (zeT _ (by decide)) ?_) | ((with_reducible refine gB rfl ?_); refine bx HS.out rfl rfl ?_; first | refine bv (v := .agg (List.toArray _)) rfl ?_ | refine bv (v := .int _ _) rfl ?_ | refine bv (v := .slice _ _ _) rfl ?_ | refine bv (v := .bool _) rfl ?_ | refine bv (v := .pointer _) rfl ?_ | refine bv (v := .string _) rfl ?_ | refine bv (v := .map _) rfl ?_ | refine bv (v := .func _ _ _) rfl ?_) | ((with_reducible refine gL rfl ?_); refine sh_lit HS.out rfl rfl (by go_simp; exact ⟨⟨rfl, rfl⟩, rfl⟩) ?_)); clear HS; intro g w1 hg HS1; (simp only [RF.enc, zeF, segOf, aL, aC, aE] at HS1); have HS := Aside0.mk HS1; clear HS1) | ((with_reducible refine gLd rfl ?_); refine ld2 HS.out rfl rfl rfl (by repeat (first | exact AtI.here | apply AtI.there)) ?_; (first | refine LdK.one ((agT _ (by decide)).trans rfl) rfl ?_ | (refine LdK.agg ((agT _ (by decide)).trans rfl) (szT _ (by decide)) (lb rfl) ?_; try simp only [szL, aP, aN, aT, aZ, aS, aD, aF, aJ, aK, aM, aO]))) | ((with_reducible refine gSt rfl ?_); refine st2 HS.out rfl rfl rfl rfl (by repeat (first | exact AtI.here | apply AtI.there)) ?_; (first | refine sv (u := .agg (List.toArray _)) rfl ?_ | refine sv (u := .int _ _) rfl ?_ | refine sv (u := .slice _ _ _) rfl ?_ | refine sv (u := .bool _) rfl ?_ | refine sv (u := .pointer _) rfl ?_ | refine sv (u := .string _) rfl ?_ | refine sv (u := .map _) rfl ?_ | refine sv (u := .func _ _ _) rfl ?_); refine sw (szT _ (by decide)) rfl (lb rfl) ?_; clear HS; intro w1 HS1; (simp only [RF.enc, segOf, aL, aZ, aS, putSeg] at HS1); have HS := Aside0.mk HS1; clear HS1)); try simp only [aP, aN, aT, aZ, aS]))
    go_end0
    exact ⟨rfl, A9, c9, S9, HS.out⟩
end Go.Proofs.YtgcgnhcjjlnloaaDoor.Dk
