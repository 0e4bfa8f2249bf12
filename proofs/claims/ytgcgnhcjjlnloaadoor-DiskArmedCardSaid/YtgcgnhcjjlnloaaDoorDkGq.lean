/- Lemmas towards the law: what of the text DkG it needs. -/
import Derived.Test.YtgcgnhcjjlnloaaDoorDkFq
import Derived.Test.YtgcgnhcjjlnloaaDoorOpq
namespace Go.Proofs.YtgcgnhcjjlnloaaDoor.Dk
open Go.RowKit Go.Proofs.YtgcgnhcjjlnloaaDoorW.PrintWords Go.Proofs.YtgcgnhcjjlnloaaDoor.Sl
set_option linter.unusedVariables false
set_option linter.unusedSimpArgs false
theorem C_mapR {α β : Type} {d : Kd α} {w : World} {A : Option Addr} {n : Nat} {xs : List α} (h : d.C w A n xs) (z : β) {enc : β → List Value} {sz : Nat} (hsz : d.sz = sz) {R : β → Prop} (hk : ∀ x ∈ xs, ∀ cs, d.K w x cs → ∃ y, cs = enc y ∧ R y) : ∃ ys : List β, ys.length = n ∧ Rd enc sz w A n ys ∧ ∀ y ∈ ys, R y := by
  subst hsz
  by_cases hn : n = 0
  · subst hn
    exact ⟨[], rfl, Rd.nil _ _ _ _, fun y hy => by cases hy⟩
  · obtain ⟨ad, e, hc⟩ := h.2.2 (by omega)
    have hx : ∀ i, i < n → ∃ y : β, (∃ c : List Value, c.length = d.sz ∧ c = enc y ∧ ∀ j u, c[j]? = some u → w.cell? (ad.add (i * d.sz + j)) = some u) ∧ R y := by
      intro i hi
      have hi' : i < xs.length := by rw [h.1]; exact hi
      obtain ⟨c, hs, hr, hcell⟩ := hc i xs[i] (List.getElem?_eq_getElem hi')
      obtain ⟨y, hy, hR⟩ := hk _ (List.getElem_mem hi') c hr
      exact ⟨y, ⟨c, hs, hy, hcell⟩, hR⟩
    obtain ⟨l, hl, hp⟩ := list_of_lt z hx
    refine ⟨l, hl, ⟨hl, h.2.1, fun _ => ⟨ad, e, fun j p hj => ?_⟩⟩, fun y hy => ?_⟩
    · have hjl := (List.getElem?_eq_some_iff.1 hj).1
      obtain ⟨⟨c, h1, h2, h3⟩, _⟩ := hp j (by omega)
      rw [List.getD_eq_getElem?_getD, hj, Option.getD_some] at h2
      exact ⟨c, h1, h2, h3⟩
    · obtain ⟨j, hj, rfl⟩ := List.getElem_of_mem hy
      have := (hp j (by omega)).2
      rwa [List.getD_eq_getElem?_getD, List.getElem?_eq_getElem hj, Option.getD_some] at this
structure Op1 where
  dd : Int
  n : Int
  name : ByteArray
  b : ByteArray
  K : Option Addr
  nk : Nat
  ck : Nat
  keep : List Int
instance : Inhabited Op1 := ⟨⟨0, 0, noText, noText, none, 0, 0, []⟩⟩
def Op1.enc (o : Op1) : List Value := [.int .i64 o.dd, .int .i64 o.n, .string o.name, .string o.b, .slice o.K o.nk o.ck]
theorem Op1.len (o : Op1) : o.enc.length = 5 := rfl
theorem MOk.appTo {Bd : Nat} {m : FM} {L : List (Option Addr × List Int)} (h : MOk Bd m L) {name : ByteArray} {A : Option Addr} {c : Nat} {xs : List Int} {safe : Nat} (hf : (mget m name).getD fi0 = ⟨A, c, xs, safe⟩) {zs : List Int} {m' : FM} {L' : List (Option Addr × List Int)} (ha : AppTo name xs safe zs m L m' L') : MOk (Bd + zs.length) m' L' := by
  rcases ha with ⟨_, rfl, rfl⟩ | ⟨_, A', c', hc, rfl, rfl⟩
  · exact h.up (Nat.le_add_right _ _)
  · exact h.app hf zs hc
theorem armed_app {w0 w : World} {F : HP} (gD gM lf : Nat) (m : FM) (L : List (Option Addr × List Int)) (S : Nat → Prop) (Bd : Nat) (hok : MOk Bd m L) (hBd : Bd ≤ 70368744177664) (name : ByteArray) (B : Option Addr) (cB : Nat) (b : ByteArray) (hB : ∀ w, F.ok w → Rd (ints .u8) 1 w B b.size (bi b)) (hlf : lf ≤ 999) (hb : b.size ≤ 10000) (hcB : b.size ≤ cB) (HS0 : SH w0 w [blk gD [.map (some gM), .int .i64 (lf : Int), .bool true, .bool false] 52, mpF gM m, poolI L S, F]) :
    Calls Tryd.prog 9 #[.pointer (some ⟨gD, 0, none⟩), .string name, .slice B b.size cB] w (fun e w' => ∃ (r : Int) (lf' : Nat) (ar of : Bool) (m' : FM) (L' : List (Option Addr × List Int)) (S' : Nat → Prop), e = .returned (.int .i64 r) ∧ MOk (Bd + b.size) m' L' ∧ (((r = 1 ∨ r = 5) ∧ lf' = lf ∧ ar = true ∧ of = false) ∨ (r = 7 ∧ lf < b.size ∧ of = true) ∨ (r = 0 ∧ b.size ≤ lf ∧ lf' = lf - b.size ∧ ar = true ∧ of = false)) ∧ SH w0 w' [blk gD [.map (some gM), .int .i64 (lf' : Int), .bool ar, .bool of] 52, mpF gM m', poolI L' S', F]) := by
  obtain ⟨⟨A, c, xs, safe⟩, hf⟩ : ∃ f, (mget m name).getD fi0 = f := ⟨_, rfl⟩
  have hg := hok.get name
  rw [hf] at hg
  have h2 := hg.small
  simp only at h2
  have hl := bi_len b
  have hB' : ∀ w, F.ok w → Rd (ints .u8) 1 w B (bi b).length (bi b) := fun w h => by rw [hl]; exact hB w h
  have HC := append_any gD gM (lf : Int) true false m L S name B cB (bi b) hB' A c xs safe _ hf rfl hg.mem (by rw [hl]; omega) (fun _ => ⟨by omega, by omega⟩) (by rw [hl]; exact hcB) HS0
  rw [hl] at HC
  refine HC.mono ?_
  rintro e w' (⟨h, _⟩ | ⟨_, _, rfl, HS⟩ | ⟨_, _, _, rfl, HS⟩ | ⟨_, _, _, _, h2, rfl, m', L', S', ha, HS⟩ | ⟨_, _, _, h2, rfl, m', L', S', ha, HS⟩)
  · cases h
  · exact ⟨1, lf, true, false, m, L, S, rfl, hok.up (Nat.le_add_right _ _), .inl ⟨.inl rfl, rfl, rfl, rfl⟩, HS⟩
  · exact ⟨5, lf, true, false, m, L, S, rfl, hok.up (Nat.le_add_right _ _), .inl ⟨.inr rfl, rfl, rfl, rfl⟩, HS⟩
  · rw [hl] at h2
    have h3 := (hok.appTo hf ha).up (show Bd + ((bi b).take (lf : Int).toNat).length ≤ Bd + b.size by rw [List.length_take, hl]; omega)
    exact ⟨7, lf, false, true, m', L', S', rfl, h3, .inr (.inl ⟨rfl, by omega, rfl⟩), HS⟩
  · rw [hl] at h2 HS
    have h2' := h2 rfl
    have h3 := hok.appTo hf ha
    rw [hl] at h3
    have e1 : (lf : Int) - (b.size : Int) = ((lf - b.size : Nat) : Int) := by omega
    simp only [if_true, e1] at HS
    exact ⟨0, lf - b.size, true, false, m', L', S', rfl, h3, .inr (.inr ⟨rfl, by omega, rfl, rfl, rfl⟩), HS⟩
set_option maxHeartbeats 12800000 in
set_option maxRecDepth 100000 in
theorem lawArmed_any (A : Option Addr) (cA : Nat) (l : List Op1) (n : Int) (w : World) {N : Nat} (hr : Rd Op1.enc 5 w A N l) :
    Calls Tryd.prog 3 #[.slice A N cA, .int .i64 n] w (fun e w' => e = .returned (.bool true) ∧ Below w.heap.size w w') := by
  obtain rfl := hr.len.1
  have HR := Aside0.mk hr
  clear hr
  have HS := Aside0.mk (SH.start w)
  go_enter Tryd.func3, Tryd.ntmps3
  go_upto_region 3 with (first | (go_at_call 6; (with_reducible refine (live_any _).mono ?_); rintro e w2 ⟨rfl, hb⟩;  have HS1 := HS.out.quiet hb; clear HS hb; have HS := Aside0.mk HS1; clear HS1) | (go_at_call 7; (with_reducible refine (new_any _).mono ?_); rintro e w2 ⟨gD, gM, rfl, HS9⟩; have HS8 := pool_new (HS.out.call HS9); clear HS9 HS; have HS := Aside0.mk HS8; clear HS8; simp only [aC, aE] at HS))
  by_cases h100 : 100 < l.length
  · have h100' : decide ((100 : Int) < (l.length : Int)) = true := by rw [decide_eq_true_eq]; omega
    go_wp2
    go_ret
    exact ⟨rfl, HS.out.below⟩
  · have h100' : decide ((100 : Int) < (l.length : Int)) = false := by rw [decide_eq_false_iff_not]; omega
    obtain ⟨t1, ht1⟩ : ∃ t1, n.tmod 1000 = t1 := ⟨_, rfl⟩
    have hlo : -999 ≤ t1 ∧ t1 ≤ 999 := by
      have h1 := Int.tmod_lt_of_pos n (show (0 : Int) < 1000 by omega)
      have h2 := Int.lt_tmod_of_pos n (show (0 : Int) < 1000 by omega)
      omega
    obtain ⟨r, hr⟩ : ∃ r : Nat, (t1 + 1000).tmod 1000 = (r : Int) := Int.eq_ofNat_of_zero_le (Int.tmod_nonneg _ (by omega))
    have hr1 : r ≤ 999 := by
      have := Int.tmod_lt_of_pos (t1 + 1000) (show (0 : Int) < 1000 by omega)
      omega
    have hw1 : IntKind.i64.wrap t1 = t1 := by simp [IntKind.wrap, IntKind.bits, IntKind.signed]; omega
    have hw2 : IntKind.i64.wrap (t1 + 1000) = t1 + 1000 := by simp [IntKind.wrap, IntKind.bits, IntKind.signed]; omega
    have hw3 : IntKind.i64.wrap (r : Int) = (r : Int) := by simp [IntKind.wrap, IntKind.bits, IntKind.signed]; omega
    go_upto_region 7 with (first | (go_at_call 8; (have HC := arm_any gD _ 0 false false (r : Int) (SH.pack (is := [_]) [_, _] HS.out)); (with_reducible refine HC.mono ?_); clear HC; rintro e w2 ⟨rfl, HS9⟩; clear HS; have HS8 := SH.unpack (is := [_]) [_, _] HS9; clear HS9; (rw [show decide ((0 : Int) ≤ (r : Int)) = true from decide_eq_true (by omega)] at HS8); have HS := Aside0.mk (show SH w _ [blk gD [.map (some gM), .int .i64 (r : Int), .bool true, .bool false] 52, mpF gM [], poolI L0 (fun _ => False)] from HS8); clear HS8))
    clear h100' hw1 hw2 hw3
    have HOK := Aside0.mk (MOk.nil 0)
    go_wp2
    go_loopw [7, 35] (fun v7 v35 wr => ∃ (k lf : Nat) (m : FM) (L : List (Option Addr × List Int)) (S : Nat → Prop), k ≤ l.length ∧ v35 = .int .i64 k ∧ v7 = .int .i64 lf ∧ lf ≤ 999 ∧ Aside0 (MOk (k * 10000) m L) ∧ Aside0 (SH w wr [blk gD [.map (some gM), .int .i64 (lf : Int), .bool true, .bool false] 52, mpF gM m, poolI L S])) (fun _ v35 _ => l.length - (intOf v35).toNat)
    case atStart => exact ⟨0, r, [], L0, _, Nat.zero_le _, rfl, rfl, hr1, HOK, HS⟩
    case round =>
      clear HS HOK ht1 hr
      obtain ⟨k, lf, m, L, S, hk, rfl, rfl, hlf, HOK, HS⟩ := hrel
      by_cases hlt : k < l.length
      · obtain ⟨ad, rfl⟩ := HR.out.addr (by omega)
        have HRR := Aside0.mk (HR.out.sh HS.out)
        obtain ⟨o, ho⟩ : ∃ o, l.getD k default = o := ⟨_, rfl⟩
        have HX := Aside0.mk ho
        clear ho
        obtain ⟨dd, on, name, b, K, nk, ck, keep⟩ := o
        have hup : MOk ((k + 1) * 10000) m L := HOK.out.up (by omega)
        by_cases h0 : dd = 0
        · subst h0
          by_cases hb : b.size ≤ 10000
          · have hb' : decide ((10000 : Int) < (b.size : Int)) = false := by rw [decide_eq_false_iff_not]; omega
            have hsz : b.size ≤ 9223372036854775807 := by omega
            clear hup
            go_upto_region 13 with (first | ((with_reducible refine gLd rfl ?_); refine rd_load HRR.out rfl rfl (i := k) rfl hlt default Op1.len ((agT _ (by decide)).trans rfl) (szT _ (by decide)) ?_; intro x hx; obtain rfl := HX.out.symm.trans hx; (try simp only [Op1.enc, aP, aN, aT, aZ, aS])) | ((with_reducible refine gCv rfl ?_); refine sh_toBytes HS.out rfl rfl rfl Tryd.underlying9 Tryd.underlying32 Tryd.underlying5 hsz ?_; clear HS; intro gb cb w1 hgb hcb HS1; (simp only [aC, aE] at HS1); have HS := Aside0.mk HS1; clear HS1; try simp only [aP, aN, aT, aZ, aS]) | (go_at_call 9; (have HC := armed_app (F := allI [blk go [.int .i64 0, .int .i64 on, .string name, .string b, .slice K nk ck] 29, rdI (ints .u8) 1 (some ⟨gb, 0, none⟩) b.size (bi b) (fun b => b = gb)]) gD gM lf m L S (k * 10000) HOK.out (by omega) name (some ⟨gb, 0, none⟩) cb b (fun w h => (h.1 _ (List.mem_cons_of_mem _ List.mem_cons_self)).1) hlf hb hcb (SH.pack (is := [_, _, _]) [_, _] HS.out)); (with_reducible refine HC.mono ?_); clear HC; rintro e w2 ⟨r1, lf2, ar, of, m2, L2, S2, rfl, hok9, hcase, HS9⟩; clear HS; have HS := Aside0.mk (SH.unpack (is := [_, _, _]) [_, _] HS9); clear HS9; simp only [aC, aE] at HS; clear HOK; have HOK := Aside0.mk hok9; clear hok9; have HCASE := Aside0.mk hcase; clear hcase) | ((fail_if_success (have _ := go)); ((with_reducible refine gA rfl ?_); refine sh_alloc HS.out rfl rfl (zeT _ (by decide)) ?_; clear HS; intro go w1 hgo HS1; (simp only [Op1.enc, zeF, segOf, aL, aC, aE] at HS1); have HS := Aside0.mk HS1; clear HS1; try simp only [aP, aN, aT, aZ, aS])) | ((first | ((first | ((with_reducible refine gA rfl ?_); refine sh_alloc HS.out rfl rfl (zeT _ (by decide)) ?_) | ((with_reducible refine gB rfl ?_); refine bx HS.out rfl rfl ?_; first | refine bv (v := .agg (List.toArray _)) rfl ?_ | refine bv (v := .int _ _) rfl ?_ | refine bv (v := .slice _ _ _) rfl ?_ | refine bv (v := .bool _) rfl ?_ | refine bv (v := .pointer _) rfl ?_ | refine bv (v := .string _) rfl ?_ | refine bv (v := .map _) rfl ?_ | refine bv (v := .func _ _ _) rfl ?_) | ((with_reducible refine gL rfl ?_); refine sh_lit HS.out rfl rfl (by go_simp; exact ⟨⟨rfl, rfl⟩, rfl⟩) ?_)); clear HS; intro g w1 hg HS1; (simp only [Op1.enc, zeF, segOf, aL, aC, aE] at HS1); have HS := Aside0.mk HS1; clear HS1) | ((with_reducible refine gLd rfl ?_); refine ld2 HS.out rfl rfl rfl (by repeat (first | exact AtI.here | apply AtI.there)) ?_; (first | refine LdK.one ((agT _ (by decide)).trans rfl) rfl ?_ | (refine LdK.agg ((agT _ (by decide)).trans rfl) (szT _ (by decide)) (lb rfl) ?_; try simp only [szL, aP, aN, aT, aZ, aS, aD, aF, aJ, aK, aM, aO]))) | ((with_reducible refine gSt rfl ?_); refine st2 HS.out rfl rfl rfl rfl (by repeat (first | exact AtI.here | apply AtI.there)) ?_; (first | refine sv (u := .agg (List.toArray _)) rfl ?_ | refine sv (u := .int _ _) rfl ?_ | refine sv (u := .slice _ _ _) rfl ?_ | refine sv (u := .bool _) rfl ?_ | refine sv (u := .pointer _) rfl ?_ | refine sv (u := .string _) rfl ?_ | refine sv (u := .map _) rfl ?_ | refine sv (u := .func _ _ _) rfl ?_); refine sw (szT _ (by decide)) rfl (lb rfl) ?_; clear HS; intro w1 HS1; (simp only [Op1.enc, segOf, aL, aZ, aS, putSeg] at HS1); have HS := Aside0.mk HS1; clear HS1)); try simp only [aP, aN, aT, aZ, aS]))
            have hok3 : MOk ((k + 1) * 10000) m2 L2 := HOK.out.up (by omega)
            have HOK3 := Aside0.mk hok3
            clear hok3
            rcases HCASE.out with ⟨hr5, rfl, rfl, rfl⟩ | ⟨rfl, hlt2, rfl⟩ | ⟨rfl, hle, rfl, rfl, rfl⟩
            · clear HCASE
              rcases hr5 with rfl | rfl
              all_goals
                go_wp2_with (first | ((first | ((first | ((with_reducible refine gA rfl ?_); refine sh_alloc HS.out rfl rfl (zeT _ (by decide)) ?_) | ((with_reducible refine gB rfl ?_); refine bx HS.out rfl rfl ?_; first | refine bv (v := .agg (List.toArray _)) rfl ?_ | refine bv (v := .int _ _) rfl ?_ | refine bv (v := .slice _ _ _) rfl ?_ | refine bv (v := .bool _) rfl ?_ | refine bv (v := .pointer _) rfl ?_ | refine bv (v := .string _) rfl ?_ | refine bv (v := .map _) rfl ?_ | refine bv (v := .func _ _ _) rfl ?_) | ((with_reducible refine gL rfl ?_); refine sh_lit HS.out rfl rfl (by go_simp; exact ⟨⟨rfl, rfl⟩, rfl⟩) ?_)); clear HS; intro g w1 hg HS1; (simp only [Op1.enc, zeF, segOf, aL, aC, aE] at HS1); have HS := Aside0.mk HS1; clear HS1) | ((with_reducible refine gLd rfl ?_); refine ld2 HS.out rfl rfl rfl (by repeat (first | exact AtI.here | apply AtI.there)) ?_; (first | refine LdK.one ((agT _ (by decide)).trans rfl) rfl ?_ | (refine LdK.agg ((agT _ (by decide)).trans rfl) (szT _ (by decide)) (lb rfl) ?_; try simp only [szL, aP, aN, aT, aZ, aS, aD, aF, aJ, aK, aM, aO]))) | ((with_reducible refine gSt rfl ?_); refine st2 HS.out rfl rfl rfl rfl (by repeat (first | exact AtI.here | apply AtI.there)) ?_; (first | refine sv (u := .agg (List.toArray _)) rfl ?_ | refine sv (u := .int _ _) rfl ?_ | refine sv (u := .slice _ _ _) rfl ?_ | refine sv (u := .bool _) rfl ?_ | refine sv (u := .pointer _) rfl ?_ | refine sv (u := .string _) rfl ?_ | refine sv (u := .map _) rfl ?_ | refine sv (u := .func _ _ _) rfl ?_); refine sw (szT _ (by decide)) rfl (lb rfl) ?_; clear HS; intro w1 HS1; (simp only [Op1.enc, segOf, aL, aZ, aS, putSeg] at HS1); have HS := Aside0.mk HS1; clear HS1)); try simp only [aP, aN, aT, aZ, aS]))
                go_roundw
                case rel => exact ⟨k + 1, _, _, _, _, by omega, by go_num, rfl, hlf, HOK3, ⟨HS.out.pick [0, 1, 2] rfl (by decide)⟩⟩
                case measure => simp [intOf]; omega
            · clear HCASE
              have hle' : decide ((b.size : Int) ≤ (lf : Int)) = false := by rw [decide_eq_false_iff_not]; omega
              go_wp2_with (first | (go_at_call 10; (have HC := on_any gD _ _ _ _ (SH.pack (is := [_]) [_, _, _, _] HS.out)); (with_reducible refine HC.mono ?_); clear HC; rintro e w2 ⟨rfl, HS9⟩; clear HS; have HS := Aside0.mk (SH.unpack (is := [_]) [_, _, _, _] HS9); clear HS9; simp only [aC, aE, Bool.not_true, Bool.not_false] at HS ⊢) | ((first | ((first | ((with_reducible refine gA rfl ?_); refine sh_alloc HS.out rfl rfl (zeT _ (by decide)) ?_) | ((with_reducible refine gB rfl ?_); refine bx HS.out rfl rfl ?_; first | refine bv (v := .agg (List.toArray _)) rfl ?_ | refine bv (v := .int _ _) rfl ?_ | refine bv (v := .slice _ _ _) rfl ?_ | refine bv (v := .bool _) rfl ?_ | refine bv (v := .pointer _) rfl ?_ | refine bv (v := .string _) rfl ?_ | refine bv (v := .map _) rfl ?_ | refine bv (v := .func _ _ _) rfl ?_) | ((with_reducible refine gL rfl ?_); refine sh_lit HS.out rfl rfl (by go_simp; exact ⟨⟨rfl, rfl⟩, rfl⟩) ?_)); clear HS; intro g w1 hg HS1; (simp only [Op1.enc, zeF, segOf, aL, aC, aE] at HS1); have HS := Aside0.mk HS1; clear HS1) | ((with_reducible refine gLd rfl ?_); refine ld2 HS.out rfl rfl rfl (by repeat (first | exact AtI.here | apply AtI.there)) ?_; (first | refine LdK.one ((agT _ (by decide)).trans rfl) rfl ?_ | (refine LdK.agg ((agT _ (by decide)).trans rfl) (szT _ (by decide)) (lb rfl) ?_; try simp only [szL, aP, aN, aT, aZ, aS, aD, aF, aJ, aK, aM, aO]))) | ((with_reducible refine gSt rfl ?_); refine st2 HS.out rfl rfl rfl rfl (by repeat (first | exact AtI.here | apply AtI.there)) ?_; (first | refine sv (u := .agg (List.toArray _)) rfl ?_ | refine sv (u := .int _ _) rfl ?_ | refine sv (u := .slice _ _ _) rfl ?_ | refine sv (u := .bool _) rfl ?_ | refine sv (u := .pointer _) rfl ?_ | refine sv (u := .string _) rfl ?_ | refine sv (u := .map _) rfl ?_ | refine sv (u := .func _ _ _) rfl ?_); refine sw (szT _ (by decide)) rfl (lb rfl) ?_; clear HS; intro w1 HS1; (simp only [Op1.enc, segOf, aL, aZ, aS, putSeg] at HS1); have HS := Aside0.mk HS1; clear HS1)); try simp only [aP, aN, aT, aZ, aS]))
              go_ret
              exact ⟨rfl, HS.out.below⟩
            · clear HCASE
              have hle' : decide ((b.size : Int) ≤ (lf : Int)) = true := by rw [decide_eq_true_eq]; omega
              have hws : IntKind.i64.wrap ((lf : Int) - (b.size : Int)) = ((lf - b.size : Nat) : Int) := by simp [IntKind.wrap, IntKind.bits, IntKind.signed]; omega
              go_wp2_with (first | (go_at_call 10; (have HC := on_any gD _ _ _ _ (SH.pack (is := [_]) [_, _, _, _] HS.out)); (with_reducible refine HC.mono ?_); clear HC; rintro e w2 ⟨rfl, HS9⟩; clear HS; have HS := Aside0.mk (SH.unpack (is := [_]) [_, _, _, _] HS9); clear HS9; simp only [aC, aE, Bool.not_true, Bool.not_false] at HS ⊢) | ((first | ((first | ((with_reducible refine gA rfl ?_); refine sh_alloc HS.out rfl rfl (zeT _ (by decide)) ?_) | ((with_reducible refine gB rfl ?_); refine bx HS.out rfl rfl ?_; first | refine bv (v := .agg (List.toArray _)) rfl ?_ | refine bv (v := .int _ _) rfl ?_ | refine bv (v := .slice _ _ _) rfl ?_ | refine bv (v := .bool _) rfl ?_ | refine bv (v := .pointer _) rfl ?_ | refine bv (v := .string _) rfl ?_ | refine bv (v := .map _) rfl ?_ | refine bv (v := .func _ _ _) rfl ?_) | ((with_reducible refine gL rfl ?_); refine sh_lit HS.out rfl rfl (by go_simp; exact ⟨⟨rfl, rfl⟩, rfl⟩) ?_)); clear HS; intro g w1 hg HS1; (simp only [Op1.enc, zeF, segOf, aL, aC, aE] at HS1); have HS := Aside0.mk HS1; clear HS1) | ((with_reducible refine gLd rfl ?_); refine ld2 HS.out rfl rfl rfl (by repeat (first | exact AtI.here | apply AtI.there)) ?_; (first | refine LdK.one ((agT _ (by decide)).trans rfl) rfl ?_ | (refine LdK.agg ((agT _ (by decide)).trans rfl) (szT _ (by decide)) (lb rfl) ?_; try simp only [szL, aP, aN, aT, aZ, aS, aD, aF, aJ, aK, aM, aO]))) | ((with_reducible refine gSt rfl ?_); refine st2 HS.out rfl rfl rfl rfl (by repeat (first | exact AtI.here | apply AtI.there)) ?_; (first | refine sv (u := .agg (List.toArray _)) rfl ?_ | refine sv (u := .int _ _) rfl ?_ | refine sv (u := .slice _ _ _) rfl ?_ | refine sv (u := .bool _) rfl ?_ | refine sv (u := .pointer _) rfl ?_ | refine sv (u := .string _) rfl ?_ | refine sv (u := .map _) rfl ?_ | refine sv (u := .func _ _ _) rfl ?_); refine sw (szT _ (by decide)) rfl (lb rfl) ?_; clear HS; intro w1 HS1; (simp only [Op1.enc, segOf, aL, aZ, aS, putSeg] at HS1); have HS := Aside0.mk HS1; clear HS1)); try simp only [aP, aN, aT, aZ, aS]))
              go_roundw
              case rel => exact ⟨k + 1, _, _, _, _, by omega, by go_num, rfl, by omega, HOK3, ⟨HS.out.pick [0, 1, 2] rfl (by decide)⟩⟩
              case measure => simp [intOf]; omega
          · have hb' : decide ((10000 : Int) < (b.size : Int)) = true := by rw [decide_eq_true_eq]; omega
            have HUP := Aside0.mk hup
            clear hup
            go_wp2_with (first | ((with_reducible refine gLd rfl ?_); refine rd_load HRR.out rfl rfl (i := k) rfl hlt default Op1.len ((agT _ (by decide)).trans rfl) (szT _ (by decide)) ?_; intro x hx; obtain rfl := HX.out.symm.trans hx; (try simp only [Op1.enc, aP, aN, aT, aZ, aS])) | ((fail_if_success (have _ := go)); ((with_reducible refine gA rfl ?_); refine sh_alloc HS.out rfl rfl (zeT _ (by decide)) ?_; clear HS; intro go w1 hgo HS1; (simp only [Op1.enc, zeF, segOf, aL, aC, aE] at HS1); have HS := Aside0.mk HS1; clear HS1; try simp only [aP, aN, aT, aZ, aS])) | ((first | ((first | ((with_reducible refine gA rfl ?_); refine sh_alloc HS.out rfl rfl (zeT _ (by decide)) ?_) | ((with_reducible refine gB rfl ?_); refine bx HS.out rfl rfl ?_; first | refine bv (v := .agg (List.toArray _)) rfl ?_ | refine bv (v := .int _ _) rfl ?_ | refine bv (v := .slice _ _ _) rfl ?_ | refine bv (v := .bool _) rfl ?_ | refine bv (v := .pointer _) rfl ?_ | refine bv (v := .string _) rfl ?_ | refine bv (v := .map _) rfl ?_ | refine bv (v := .func _ _ _) rfl ?_) | ((with_reducible refine gL rfl ?_); refine sh_lit HS.out rfl rfl (by go_simp; exact ⟨⟨rfl, rfl⟩, rfl⟩) ?_)); clear HS; intro g w1 hg HS1; (simp only [Op1.enc, zeF, segOf, aL, aC, aE] at HS1); have HS := Aside0.mk HS1; clear HS1) | ((with_reducible refine gLd rfl ?_); refine ld2 HS.out rfl rfl rfl (by repeat (first | exact AtI.here | apply AtI.there)) ?_; (first | refine LdK.one ((agT _ (by decide)).trans rfl) rfl ?_ | (refine LdK.agg ((agT _ (by decide)).trans rfl) (szT _ (by decide)) (lb rfl) ?_; try simp only [szL, aP, aN, aT, aZ, aS, aD, aF, aJ, aK, aM, aO]))) | ((with_reducible refine gSt rfl ?_); refine st2 HS.out rfl rfl rfl rfl (by repeat (first | exact AtI.here | apply AtI.there)) ?_; (first | refine sv (u := .agg (List.toArray _)) rfl ?_ | refine sv (u := .int _ _) rfl ?_ | refine sv (u := .slice _ _ _) rfl ?_ | refine sv (u := .bool _) rfl ?_ | refine sv (u := .pointer _) rfl ?_ | refine sv (u := .string _) rfl ?_ | refine sv (u := .map _) rfl ?_ | refine sv (u := .func _ _ _) rfl ?_); refine sw (szT _ (by decide)) rfl (lb rfl) ?_; clear HS; intro w1 HS1; (simp only [Op1.enc, segOf, aL, aZ, aS, putSeg] at HS1); have HS := Aside0.mk HS1; clear HS1)); try simp only [aP, aN, aT, aZ, aS]))
            go_roundw
            case rel => exact ⟨k + 1, _, _, _, _, by omega, by go_num, rfl, hlf, HUP, ⟨HS.out.pick [0, 1, 2] rfl (by decide)⟩⟩
            case measure => simp [intOf]; omega
        · have h0' : (dd != 0) = true := by simpa using h0
          have h0'' : (dd == 0) = false := beq_eq_false_iff_ne.2 h0
          have HUP := Aside0.mk hup
          clear hup h0
          go_wp2_with (first | ((with_reducible refine gLd rfl ?_); refine rd_load HRR.out rfl rfl (i := k) rfl hlt default Op1.len ((agT _ (by decide)).trans rfl) (szT _ (by decide)) ?_; intro x hx; obtain rfl := HX.out.symm.trans hx; (try simp only [Op1.enc, aP, aN, aT, aZ, aS])) | ((fail_if_success (have _ := go)); ((with_reducible refine gA rfl ?_); refine sh_alloc HS.out rfl rfl (zeT _ (by decide)) ?_; clear HS; intro go w1 hgo HS1; (simp only [Op1.enc, zeF, segOf, aL, aC, aE] at HS1); have HS := Aside0.mk HS1; clear HS1; try simp only [aP, aN, aT, aZ, aS])) | ((first | ((first | ((with_reducible refine gA rfl ?_); refine sh_alloc HS.out rfl rfl (zeT _ (by decide)) ?_) | ((with_reducible refine gB rfl ?_); refine bx HS.out rfl rfl ?_; first | refine bv (v := .agg (List.toArray _)) rfl ?_ | refine bv (v := .int _ _) rfl ?_ | refine bv (v := .slice _ _ _) rfl ?_ | refine bv (v := .bool _) rfl ?_ | refine bv (v := .pointer _) rfl ?_ | refine bv (v := .string _) rfl ?_ | refine bv (v := .map _) rfl ?_ | refine bv (v := .func _ _ _) rfl ?_) | ((with_reducible refine gL rfl ?_); refine sh_lit HS.out rfl rfl (by go_simp; exact ⟨⟨rfl, rfl⟩, rfl⟩) ?_)); clear HS; intro g w1 hg HS1; (simp only [Op1.enc, zeF, segOf, aL, aC, aE] at HS1); have HS := Aside0.mk HS1; clear HS1) | ((with_reducible refine gLd rfl ?_); refine ld2 HS.out rfl rfl rfl (by repeat (first | exact AtI.here | apply AtI.there)) ?_; (first | refine LdK.one ((agT _ (by decide)).trans rfl) rfl ?_ | (refine LdK.agg ((agT _ (by decide)).trans rfl) (szT _ (by decide)) (lb rfl) ?_; try simp only [szL, aP, aN, aT, aZ, aS, aD, aF, aJ, aK, aM, aO]))) | ((with_reducible refine gSt rfl ?_); refine st2 HS.out rfl rfl rfl rfl (by repeat (first | exact AtI.here | apply AtI.there)) ?_; (first | refine sv (u := .agg (List.toArray _)) rfl ?_ | refine sv (u := .int _ _) rfl ?_ | refine sv (u := .slice _ _ _) rfl ?_ | refine sv (u := .bool _) rfl ?_ | refine sv (u := .pointer _) rfl ?_ | refine sv (u := .string _) rfl ?_ | refine sv (u := .map _) rfl ?_ | refine sv (u := .func _ _ _) rfl ?_); refine sw (szT _ (by decide)) rfl (lb rfl) ?_; clear HS; intro w1 HS1; (simp only [Op1.enc, segOf, aL, aZ, aS, putSeg] at HS1); have HS := Aside0.mk HS1; clear HS1)); try simp only [aP, aN, aT, aZ, aS]))
          go_roundw
          case rel => exact ⟨k + 1, _, _, _, _, by omega, by go_num, rfl, hlf, HUP, ⟨HS.out.pick [0, 1, 2] rfl (by decide)⟩⟩
          case measure => simp [intOf]; omega
      · obtain rfl : k = l.length := by omega
        go_wp2_with (first | (go_at_call 10; (have HC := on_any gD _ _ _ _ (SH.pack (is := [_]) [_, _] HS.out)); (with_reducible refine HC.mono ?_); clear HC; rintro e w2 ⟨rfl, HS9⟩; clear HS; have HS := Aside0.mk (SH.unpack (is := [_]) [_, _] HS9); clear HS9; simp only [aC, aE, Bool.not_true, Bool.not_false] at HS ⊢) | ((first | ((first | ((with_reducible refine gA rfl ?_); refine sh_alloc HS.out rfl rfl (zeT _ (by decide)) ?_) | ((with_reducible refine gB rfl ?_); refine bx HS.out rfl rfl ?_; first | refine bv (v := .agg (List.toArray _)) rfl ?_ | refine bv (v := .int _ _) rfl ?_ | refine bv (v := .slice _ _ _) rfl ?_ | refine bv (v := .bool _) rfl ?_ | refine bv (v := .pointer _) rfl ?_ | refine bv (v := .string _) rfl ?_ | refine bv (v := .map _) rfl ?_ | refine bv (v := .func _ _ _) rfl ?_) | ((with_reducible refine gL rfl ?_); refine sh_lit HS.out rfl rfl (by go_simp; exact ⟨⟨rfl, rfl⟩, rfl⟩) ?_)); clear HS; intro g w1 hg HS1; (simp only [Op1.enc, zeF, segOf, aL, aC, aE] at HS1); have HS := Aside0.mk HS1; clear HS1) | ((with_reducible refine gLd rfl ?_); refine ld2 HS.out rfl rfl rfl (by repeat (first | exact AtI.here | apply AtI.there)) ?_; (first | refine LdK.one ((agT _ (by decide)).trans rfl) rfl ?_ | (refine LdK.agg ((agT _ (by decide)).trans rfl) (szT _ (by decide)) (lb rfl) ?_; try simp only [szL, aP, aN, aT, aZ, aS, aD, aF, aJ, aK, aM, aO]))) | ((with_reducible refine gSt rfl ?_); refine st2 HS.out rfl rfl rfl rfl (by repeat (first | exact AtI.here | apply AtI.there)) ?_; (first | refine sv (u := .agg (List.toArray _)) rfl ?_ | refine sv (u := .int _ _) rfl ?_ | refine sv (u := .slice _ _ _) rfl ?_ | refine sv (u := .bool _) rfl ?_ | refine sv (u := .pointer _) rfl ?_ | refine sv (u := .string _) rfl ?_ | refine sv (u := .map _) rfl ?_ | refine sv (u := .func _ _ _) rfl ?_); refine sw (szT _ (by decide)) rfl (lb rfl) ?_; clear HS; intro w1 HS1; (simp only [Op1.enc, segOf, aL, aZ, aS, putSeg] at HS1); have HS := Aside0.mk HS1; clear HS1)); try simp only [aP, aN, aT, aZ, aS]))
        go_ret
        exact ⟨rfl, HS.out.below⟩
namespace LawArmed
def opS : Sh := .st (.cons (.int .i64) (.cons (.int .i64) (.cons .str (.cons .str (.cons (.slice 3 (.int .i64)) .nil)))))
def opsS : Sh := .slice 29 opS
def intS : Sh := .int .i64
theorem op_open {w : World} (x : opS.D) (cs : List Value) (h : opS.kd.K w x cs) : ∃ y : Op1, cs = y.enc ∧ True := by
  obtain ⟨_, _, rfl, rfl, _, _, rfl, rfl, _, _, rfl, rfl, _, _, rfl, rfl, _, _, rfl, ⟨K, ck, rfl, hl, hC⟩, rfl⟩ := h
  exact ⟨⟨x.1, x.2.1, x.2.2.1, x.2.2.2.1, K, _, ck, []⟩, rfl, trivial⟩
theorem walk (W : World) (cs0 : List Value) (x0 : opsS.D) (hk0 : opsS.kd.K W x0 cs0) (hw0 : opsS.wf x0) (hz0 : opsS.sized Tryd.prog x0) (cs1 : List Value) (x1 : intS.D) (hk1 : intS.kd.K W x1 cs1) (hw1 : intS.wf x1) (hz1 : intS.sized Tryd.prog x1) :
    Calls Tryd.prog 3 #[opsS.val cs0, intS.val cs1] W fun e W' => e = .returned (.bool true) ∧ Below W.heap.size W W' := by
  obtain ⟨A, c, rfl, hl, hC⟩ := hk0
  obtain rfl : cs1 = [.int .i64 x1] := hk1
  obtain ⟨ys, _, hr, _⟩ := C_mapR hC default (enc := Op1.enc) (sz := 5) rfl (R := fun _ => True) (fun x _ cs h => op_open x cs h)
  exact lawArmed_any A c ys x1 W hr
end LawArmed
end Go.Proofs.YtgcgnhcjjlnloaaDoor.Dk
