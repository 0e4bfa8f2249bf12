/- Lemmas towards the law: what of the text Dk8 it needs. -/
import Derived.Test.YtgcgnhcjjlnloaaDoorDk7q
namespace Go.Proofs.YtgcgnhcjjlnloaaDoor.Dk
open Go.RowKit Go.Proofs.YtgcgnhcjjlnloaaDoorW.PrintWords Go.Proofs.YtgcgnhcjjlnloaaDoor.Sl
set_option linter.unusedVariables false
set_option linter.unusedSimpArgs false
set_option linter.unusedSectionVars false
section
variable {P : Program} {κ ν : Type} [DecidableEq κ] {kt : TypeId} {enc : κ → Value} {encV : ν → Value} {q : κ → Prop}
variable {ops : Array Oper} {rest : List Oper} {o : Oper} {a : Act} {Q : Exit → Act → World → Prop}
/-- len(m) -/
theorem sh_lenM {w0 W : World} {is : List HP} (HS : SH w0 W is) (hw : Region.wanted o (yielded ops a.tmps) = true) {m : Operand} {t : TypeId} (ho : o.op = .call { callee := .builtin .len, args := #[m], argTypes := #[t] })
    {g : Nat} (hm : a.eval m = .map (some g)) (n : Nat) {mm : List (κ × ν)} (hn : is[n]? = some (mp g enc encV q mm)) {et : TypeId} (ht : P.underlying t = some (.map kt et))
    (h : wpList P ops Q rest (a.put o.dst (.int .i64 (mm.length : Int))) W) : WP P ops Q (o :: rest) a W := by
  obtain ⟨es, clock, hh, hp, _⟩ := HS.at n hn
  have hl : es.size = mm.length := by
    have := congrArg List.length hp
    unfold pairs encP at this
    rw [List.length_map, List.length_map, Array.length_toList] at this
    exact this
  refine ⟨run_step hw ?_ h⟩
  have h1 : ∀ ty, (Builtin.len_ #[t] ty #[.map (some g)]).run P W = .ok (.int .i64 (mm.length : Int)) W := fun ty => by
    have := run_len_map (P := P) (w := W) t ty g es clock (by simp [Program.mapKeyOf, Program.mapElemOf, ht]) hh
    rw [hl] at this
    exact this
  unfold execOp
  simp only [ho, resolve, invoke, builtin, Sem.run_bind, Sem.run_pure, Result.andThen_ok, List.map_toArray, List.map_cons, List.map_nil, hm, h1]
end
def fullM (m : FM) (bi : Bool) (N : Nat) : Bool := !bi && decide (0 < N) && decide (64 ≤ m.length)
/-- the map and the bytes behind an Append of zs -/
def AppTo (name : ByteArray) (xs : List Int) (safe : Nat) (zs : List Int) (m : FM) (L : List (Option Addr × List Int)) (m' : FM) (L' : List (Option Addr × List Int)) : Prop :=
  (zs = [] ∧ m' = m ∧ L' = L) ∨ (zs ≠ [] ∧ ∃ A' c', (xs ++ zs).length ≤ c' ∧ m' = mput m name ⟨A', c', xs ++ zs, safe⟩ ∧ L' = (A', xs ++ zs) :: L)
/-- what Append does -/
def AppPost (w0 : World) (F : HP) (gD gM : Nat) (left : Int) (armed off : Bool) (m : FM) (L : List (Option Addr × List Int)) (S : Nat → Prop) (name : ByteArray) (ys : List Int) (xs : List Int) (safe : Nat) (bi : Bool) (e : Ending) (w' : World) : Prop :=
  (off = true ∧ e = .returned (.int .i64 7) ∧ SH w0 w' [blk gD [.map (some gM), .int .i64 left, .bool armed, .bool off] 52, mpF gM m, poolI L S, F]) ∨
  (off = false ∧ isName name = false ∧ e = .returned (.int .i64 1) ∧ SH w0 w' [blk gD [.map (some gM), .int .i64 left, .bool armed, .bool off] 52, mpF gM m, poolI L S, F]) ∨
  (off = false ∧ isName name = true ∧ fullM m bi ys.length = true ∧ e = .returned (.int .i64 5) ∧ SH w0 w' [blk gD [.map (some gM), .int .i64 left, .bool armed, .bool off] 52, mpF gM m, poolI L S, F]) ∨
  (off = false ∧ isName name = true ∧ fullM m bi ys.length = false ∧ armed = true ∧ left < ys.length ∧ e = .returned (.int .i64 7) ∧ ∃ m' L' S', AppTo name xs safe (ys.take left.toNat) m L m' L' ∧ SH w0 w' [blk gD [.map (some gM), .int .i64 left, .bool false, .bool true] 52, mpF gM m', poolI L' S', F]) ∨
  (off = false ∧ isName name = true ∧ fullM m bi ys.length = false ∧ (armed = true → ys.length ≤ left) ∧ e = .returned (.int .i64 0) ∧ ∃ m' L' S', AppTo name xs safe ys m L m' L' ∧ SH w0 w' [blk gD [.map (some gM), .int .i64 (if armed then left - ys.length else left), .bool armed, .bool false] 52, mpF gM m', poolI L' S', F])
set_option maxHeartbeats 12800000 in
set_option maxRecDepth 100000 in
theorem append_any {w0 w : World} {F : HP} (gD gM : Nat) (left : Int) (armed off : Bool) (m : FM) (L : List (Option Addr × List Int)) (S : Nat → Prop) (name : ByteArray) (B : Option Addr) (cB : Nat) (ys : List Int) (hB : ∀ w, F.ok w → Rd (ints .u8) 1 w B ys.length ys) (A : Option Addr) (c : Nat) (xs : List Int) (safe : Nat) (bi : Bool) (hf : (mget m name).getD fi0 = ⟨A, c, xs, safe⟩) (hi : (mget m name).isSome = bi) (hL : (A, xs) ∈ L) (hlim : xs.length + ys.length ≤ 140737488351232) (hleft : armed = true → 0 ≤ left ∧ left ≤ 9223372036854775807) (hcB : ys.length ≤ cB) (HS0 : SH w0 w [blk gD [.map (some gM), .int .i64 left, .bool armed, .bool off] 52, mpF gM m, poolI L S, F]) :
    Calls Tryd.prog 9 #[.pointer (some ⟨gD, 0, none⟩), .string name, .slice B ys.length cB] w (AppPost w0 F gD gM left armed off m L S name ys xs safe bi) := by
  have HS := Aside0.mk HS0
  clear HS0
  have HF := Aside0.mk hf
  have HI := Aside0.mk hi
  have HB := Aside0.mk hB
  have HL := Aside0.mk hL
  clear hf hi hB hL
  go_enter Tryd.func9, Tryd.ntmps9
  go_upto_block 0 with (first | ((with_reducible refine gLk rfl ?_); refine sh_lookup2 HS.out rfl rfl rfl 1 rfl name rfl trivial Tryd.underlying50 ownStr (z := fi0) fileZero ?_; ((rw [HF.out, HI.out]; simp only [Fi.enc]; try simp only [aP, aN, aT, aZ, aS]))) | ((fail_if_success (have _ := gf)); ((with_reducible refine gA rfl ?_); refine sh_alloc HS.out rfl rfl (zeT _ (by decide)) ?_; clear HS; intro gf w1 hgf HS1; (simp only [zeF, segOf, aL, aC, aE] at HS1); have HS := Aside0.mk HS1; clear HS1; try simp only [aP, aN, aT, aZ, aS])) | ((first | ((first | ((with_reducible refine gA rfl ?_); refine sh_alloc HS.out rfl rfl (zeT _ (by decide)) ?_) | ((with_reducible refine gB rfl ?_); refine bx HS.out rfl rfl ?_; first | refine bv (v := .agg (List.toArray _)) rfl ?_ | refine bv (v := .int _ _) rfl ?_ | refine bv (v := .slice _ _ _) rfl ?_ | refine bv (v := .bool _) rfl ?_ | refine bv (v := .pointer _) rfl ?_) | ((with_reducible refine gL rfl ?_); refine sh_lit HS.out rfl rfl (by go_simp; exact ⟨⟨rfl, rfl⟩, rfl⟩) ?_)); clear HS; intro g w1 hg HS1; (simp only [zeF, segOf, aL, aC, aE] at HS1); have HS := Aside0.mk HS1; clear HS1) | ((with_reducible refine gLd rfl ?_); refine ld2 HS.out rfl rfl rfl (by repeat (first | exact AtI.here | apply AtI.there)) ?_; (first | refine LdK.one ((agT _ (by decide)).trans rfl) rfl ?_ | (refine LdK.agg ((agT _ (by decide)).trans rfl) (szT _ (by decide)) (lb rfl) ?_; try simp only [szL, aP, aN, aT, aZ, aS, aD, aF, aJ, aK, aM, aO]))) | ((with_reducible refine gSt rfl ?_); refine st2 HS.out rfl rfl rfl rfl (by repeat (first | exact AtI.here | apply AtI.there)) ?_; (first | refine sv (u := .agg (List.toArray _)) rfl ?_ | refine sv (u := .int _ _) rfl ?_ | refine sv (u := .slice _ _ _) rfl ?_ | refine sv (u := .bool _) rfl ?_ | refine sv (u := .pointer _) rfl ?_); refine sw (szT _ (by decide)) rfl (lb rfl) ?_; clear HS; intro w1 HS1; (simp only [segOf, aL, aZ, aS, putSeg] at HS1); have HS := Aside0.mk HS1; clear HS1)); try simp only [aP, aN, aT, aZ, aS]))
  go_cut [2] (fun v2 wx => v2 = .slice B ys.length cB ∧ Aside0 (off = false ∧ isName name = true ∧ fullM m bi ys.length = false) ∧ Aside0 (SH w0 wx [blk gD [.map (some gM), .int .i64 left, .bool armed, .bool false] 52, mpF gM m, poolI L S, F, blk gf [.slice A xs.length c, .int .i64 safe] 54]))
  case first =>
    cases off with
    | true =>
      go_wp2_with (first | ((first | ((first | ((with_reducible refine gA rfl ?_); refine sh_alloc HS.out rfl rfl (zeT _ (by decide)) ?_) | ((with_reducible refine gB rfl ?_); refine bx HS.out rfl rfl ?_; first | refine bv (v := .agg (List.toArray _)) rfl ?_ | refine bv (v := .int _ _) rfl ?_ | refine bv (v := .slice _ _ _) rfl ?_ | refine bv (v := .bool _) rfl ?_ | refine bv (v := .pointer _) rfl ?_) | ((with_reducible refine gL rfl ?_); refine sh_lit HS.out rfl rfl (by go_simp; exact ⟨⟨rfl, rfl⟩, rfl⟩) ?_)); clear HS; intro g w1 hg HS1; (simp only [zeF, segOf, aL, aC, aE] at HS1); have HS := Aside0.mk HS1; clear HS1) | ((with_reducible refine gLd rfl ?_); refine ld2 HS.out rfl rfl rfl (by repeat (first | exact AtI.here | apply AtI.there)) ?_; (first | refine LdK.one ((agT _ (by decide)).trans rfl) rfl ?_ | (refine LdK.agg ((agT _ (by decide)).trans rfl) (szT _ (by decide)) (lb rfl) ?_; try simp only [szL, aP, aN, aT, aZ, aS, aD, aF, aJ, aK, aM, aO]))) | ((with_reducible refine gSt rfl ?_); refine st2 HS.out rfl rfl rfl rfl (by repeat (first | exact AtI.here | apply AtI.there)) ?_; (first | refine sv (u := .agg (List.toArray _)) rfl ?_ | refine sv (u := .int _ _) rfl ?_ | refine sv (u := .slice _ _ _) rfl ?_ | refine sv (u := .bool _) rfl ?_ | refine sv (u := .pointer _) rfl ?_); refine sw (szT _ (by decide)) rfl (lb rfl) ?_; clear HS; intro w1 HS1; (simp only [segOf, aL, aZ, aS, putSeg] at HS1); have HS := Aside0.mk HS1; clear HS1)); try simp only [aP, aN, aT, aZ, aS]))
      go_ret
      exact .inl ⟨rfl, rfl, HS.out.pick [0, 1, 2, 3] rfl (by decide)⟩
    | false =>
      cases hn : isName name with
      | false =>
        have HN := Aside0.mk hn
        clear hn
        go_wp2_with (first | (go_at_call 20; (with_reducible refine (named_any name _).mono ?_); rintro e w2 ⟨rfl, hb⟩; rw [HN.out]; have HS1 := HS.out.quiet hb; clear HS hb; have HS := Aside0.mk HS1; clear HS1) | ((first | ((first | ((with_reducible refine gA rfl ?_); refine sh_alloc HS.out rfl rfl (zeT _ (by decide)) ?_) | ((with_reducible refine gB rfl ?_); refine bx HS.out rfl rfl ?_; first | refine bv (v := .agg (List.toArray _)) rfl ?_ | refine bv (v := .int _ _) rfl ?_ | refine bv (v := .slice _ _ _) rfl ?_ | refine bv (v := .bool _) rfl ?_ | refine bv (v := .pointer _) rfl ?_) | ((with_reducible refine gL rfl ?_); refine sh_lit HS.out rfl rfl (by go_simp; exact ⟨⟨rfl, rfl⟩, rfl⟩) ?_)); clear HS; intro g w1 hg HS1; (simp only [zeF, segOf, aL, aC, aE] at HS1); have HS := Aside0.mk HS1; clear HS1) | ((with_reducible refine gLd rfl ?_); refine ld2 HS.out rfl rfl rfl (by repeat (first | exact AtI.here | apply AtI.there)) ?_; (first | refine LdK.one ((agT _ (by decide)).trans rfl) rfl ?_ | (refine LdK.agg ((agT _ (by decide)).trans rfl) (szT _ (by decide)) (lb rfl) ?_; try simp only [szL, aP, aN, aT, aZ, aS, aD, aF, aJ, aK, aM, aO]))) | ((with_reducible refine gSt rfl ?_); refine st2 HS.out rfl rfl rfl rfl (by repeat (first | exact AtI.here | apply AtI.there)) ?_; (first | refine sv (u := .agg (List.toArray _)) rfl ?_ | refine sv (u := .int _ _) rfl ?_ | refine sv (u := .slice _ _ _) rfl ?_ | refine sv (u := .bool _) rfl ?_ | refine sv (u := .pointer _) rfl ?_); refine sw (szT _ (by decide)) rfl (lb rfl) ?_; clear HS; intro w1 HS1; (simp only [segOf, aL, aZ, aS, putSeg] at HS1); have HS := Aside0.mk HS1; clear HS1)); try simp only [aP, aN, aT, aZ, aS]))
        go_ret
        exact .inr (.inl ⟨rfl, HN.out, rfl, HS.out.pick [0, 1, 2, 3] rfl (by decide)⟩)
      | true =>
        have HN := Aside0.mk hn
        clear hn
        cases bi with
        | true =>
          go_wp2_with (first | (go_at_call 20; (with_reducible refine (named_any name _).mono ?_); rintro e w2 ⟨rfl, hb⟩; rw [HN.out]; have HS1 := HS.out.quiet hb; clear HS hb; have HS := Aside0.mk HS1; clear HS1) | ((with_reducible refine gC (b := .len) rfl ?_); refine sh_lenM HS.out rfl rfl rfl 1 rfl Tryd.underlying50 ?_; try simp only [aP, aN, aT, aZ, aS]) | ((first | ((first | ((with_reducible refine gA rfl ?_); refine sh_alloc HS.out rfl rfl (zeT _ (by decide)) ?_) | ((with_reducible refine gB rfl ?_); refine bx HS.out rfl rfl ?_; first | refine bv (v := .agg (List.toArray _)) rfl ?_ | refine bv (v := .int _ _) rfl ?_ | refine bv (v := .slice _ _ _) rfl ?_ | refine bv (v := .bool _) rfl ?_ | refine bv (v := .pointer _) rfl ?_) | ((with_reducible refine gL rfl ?_); refine sh_lit HS.out rfl rfl (by go_simp; exact ⟨⟨rfl, rfl⟩, rfl⟩) ?_)); clear HS; intro g w1 hg HS1; (simp only [zeF, segOf, aL, aC, aE] at HS1); have HS := Aside0.mk HS1; clear HS1) | ((with_reducible refine gLd rfl ?_); refine ld2 HS.out rfl rfl rfl (by repeat (first | exact AtI.here | apply AtI.there)) ?_; (first | refine LdK.one ((agT _ (by decide)).trans rfl) rfl ?_ | (refine LdK.agg ((agT _ (by decide)).trans rfl) (szT _ (by decide)) (lb rfl) ?_; try simp only [szL, aP, aN, aT, aZ, aS, aD, aF, aJ, aK, aM, aO]))) | ((with_reducible refine gSt rfl ?_); refine st2 HS.out rfl rfl rfl rfl (by repeat (first | exact AtI.here | apply AtI.there)) ?_; (first | refine sv (u := .agg (List.toArray _)) rfl ?_ | refine sv (u := .int _ _) rfl ?_ | refine sv (u := .slice _ _ _) rfl ?_ | refine sv (u := .bool _) rfl ?_ | refine sv (u := .pointer _) rfl ?_); refine sw (szT _ (by decide)) rfl (lb rfl) ?_; clear HS; intro w1 HS1; (simp only [segOf, aL, aZ, aS, putSeg] at HS1); have HS := Aside0.mk HS1; clear HS1)); try simp only [aP, aN, aT, aZ, aS]))
          go_meet
          case rel => exact ⟨rfl, ⟨by simp, HN.out, rfl⟩, HS⟩
        | false =>
          by_cases h0 : 0 < ys.length
          · have h0' : decide ((0 : Int) < (ys.length : Int)) = true := by rw [decide_eq_true_eq]; omega
            by_cases h64 : 64 ≤ m.length
            · have h64' : decide ((64 : Int) ≤ (m.length : Int)) = true := by rw [decide_eq_true_eq]; omega
              have HFU := Aside0.mk (show fullM m false ys.length = true by unfold fullM; rw [decide_eq_true h0, decide_eq_true h64]; rfl)
              go_wp2_with (first | (go_at_call 20; (with_reducible refine (named_any name _).mono ?_); rintro e w2 ⟨rfl, hb⟩; rw [HN.out]; have HS1 := HS.out.quiet hb; clear HS hb; have HS := Aside0.mk HS1; clear HS1) | ((with_reducible refine gC (b := .len) rfl ?_); refine sh_lenM HS.out rfl rfl rfl 1 rfl Tryd.underlying50 ?_; try simp only [aP, aN, aT, aZ, aS]) | ((first | ((first | ((with_reducible refine gA rfl ?_); refine sh_alloc HS.out rfl rfl (zeT _ (by decide)) ?_) | ((with_reducible refine gB rfl ?_); refine bx HS.out rfl rfl ?_; first | refine bv (v := .agg (List.toArray _)) rfl ?_ | refine bv (v := .int _ _) rfl ?_ | refine bv (v := .slice _ _ _) rfl ?_ | refine bv (v := .bool _) rfl ?_ | refine bv (v := .pointer _) rfl ?_) | ((with_reducible refine gL rfl ?_); refine sh_lit HS.out rfl rfl (by go_simp; exact ⟨⟨rfl, rfl⟩, rfl⟩) ?_)); clear HS; intro g w1 hg HS1; (simp only [zeF, segOf, aL, aC, aE] at HS1); have HS := Aside0.mk HS1; clear HS1) | ((with_reducible refine gLd rfl ?_); refine ld2 HS.out rfl rfl rfl (by repeat (first | exact AtI.here | apply AtI.there)) ?_; (first | refine LdK.one ((agT _ (by decide)).trans rfl) rfl ?_ | (refine LdK.agg ((agT _ (by decide)).trans rfl) (szT _ (by decide)) (lb rfl) ?_; try simp only [szL, aP, aN, aT, aZ, aS, aD, aF, aJ, aK, aM, aO]))) | ((with_reducible refine gSt rfl ?_); refine st2 HS.out rfl rfl rfl rfl (by repeat (first | exact AtI.here | apply AtI.there)) ?_; (first | refine sv (u := .agg (List.toArray _)) rfl ?_ | refine sv (u := .int _ _) rfl ?_ | refine sv (u := .slice _ _ _) rfl ?_ | refine sv (u := .bool _) rfl ?_ | refine sv (u := .pointer _) rfl ?_); refine sw (szT _ (by decide)) rfl (lb rfl) ?_; clear HS; intro w1 HS1; (simp only [segOf, aL, aZ, aS, putSeg] at HS1); have HS := Aside0.mk HS1; clear HS1)); try simp only [aP, aN, aT, aZ, aS]))
              go_ret
              exact .inr (.inr (.inl ⟨rfl, HN.out, HFU.out, rfl, HS.out.pick [0, 1, 2, 3] rfl (by decide)⟩))
            · have h64' : decide ((64 : Int) ≤ (m.length : Int)) = false := by rw [decide_eq_false_iff_not]; omega
              have HFU := Aside0.mk (show fullM m false ys.length = false by unfold fullM; rw [decide_eq_false h64]; simp)
              go_wp2_with (first | (go_at_call 20; (with_reducible refine (named_any name _).mono ?_); rintro e w2 ⟨rfl, hb⟩; rw [HN.out]; have HS1 := HS.out.quiet hb; clear HS hb; have HS := Aside0.mk HS1; clear HS1) | ((with_reducible refine gC (b := .len) rfl ?_); refine sh_lenM HS.out rfl rfl rfl 1 rfl Tryd.underlying50 ?_; try simp only [aP, aN, aT, aZ, aS]) | ((first | ((first | ((with_reducible refine gA rfl ?_); refine sh_alloc HS.out rfl rfl (zeT _ (by decide)) ?_) | ((with_reducible refine gB rfl ?_); refine bx HS.out rfl rfl ?_; first | refine bv (v := .agg (List.toArray _)) rfl ?_ | refine bv (v := .int _ _) rfl ?_ | refine bv (v := .slice _ _ _) rfl ?_ | refine bv (v := .bool _) rfl ?_ | refine bv (v := .pointer _) rfl ?_) | ((with_reducible refine gL rfl ?_); refine sh_lit HS.out rfl rfl (by go_simp; exact ⟨⟨rfl, rfl⟩, rfl⟩) ?_)); clear HS; intro g w1 hg HS1; (simp only [zeF, segOf, aL, aC, aE] at HS1); have HS := Aside0.mk HS1; clear HS1) | ((with_reducible refine gLd rfl ?_); refine ld2 HS.out rfl rfl rfl (by repeat (first | exact AtI.here | apply AtI.there)) ?_; (first | refine LdK.one ((agT _ (by decide)).trans rfl) rfl ?_ | (refine LdK.agg ((agT _ (by decide)).trans rfl) (szT _ (by decide)) (lb rfl) ?_; try simp only [szL, aP, aN, aT, aZ, aS, aD, aF, aJ, aK, aM, aO]))) | ((with_reducible refine gSt rfl ?_); refine st2 HS.out rfl rfl rfl rfl (by repeat (first | exact AtI.here | apply AtI.there)) ?_; (first | refine sv (u := .agg (List.toArray _)) rfl ?_ | refine sv (u := .int _ _) rfl ?_ | refine sv (u := .slice _ _ _) rfl ?_ | refine sv (u := .bool _) rfl ?_ | refine sv (u := .pointer _) rfl ?_); refine sw (szT _ (by decide)) rfl (lb rfl) ?_; clear HS; intro w1 HS1; (simp only [segOf, aL, aZ, aS, putSeg] at HS1); have HS := Aside0.mk HS1; clear HS1)); try simp only [aP, aN, aT, aZ, aS]))
              go_meet
              case rel => exact ⟨rfl, ⟨by simp, HN.out, HFU.out⟩, HS⟩
          · have h0' : decide ((0 : Int) < (ys.length : Int)) = false := by rw [decide_eq_false_iff_not]; omega
            have HFU := Aside0.mk (show fullM m false ys.length = false by unfold fullM; rw [decide_eq_false h0]; simp)
            go_wp2_with (first | (go_at_call 20; (with_reducible refine (named_any name _).mono ?_); rintro e w2 ⟨rfl, hb⟩; rw [HN.out]; have HS1 := HS.out.quiet hb; clear HS hb; have HS := Aside0.mk HS1; clear HS1) | ((with_reducible refine gC (b := .len) rfl ?_); refine sh_lenM HS.out rfl rfl rfl 1 rfl Tryd.underlying50 ?_; try simp only [aP, aN, aT, aZ, aS]) | ((first | ((first | ((with_reducible refine gA rfl ?_); refine sh_alloc HS.out rfl rfl (zeT _ (by decide)) ?_) | ((with_reducible refine gB rfl ?_); refine bx HS.out rfl rfl ?_; first | refine bv (v := .agg (List.toArray _)) rfl ?_ | refine bv (v := .int _ _) rfl ?_ | refine bv (v := .slice _ _ _) rfl ?_ | refine bv (v := .bool _) rfl ?_ | refine bv (v := .pointer _) rfl ?_) | ((with_reducible refine gL rfl ?_); refine sh_lit HS.out rfl rfl (by go_simp; exact ⟨⟨rfl, rfl⟩, rfl⟩) ?_)); clear HS; intro g w1 hg HS1; (simp only [zeF, segOf, aL, aC, aE] at HS1); have HS := Aside0.mk HS1; clear HS1) | ((with_reducible refine gLd rfl ?_); refine ld2 HS.out rfl rfl rfl (by repeat (first | exact AtI.here | apply AtI.there)) ?_; (first | refine LdK.one ((agT _ (by decide)).trans rfl) rfl ?_ | (refine LdK.agg ((agT _ (by decide)).trans rfl) (szT _ (by decide)) (lb rfl) ?_; try simp only [szL, aP, aN, aT, aZ, aS, aD, aF, aJ, aK, aM, aO]))) | ((with_reducible refine gSt rfl ?_); refine st2 HS.out rfl rfl rfl rfl (by repeat (first | exact AtI.here | apply AtI.there)) ?_; (first | refine sv (u := .agg (List.toArray _)) rfl ?_ | refine sv (u := .int _ _) rfl ?_ | refine sv (u := .slice _ _ _) rfl ?_ | refine sv (u := .bool _) rfl ?_ | refine sv (u := .pointer _) rfl ?_); refine sw (szT _ (by decide)) rfl (lb rfl) ?_; clear HS; intro w1 HS1; (simp only [segOf, aL, aZ, aS, putSeg] at HS1); have HS := Aside0.mk HS1; clear HS1)); try simp only [aP, aN, aT, aZ, aS]))
            go_meet
            case rel => exact ⟨rfl, ⟨by simp, HN.out, HFU.out⟩, HS⟩
  case rest =>
    clear HS HF
    obtain ⟨rfl, HQ, HS⟩ := hcut
    clear HI
    cases armed with
    | false =>
      clear hleft
      have HZ := HB
      have hlk := hlim
      by_cases h0 : 0 < ys.length
      · have h0' : decide ((0 : Int) < (ys.length : Int)) = true := by rw [decide_eq_true_eq]; omega
        have hne : ys ≠ [] := by intro h; rw [h] at h0; simp at h0
        obtain ⟨zz, hzz⟩ : ∃ zz, xs ++ ys = zz := ⟨_, rfl⟩
        have HZZ := Aside0.mk hzz
        clear hzz
        go_upto_region 13 with (first | (go_at_call 21; (with_reducible refine (concat_any _ A B xs.length ys.length c cB xs ys _ (Rd.lit (enc := valK) (fun _ => rfl) (HS.out.blk 5 rfl) rfl rfl (by exact Nat.le_of_ble_eq_true rfl)) (pool_rd HS.out 2 rfl HL.out) (HZ.out _ (HS.out.at 3 rfl)) hlk).mono ?_); rintro e w2 ⟨v1, S1, rfl, HS1⟩; have HS2 := HS.out.call HS1; clear HS HS1; simp only [aC, aE] at HS2; rw [HZZ.out] at HS2; obtain ⟨A1, cx, rfl, hcx, _⟩ := row_rd HS2 6 rfl; have HS := Aside0.mk HS2; clear HS2) | ((first | ((first | ((with_reducible refine gA rfl ?_); refine sh_alloc HS.out rfl rfl (zeT _ (by decide)) ?_) | ((with_reducible refine gB rfl ?_); refine bx HS.out rfl rfl ?_; first | refine bv (v := .agg (List.toArray _)) rfl ?_ | refine bv (v := .int _ _) rfl ?_ | refine bv (v := .slice _ _ _) rfl ?_ | refine bv (v := .bool _) rfl ?_ | refine bv (v := .pointer _) rfl ?_) | ((with_reducible refine gL rfl ?_); refine sh_lit HS.out rfl rfl (by go_simp; exact ⟨⟨rfl, rfl⟩, rfl⟩) ?_)); clear HS; intro g w1 hg HS1; (simp only [zeF, segOf, aL, aC, aE] at HS1); have HS := Aside0.mk HS1; clear HS1) | ((with_reducible refine gLd rfl ?_); refine ld2 HS.out rfl rfl rfl (by repeat (first | exact AtI.here | apply AtI.there)) ?_; (first | refine LdK.one ((agT _ (by decide)).trans rfl) rfl ?_ | (refine LdK.agg ((agT _ (by decide)).trans rfl) (szT _ (by decide)) (lb rfl) ?_; try simp only [szL, aP, aN, aT, aZ, aS, aD, aF, aJ, aK, aM, aO]))) | ((with_reducible refine gSt rfl ?_); refine st2 HS.out rfl rfl rfl rfl (by repeat (first | exact AtI.here | apply AtI.there)) ?_; (first | refine sv (u := .agg (List.toArray _)) rfl ?_ | refine sv (u := .int _ _) rfl ?_ | refine sv (u := .slice _ _ _) rfl ?_ | refine sv (u := .bool _) rfl ?_ | refine sv (u := .pointer _) rfl ?_); refine sw (szT _ (by decide)) rfl (lb rfl) ?_; clear HS; intro w1 HS1; (simp only [segOf, aL, aZ, aS, putSeg] at HS1); have HS := Aside0.mk HS1; clear HS1)); try simp only [aP, aN, aT, aZ, aS]))
        have HC := Aside0.mk (HS.out.pick [0, 4] rfl (by decide))
        refine kheld_start [] mixed HC.out (fun HC1 => ?_)
        have HS1 := HS.out.drew
        clear HS HC
        have HS := Aside0.mk HS1
        have HC := Aside0.mk HC1
        clear HS1 HC1
        refine k_any 0 (v := _) (by simp only [aG, aH, aI]; rfl) (by kernel_rfl) (by kernel_rfl) (by kernel_rfl) (by kernel_rfl) (by exact fun _ _ _ h => h) (.inr HC.out) (by kernel_rfl) (fun w => by (repeat (rename ∀ (_ : Act) (_ : World), _ => hK9; clear hK9)); go_simp; rfl) ?_
        (try simp only [aP, aN, aT, aZ, aS])
        refine k_any 1 (v := _) (by simp only [aG, aH, aI]; rfl) (by kernel_rfl) (by kernel_rfl) (by kernel_rfl) (by kernel_rfl) (by exact fun _ _ _ h => h) (.inr HC.out) (by kernel_rfl) (fun w => by (repeat (rename ∀ (_ : Act) (_ : World), _ => hK9; clear hK9)); go_simp; rfl) ?_
        (try simp only [aP, aN, aT, aZ, aS])
        refine k_any 2 (v := _) (by simp only [aG, aH, aI]; rfl) (by kernel_rfl) (by kernel_rfl) (by kernel_rfl) (by kernel_rfl) (by exact fun _ _ _ h => h) (.inr HC.out) (by kernel_rfl) (fun w => by (repeat (rename ∀ (_ : Act) (_ : World), _ => hK9; clear hK9)); go_simp; rfl) ?_
        (try simp only [aP, aN, aT, aZ, aS])
        refine k_load 3 (by simp only [aG, aH, aI]; rfl) (by kernel_rfl) (by kernel_rfl) (by kernel_rfl) (by kernel_rfl) (by exact fun _ _ _ h => h) HC.out (by kernel_rfl) rfl rfl 0 rfl ((agT _ (by decide)).trans rfl) rfl ?_
        (try simp only [aP, aN, aT, aZ, aS])
        refine k_any 4 (v := _) (by simp only [aG, aH, aI]; rfl) (by kernel_rfl) (by kernel_rfl) (by kernel_rfl) (by kernel_rfl) (by exact fun _ _ _ h => h) (.inr HC.out) (by kernel_rfl) (fun w => by (repeat (rename ∀ (_ : Act) (_ : World), _ => hK9; clear hK9)); go_simp; rfl) ?_
        (try simp only [aP, aN, aT, aZ, aS])
        refine k_loads 5 (by simp only [aG, aH, aI]; rfl) (by kernel_rfl) (by kernel_rfl) (by kernel_rfl) (by kernel_rfl) (v := _) (by exact fun _ _ _ h => h) HC.out (by kernel_rfl) rfl rfl 1 rfl ((agT _ (by decide)).trans rfl) (szT _ (by decide)) (lb rfl) rfl ?_
        (try simp only [szL, aP, aN, aT, aZ, aS, aD, aF, aJ, aK, aM, aO])
        (try simp only [aP, aN, aT, aZ, aS])
        refine k_one 6 (by simp only [aG, aH, aI]; rfl) (by kernel_rfl) ?_
        ((with_reducible refine gMu rfl ?_); refine sh_update HS.out rfl rfl rfl rfl 1 rfl name rfl trivial (Fi.mk A1 cx zz safe) rfl Tryd.underlying50 ownStr ?_; clear HS; intro w1 HS1; (simp only [aZ, aS] at HS1); have HS := Aside0.mk HS1; clear HS1; try simp only [aP, aN, aT, aZ, aS])
        have HC1 := HS.out.pick [0, 4] rfl (by decide)
        clear HC
        have HC := Aside0.mk HC1
        clear HC1
        refine k_nil (.inr HC.out) ?_
        (try simp only [aP, aN, aT, aZ, aS])
        refine k_done (by kernel_rfl) ?_ _
        have HP := pool_add HS.out 2 6 (by decide) rfl rfl
        simp only [aZ, aS] at HP
        clear HS
        have HS := Aside0.mk HP
        clear HP
        go_wp2_with (first | ((first | ((first | ((with_reducible refine gA rfl ?_); refine sh_alloc HS.out rfl rfl (zeT _ (by decide)) ?_) | ((with_reducible refine gB rfl ?_); refine bx HS.out rfl rfl ?_; first | refine bv (v := .agg (List.toArray _)) rfl ?_ | refine bv (v := .int _ _) rfl ?_ | refine bv (v := .slice _ _ _) rfl ?_ | refine bv (v := .bool _) rfl ?_ | refine bv (v := .pointer _) rfl ?_) | ((with_reducible refine gL rfl ?_); refine sh_lit HS.out rfl rfl (by go_simp; exact ⟨⟨rfl, rfl⟩, rfl⟩) ?_)); clear HS; intro g w1 hg HS1; (simp only [zeF, segOf, aL, aC, aE] at HS1); have HS := Aside0.mk HS1; clear HS1) | ((with_reducible refine gLd rfl ?_); refine ld2 HS.out rfl rfl rfl (by repeat (first | exact AtI.here | apply AtI.there)) ?_; (first | refine LdK.one ((agT _ (by decide)).trans rfl) rfl ?_ | (refine LdK.agg ((agT _ (by decide)).trans rfl) (szT _ (by decide)) (lb rfl) ?_; try simp only [szL, aP, aN, aT, aZ, aS, aD, aF, aJ, aK, aM, aO]))) | ((with_reducible refine gSt rfl ?_); refine st2 HS.out rfl rfl rfl rfl (by repeat (first | exact AtI.here | apply AtI.there)) ?_; (first | refine sv (u := .agg (List.toArray _)) rfl ?_ | refine sv (u := .int _ _) rfl ?_ | refine sv (u := .slice _ _ _) rfl ?_ | refine sv (u := .bool _) rfl ?_ | refine sv (u := .pointer _) rfl ?_); refine sw (szT _ (by decide)) rfl (lb rfl) ?_; clear HS; intro w1 HS1; (simp only [segOf, aL, aZ, aS, putSeg] at HS1); have HS := Aside0.mk HS1; clear HS1)); try simp only [aP, aN, aT, aZ, aS]))
        go_ret
        obtain rfl := HZZ.out
        exact .inr (.inr (.inr (.inr ⟨HQ.out.1, HQ.out.2.1, HQ.out.2.2, (fun h => by cases h), rfl, ⟨_, _, _, .inr ⟨hne, _, _, hcx, rfl, rfl⟩, HS.out.pick [0, 1, 2, 3] rfl (by decide)⟩⟩)))
      · have h0' : decide ((0 : Int) < (ys.length : Int)) = false := by rw [decide_eq_false_iff_not]; omega
        go_wp2_with (first | ((first | ((first | ((with_reducible refine gA rfl ?_); refine sh_alloc HS.out rfl rfl (zeT _ (by decide)) ?_) | ((with_reducible refine gB rfl ?_); refine bx HS.out rfl rfl ?_; first | refine bv (v := .agg (List.toArray _)) rfl ?_ | refine bv (v := .int _ _) rfl ?_ | refine bv (v := .slice _ _ _) rfl ?_ | refine bv (v := .bool _) rfl ?_ | refine bv (v := .pointer _) rfl ?_) | ((with_reducible refine gL rfl ?_); refine sh_lit HS.out rfl rfl (by go_simp; exact ⟨⟨rfl, rfl⟩, rfl⟩) ?_)); clear HS; intro g w1 hg HS1; (simp only [zeF, segOf, aL, aC, aE] at HS1); have HS := Aside0.mk HS1; clear HS1) | ((with_reducible refine gLd rfl ?_); refine ld2 HS.out rfl rfl rfl (by repeat (first | exact AtI.here | apply AtI.there)) ?_; (first | refine LdK.one ((agT _ (by decide)).trans rfl) rfl ?_ | (refine LdK.agg ((agT _ (by decide)).trans rfl) (szT _ (by decide)) (lb rfl) ?_; try simp only [szL, aP, aN, aT, aZ, aS, aD, aF, aJ, aK, aM, aO]))) | ((with_reducible refine gSt rfl ?_); refine st2 HS.out rfl rfl rfl rfl (by repeat (first | exact AtI.here | apply AtI.there)) ?_; (first | refine sv (u := .agg (List.toArray _)) rfl ?_ | refine sv (u := .int _ _) rfl ?_ | refine sv (u := .slice _ _ _) rfl ?_ | refine sv (u := .bool _) rfl ?_ | refine sv (u := .pointer _) rfl ?_); refine sw (szT _ (by decide)) rfl (lb rfl) ?_; clear HS; intro w1 HS1; (simp only [segOf, aL, aZ, aS, putSeg] at HS1); have HS := Aside0.mk HS1; clear HS1)); try simp only [aP, aN, aT, aZ, aS]))
        go_ret
        have hem : ys = [] := List.length_eq_zero_iff.1 (by omega)
        exact .inr (.inr (.inr (.inr ⟨HQ.out.1, HQ.out.2.1, HQ.out.2.2, (fun h => by cases h), rfl, ⟨_, _, _, .inl ⟨hem, rfl, rfl⟩, HS.out.pick [0, 1, 2, 3] rfl (by decide)⟩⟩)))
    | true =>
      obtain ⟨lf, rfl⟩ := Int.eq_ofNat_of_zero_le (hleft rfl).1
      have hl63 := (hleft rfl).2
      clear hleft
      by_cases hc : lf < ys.length
      · have hc' : decide ((lf : Int) < (ys.length : Int)) = true := by rw [decide_eq_true_eq]; omega
        have HZ := Aside0.mk (show ∀ w, F.ok w → Rd (ints .u8) 1 w B lf (ys.take lf) from fun w h => Rd.pre (HB.out w h) (by omega))
        have hlk : xs.length + lf ≤ 140737488351232 := by omega
        by_cases h0 : 0 < lf
        · have h0' : decide ((0 : Int) < (lf : Int)) = true := by rw [decide_eq_true_eq]; omega
          have hne : (ys.take lf) ≠ [] := fun h => by have h9 := congrArg List.length h; rw [List.length_take, List.length_nil] at h9; omega
          obtain ⟨zz, hzz⟩ : ∃ zz, xs ++ (ys.take lf) = zz := ⟨_, rfl⟩
          have HZZ := Aside0.mk hzz
          clear hzz
          go_upto_region 13 with (first | (go_at_call 21; (with_reducible refine (concat_any _ A B xs.length lf c cB xs (ys.take lf) _ (Rd.lit (enc := valK) (fun _ => rfl) (HS.out.blk 5 rfl) rfl rfl (by exact Nat.le_of_ble_eq_true rfl)) (pool_rd HS.out 2 rfl HL.out) (HZ.out _ (HS.out.at 3 rfl)) hlk).mono ?_); rintro e w2 ⟨v1, S1, rfl, HS1⟩; have HS2 := HS.out.call HS1; clear HS HS1; simp only [aC, aE] at HS2; rw [HZZ.out] at HS2; obtain ⟨A1, cx, rfl, hcx, _⟩ := row_rd HS2 6 rfl; have HS := Aside0.mk HS2; clear HS2) | ((first | ((first | ((with_reducible refine gA rfl ?_); refine sh_alloc HS.out rfl rfl (zeT _ (by decide)) ?_) | ((with_reducible refine gB rfl ?_); refine bx HS.out rfl rfl ?_; first | refine bv (v := .agg (List.toArray _)) rfl ?_ | refine bv (v := .int _ _) rfl ?_ | refine bv (v := .slice _ _ _) rfl ?_ | refine bv (v := .bool _) rfl ?_ | refine bv (v := .pointer _) rfl ?_) | ((with_reducible refine gL rfl ?_); refine sh_lit HS.out rfl rfl (by go_simp; exact ⟨⟨rfl, rfl⟩, rfl⟩) ?_)); clear HS; intro g w1 hg HS1; (simp only [zeF, segOf, aL, aC, aE] at HS1); have HS := Aside0.mk HS1; clear HS1) | ((with_reducible refine gLd rfl ?_); refine ld2 HS.out rfl rfl rfl (by repeat (first | exact AtI.here | apply AtI.there)) ?_; (first | refine LdK.one ((agT _ (by decide)).trans rfl) rfl ?_ | (refine LdK.agg ((agT _ (by decide)).trans rfl) (szT _ (by decide)) (lb rfl) ?_; try simp only [szL, aP, aN, aT, aZ, aS, aD, aF, aJ, aK, aM, aO]))) | ((with_reducible refine gSt rfl ?_); refine st2 HS.out rfl rfl rfl rfl (by repeat (first | exact AtI.here | apply AtI.there)) ?_; (first | refine sv (u := .agg (List.toArray _)) rfl ?_ | refine sv (u := .int _ _) rfl ?_ | refine sv (u := .slice _ _ _) rfl ?_ | refine sv (u := .bool _) rfl ?_ | refine sv (u := .pointer _) rfl ?_); refine sw (szT _ (by decide)) rfl (lb rfl) ?_; clear HS; intro w1 HS1; (simp only [segOf, aL, aZ, aS, putSeg] at HS1); have HS := Aside0.mk HS1; clear HS1)); try simp only [aP, aN, aT, aZ, aS]))
          have HC := Aside0.mk (HS.out.pick [0, 4] rfl (by decide))
          refine kheld_start [] mixed HC.out (fun HC1 => ?_)
          have HS1 := HS.out.drew
          clear HS HC
          have HS := Aside0.mk HS1
          have HC := Aside0.mk HC1
          clear HS1 HC1
          refine k_any 0 (v := _) (by simp only [aG, aH, aI]; rfl) (by kernel_rfl) (by kernel_rfl) (by kernel_rfl) (by kernel_rfl) (by exact fun _ _ _ h => h) (.inr HC.out) (by kernel_rfl) (fun w => by (repeat (rename ∀ (_ : Act) (_ : World), _ => hK9; clear hK9)); go_simp; rfl) ?_
          (try simp only [aP, aN, aT, aZ, aS])
          refine k_any 1 (v := _) (by simp only [aG, aH, aI]; rfl) (by kernel_rfl) (by kernel_rfl) (by kernel_rfl) (by kernel_rfl) (by exact fun _ _ _ h => h) (.inr HC.out) (by kernel_rfl) (fun w => by (repeat (rename ∀ (_ : Act) (_ : World), _ => hK9; clear hK9)); go_simp; rfl) ?_
          (try simp only [aP, aN, aT, aZ, aS])
          refine k_any 2 (v := _) (by simp only [aG, aH, aI]; rfl) (by kernel_rfl) (by kernel_rfl) (by kernel_rfl) (by kernel_rfl) (by exact fun _ _ _ h => h) (.inr HC.out) (by kernel_rfl) (fun w => by (repeat (rename ∀ (_ : Act) (_ : World), _ => hK9; clear hK9)); go_simp; rfl) ?_
          (try simp only [aP, aN, aT, aZ, aS])
          refine k_load 3 (by simp only [aG, aH, aI]; rfl) (by kernel_rfl) (by kernel_rfl) (by kernel_rfl) (by kernel_rfl) (by exact fun _ _ _ h => h) HC.out (by kernel_rfl) rfl rfl 0 rfl ((agT _ (by decide)).trans rfl) rfl ?_
          (try simp only [aP, aN, aT, aZ, aS])
          refine k_any 4 (v := _) (by simp only [aG, aH, aI]; rfl) (by kernel_rfl) (by kernel_rfl) (by kernel_rfl) (by kernel_rfl) (by exact fun _ _ _ h => h) (.inr HC.out) (by kernel_rfl) (fun w => by (repeat (rename ∀ (_ : Act) (_ : World), _ => hK9; clear hK9)); go_simp; rfl) ?_
          (try simp only [aP, aN, aT, aZ, aS])
          refine k_loads 5 (by simp only [aG, aH, aI]; rfl) (by kernel_rfl) (by kernel_rfl) (by kernel_rfl) (by kernel_rfl) (v := _) (by exact fun _ _ _ h => h) HC.out (by kernel_rfl) rfl rfl 1 rfl ((agT _ (by decide)).trans rfl) (szT _ (by decide)) (lb rfl) rfl ?_
          (try simp only [szL, aP, aN, aT, aZ, aS, aD, aF, aJ, aK, aM, aO])
          (try simp only [aP, aN, aT, aZ, aS])
          refine k_one 6 (by simp only [aG, aH, aI]; rfl) (by kernel_rfl) ?_
          ((with_reducible refine gMu rfl ?_); refine sh_update HS.out rfl rfl rfl rfl 1 rfl name rfl trivial (Fi.mk A1 cx zz safe) rfl Tryd.underlying50 ownStr ?_; clear HS; intro w1 HS1; (simp only [aZ, aS] at HS1); have HS := Aside0.mk HS1; clear HS1; try simp only [aP, aN, aT, aZ, aS])
          have HC1 := HS.out.pick [0, 4] rfl (by decide)
          clear HC
          have HC := Aside0.mk HC1
          clear HC1
          refine k_nil (.inr HC.out) ?_
          (try simp only [aP, aN, aT, aZ, aS])
          refine k_done (by kernel_rfl) ?_ _
          have HP := pool_add HS.out 2 6 (by decide) rfl rfl
          simp only [aZ, aS] at HP
          clear HS
          have HS := Aside0.mk HP
          clear HP
          go_wp2_with (first | ((first | ((first | ((with_reducible refine gA rfl ?_); refine sh_alloc HS.out rfl rfl (zeT _ (by decide)) ?_) | ((with_reducible refine gB rfl ?_); refine bx HS.out rfl rfl ?_; first | refine bv (v := .agg (List.toArray _)) rfl ?_ | refine bv (v := .int _ _) rfl ?_ | refine bv (v := .slice _ _ _) rfl ?_ | refine bv (v := .bool _) rfl ?_ | refine bv (v := .pointer _) rfl ?_) | ((with_reducible refine gL rfl ?_); refine sh_lit HS.out rfl rfl (by go_simp; exact ⟨⟨rfl, rfl⟩, rfl⟩) ?_)); clear HS; intro g w1 hg HS1; (simp only [zeF, segOf, aL, aC, aE] at HS1); have HS := Aside0.mk HS1; clear HS1) | ((with_reducible refine gLd rfl ?_); refine ld2 HS.out rfl rfl rfl (by repeat (first | exact AtI.here | apply AtI.there)) ?_; (first | refine LdK.one ((agT _ (by decide)).trans rfl) rfl ?_ | (refine LdK.agg ((agT _ (by decide)).trans rfl) (szT _ (by decide)) (lb rfl) ?_; try simp only [szL, aP, aN, aT, aZ, aS, aD, aF, aJ, aK, aM, aO]))) | ((with_reducible refine gSt rfl ?_); refine st2 HS.out rfl rfl rfl rfl (by repeat (first | exact AtI.here | apply AtI.there)) ?_; (first | refine sv (u := .agg (List.toArray _)) rfl ?_ | refine sv (u := .int _ _) rfl ?_ | refine sv (u := .slice _ _ _) rfl ?_ | refine sv (u := .bool _) rfl ?_ | refine sv (u := .pointer _) rfl ?_); refine sw (szT _ (by decide)) rfl (lb rfl) ?_; clear HS; intro w1 HS1; (simp only [segOf, aL, aZ, aS, putSeg] at HS1); have HS := Aside0.mk HS1; clear HS1)); try simp only [aP, aN, aT, aZ, aS]))
          go_ret
          obtain rfl := HZZ.out
          exact .inr (.inr (.inr (.inl ⟨HQ.out.1, HQ.out.2.1, HQ.out.2.2, rfl, by omega, rfl, ⟨_, _, _, .inr ⟨hne, _, _, hcx, rfl, rfl⟩, HS.out.pick [0, 1, 2, 3] rfl (by decide)⟩⟩)))
        · have h0' : decide ((0 : Int) < (lf : Int)) = false := by rw [decide_eq_false_iff_not]; omega
          go_wp2_with (first | ((first | ((first | ((with_reducible refine gA rfl ?_); refine sh_alloc HS.out rfl rfl (zeT _ (by decide)) ?_) | ((with_reducible refine gB rfl ?_); refine bx HS.out rfl rfl ?_; first | refine bv (v := .agg (List.toArray _)) rfl ?_ | refine bv (v := .int _ _) rfl ?_ | refine bv (v := .slice _ _ _) rfl ?_ | refine bv (v := .bool _) rfl ?_ | refine bv (v := .pointer _) rfl ?_) | ((with_reducible refine gL rfl ?_); refine sh_lit HS.out rfl rfl (by go_simp; exact ⟨⟨rfl, rfl⟩, rfl⟩) ?_)); clear HS; intro g w1 hg HS1; (simp only [zeF, segOf, aL, aC, aE] at HS1); have HS := Aside0.mk HS1; clear HS1) | ((with_reducible refine gLd rfl ?_); refine ld2 HS.out rfl rfl rfl (by repeat (first | exact AtI.here | apply AtI.there)) ?_; (first | refine LdK.one ((agT _ (by decide)).trans rfl) rfl ?_ | (refine LdK.agg ((agT _ (by decide)).trans rfl) (szT _ (by decide)) (lb rfl) ?_; try simp only [szL, aP, aN, aT, aZ, aS, aD, aF, aJ, aK, aM, aO]))) | ((with_reducible refine gSt rfl ?_); refine st2 HS.out rfl rfl rfl rfl (by repeat (first | exact AtI.here | apply AtI.there)) ?_; (first | refine sv (u := .agg (List.toArray _)) rfl ?_ | refine sv (u := .int _ _) rfl ?_ | refine sv (u := .slice _ _ _) rfl ?_ | refine sv (u := .bool _) rfl ?_ | refine sv (u := .pointer _) rfl ?_); refine sw (szT _ (by decide)) rfl (lb rfl) ?_; clear HS; intro w1 HS1; (simp only [segOf, aL, aZ, aS, putSeg] at HS1); have HS := Aside0.mk HS1; clear HS1)); try simp only [aP, aN, aT, aZ, aS]))
          go_ret
          have hem : (ys.take lf) = [] := List.length_eq_zero_iff.1 (by rw [List.length_take]; omega)
          exact .inr (.inr (.inr (.inl ⟨HQ.out.1, HQ.out.2.1, HQ.out.2.2, rfl, by omega, rfl, ⟨_, _, _, .inl ⟨hem, rfl, rfl⟩, HS.out.pick [0, 1, 2, 3] rfl (by decide)⟩⟩)))
      · have hc' : decide ((lf : Int) < (ys.length : Int)) = false := by rw [decide_eq_false_iff_not]; omega
        have HZ := HB
        have hlk := hlim
        have hwr : IntKind.i64.wrap ((lf : Int) - (ys.length : Int)) = (lf : Int) - (ys.length : Int) := by simp [IntKind.wrap, IntKind.bits, IntKind.signed]; omega
        by_cases h0 : 0 < ys.length
        · have h0' : decide ((0 : Int) < (ys.length : Int)) = true := by rw [decide_eq_true_eq]; omega
          have hne : ys ≠ [] := by intro h; rw [h] at h0; simp at h0
          obtain ⟨zz, hzz⟩ : ∃ zz, xs ++ ys = zz := ⟨_, rfl⟩
          have HZZ := Aside0.mk hzz
          clear hzz
          go_upto_region 13 with (first | (go_at_call 21; (with_reducible refine (concat_any _ A B xs.length ys.length c cB xs ys _ (Rd.lit (enc := valK) (fun _ => rfl) (HS.out.blk 5 rfl) rfl rfl (by exact Nat.le_of_ble_eq_true rfl)) (pool_rd HS.out 2 rfl HL.out) (HZ.out _ (HS.out.at 3 rfl)) hlk).mono ?_); rintro e w2 ⟨v1, S1, rfl, HS1⟩; have HS2 := HS.out.call HS1; clear HS HS1; simp only [aC, aE] at HS2; rw [HZZ.out] at HS2; obtain ⟨A1, cx, rfl, hcx, _⟩ := row_rd HS2 6 rfl; have HS := Aside0.mk HS2; clear HS2) | ((first | ((first | ((with_reducible refine gA rfl ?_); refine sh_alloc HS.out rfl rfl (zeT _ (by decide)) ?_) | ((with_reducible refine gB rfl ?_); refine bx HS.out rfl rfl ?_; first | refine bv (v := .agg (List.toArray _)) rfl ?_ | refine bv (v := .int _ _) rfl ?_ | refine bv (v := .slice _ _ _) rfl ?_ | refine bv (v := .bool _) rfl ?_ | refine bv (v := .pointer _) rfl ?_) | ((with_reducible refine gL rfl ?_); refine sh_lit HS.out rfl rfl (by go_simp; exact ⟨⟨rfl, rfl⟩, rfl⟩) ?_)); clear HS; intro g w1 hg HS1; (simp only [zeF, segOf, aL, aC, aE] at HS1); have HS := Aside0.mk HS1; clear HS1) | ((with_reducible refine gLd rfl ?_); refine ld2 HS.out rfl rfl rfl (by repeat (first | exact AtI.here | apply AtI.there)) ?_; (first | refine LdK.one ((agT _ (by decide)).trans rfl) rfl ?_ | (refine LdK.agg ((agT _ (by decide)).trans rfl) (szT _ (by decide)) (lb rfl) ?_; try simp only [szL, aP, aN, aT, aZ, aS, aD, aF, aJ, aK, aM, aO]))) | ((with_reducible refine gSt rfl ?_); refine st2 HS.out rfl rfl rfl rfl (by repeat (first | exact AtI.here | apply AtI.there)) ?_; (first | refine sv (u := .agg (List.toArray _)) rfl ?_ | refine sv (u := .int _ _) rfl ?_ | refine sv (u := .slice _ _ _) rfl ?_ | refine sv (u := .bool _) rfl ?_ | refine sv (u := .pointer _) rfl ?_); refine sw (szT _ (by decide)) rfl (lb rfl) ?_; clear HS; intro w1 HS1; (simp only [segOf, aL, aZ, aS, putSeg] at HS1); have HS := Aside0.mk HS1; clear HS1)); try simp only [aP, aN, aT, aZ, aS]))
          have HC := Aside0.mk (HS.out.pick [0, 4] rfl (by decide))
          refine kheld_start [] mixed HC.out (fun HC1 => ?_)
          have HS1 := HS.out.drew
          clear HS HC
          have HS := Aside0.mk HS1
          have HC := Aside0.mk HC1
          clear HS1 HC1
          refine k_any 0 (v := _) (by simp only [aG, aH, aI]; rfl) (by kernel_rfl) (by kernel_rfl) (by kernel_rfl) (by kernel_rfl) (by exact fun _ _ _ h => h) (.inr HC.out) (by kernel_rfl) (fun w => by (repeat (rename ∀ (_ : Act) (_ : World), _ => hK9; clear hK9)); go_simp; rfl) ?_
          (try simp only [aP, aN, aT, aZ, aS])
          refine k_any 1 (v := _) (by simp only [aG, aH, aI]; rfl) (by kernel_rfl) (by kernel_rfl) (by kernel_rfl) (by kernel_rfl) (by exact fun _ _ _ h => h) (.inr HC.out) (by kernel_rfl) (fun w => by (repeat (rename ∀ (_ : Act) (_ : World), _ => hK9; clear hK9)); go_simp; rfl) ?_
          (try simp only [aP, aN, aT, aZ, aS])
          refine k_any 2 (v := _) (by simp only [aG, aH, aI]; rfl) (by kernel_rfl) (by kernel_rfl) (by kernel_rfl) (by kernel_rfl) (by exact fun _ _ _ h => h) (.inr HC.out) (by kernel_rfl) (fun w => by (repeat (rename ∀ (_ : Act) (_ : World), _ => hK9; clear hK9)); go_simp; rfl) ?_
          (try simp only [aP, aN, aT, aZ, aS])
          refine k_load 3 (by simp only [aG, aH, aI]; rfl) (by kernel_rfl) (by kernel_rfl) (by kernel_rfl) (by kernel_rfl) (by exact fun _ _ _ h => h) HC.out (by kernel_rfl) rfl rfl 0 rfl ((agT _ (by decide)).trans rfl) rfl ?_
          (try simp only [aP, aN, aT, aZ, aS])
          refine k_any 4 (v := _) (by simp only [aG, aH, aI]; rfl) (by kernel_rfl) (by kernel_rfl) (by kernel_rfl) (by kernel_rfl) (by exact fun _ _ _ h => h) (.inr HC.out) (by kernel_rfl) (fun w => by (repeat (rename ∀ (_ : Act) (_ : World), _ => hK9; clear hK9)); go_simp; rfl) ?_
          (try simp only [aP, aN, aT, aZ, aS])
          refine k_loads 5 (by simp only [aG, aH, aI]; rfl) (by kernel_rfl) (by kernel_rfl) (by kernel_rfl) (by kernel_rfl) (v := _) (by exact fun _ _ _ h => h) HC.out (by kernel_rfl) rfl rfl 1 rfl ((agT _ (by decide)).trans rfl) (szT _ (by decide)) (lb rfl) rfl ?_
          (try simp only [szL, aP, aN, aT, aZ, aS, aD, aF, aJ, aK, aM, aO])
          (try simp only [aP, aN, aT, aZ, aS])
          refine k_one 6 (by simp only [aG, aH, aI]; rfl) (by kernel_rfl) ?_
          ((with_reducible refine gMu rfl ?_); refine sh_update HS.out rfl rfl rfl rfl 1 rfl name rfl trivial (Fi.mk A1 cx zz safe) rfl Tryd.underlying50 ownStr ?_; clear HS; intro w1 HS1; (simp only [aZ, aS] at HS1); have HS := Aside0.mk HS1; clear HS1; try simp only [aP, aN, aT, aZ, aS])
          have HC1 := HS.out.pick [0, 4] rfl (by decide)
          clear HC
          have HC := Aside0.mk HC1
          clear HC1
          refine k_nil (.inr HC.out) ?_
          (try simp only [aP, aN, aT, aZ, aS])
          refine k_done (by kernel_rfl) ?_ _
          have HP := pool_add HS.out 2 6 (by decide) rfl rfl
          simp only [aZ, aS] at HP
          clear HS
          have HS := Aside0.mk HP
          clear HP
          go_wp2_with (first | ((first | ((first | ((with_reducible refine gA rfl ?_); refine sh_alloc HS.out rfl rfl (zeT _ (by decide)) ?_) | ((with_reducible refine gB rfl ?_); refine bx HS.out rfl rfl ?_; first | refine bv (v := .agg (List.toArray _)) rfl ?_ | refine bv (v := .int _ _) rfl ?_ | refine bv (v := .slice _ _ _) rfl ?_ | refine bv (v := .bool _) rfl ?_ | refine bv (v := .pointer _) rfl ?_) | ((with_reducible refine gL rfl ?_); refine sh_lit HS.out rfl rfl (by go_simp; exact ⟨⟨rfl, rfl⟩, rfl⟩) ?_)); clear HS; intro g w1 hg HS1; (simp only [zeF, segOf, aL, aC, aE] at HS1); have HS := Aside0.mk HS1; clear HS1) | ((with_reducible refine gLd rfl ?_); refine ld2 HS.out rfl rfl rfl (by repeat (first | exact AtI.here | apply AtI.there)) ?_; (first | refine LdK.one ((agT _ (by decide)).trans rfl) rfl ?_ | (refine LdK.agg ((agT _ (by decide)).trans rfl) (szT _ (by decide)) (lb rfl) ?_; try simp only [szL, aP, aN, aT, aZ, aS, aD, aF, aJ, aK, aM, aO]))) | ((with_reducible refine gSt rfl ?_); refine st2 HS.out rfl rfl rfl rfl (by repeat (first | exact AtI.here | apply AtI.there)) ?_; (first | refine sv (u := .agg (List.toArray _)) rfl ?_ | refine sv (u := .int _ _) rfl ?_ | refine sv (u := .slice _ _ _) rfl ?_ | refine sv (u := .bool _) rfl ?_ | refine sv (u := .pointer _) rfl ?_); refine sw (szT _ (by decide)) rfl (lb rfl) ?_; clear HS; intro w1 HS1; (simp only [segOf, aL, aZ, aS, putSeg] at HS1); have HS := Aside0.mk HS1; clear HS1)); try simp only [aP, aN, aT, aZ, aS]))
          go_ret
          obtain rfl := HZZ.out
          exact .inr (.inr (.inr (.inr ⟨HQ.out.1, HQ.out.2.1, HQ.out.2.2, (fun _ => by omega), rfl, ⟨_, _, _, .inr ⟨hne, _, _, hcx, rfl, rfl⟩, HS.out.pick [0, 1, 2, 3] rfl (by decide)⟩⟩)))
        · have h0' : decide ((0 : Int) < (ys.length : Int)) = false := by rw [decide_eq_false_iff_not]; omega
          go_wp2_with (first | ((first | ((first | ((with_reducible refine gA rfl ?_); refine sh_alloc HS.out rfl rfl (zeT _ (by decide)) ?_) | ((with_reducible refine gB rfl ?_); refine bx HS.out rfl rfl ?_; first | refine bv (v := .agg (List.toArray _)) rfl ?_ | refine bv (v := .int _ _) rfl ?_ | refine bv (v := .slice _ _ _) rfl ?_ | refine bv (v := .bool _) rfl ?_ | refine bv (v := .pointer _) rfl ?_) | ((with_reducible refine gL rfl ?_); refine sh_lit HS.out rfl rfl (by go_simp; exact ⟨⟨rfl, rfl⟩, rfl⟩) ?_)); clear HS; intro g w1 hg HS1; (simp only [zeF, segOf, aL, aC, aE] at HS1); have HS := Aside0.mk HS1; clear HS1) | ((with_reducible refine gLd rfl ?_); refine ld2 HS.out rfl rfl rfl (by repeat (first | exact AtI.here | apply AtI.there)) ?_; (first | refine LdK.one ((agT _ (by decide)).trans rfl) rfl ?_ | (refine LdK.agg ((agT _ (by decide)).trans rfl) (szT _ (by decide)) (lb rfl) ?_; try simp only [szL, aP, aN, aT, aZ, aS, aD, aF, aJ, aK, aM, aO]))) | ((with_reducible refine gSt rfl ?_); refine st2 HS.out rfl rfl rfl rfl (by repeat (first | exact AtI.here | apply AtI.there)) ?_; (first | refine sv (u := .agg (List.toArray _)) rfl ?_ | refine sv (u := .int _ _) rfl ?_ | refine sv (u := .slice _ _ _) rfl ?_ | refine sv (u := .bool _) rfl ?_ | refine sv (u := .pointer _) rfl ?_); refine sw (szT _ (by decide)) rfl (lb rfl) ?_; clear HS; intro w1 HS1; (simp only [segOf, aL, aZ, aS, putSeg] at HS1); have HS := Aside0.mk HS1; clear HS1)); try simp only [aP, aN, aT, aZ, aS]))
          go_ret
          have hem : ys = [] := List.length_eq_zero_iff.1 (by omega)
          exact .inr (.inr (.inr (.inr ⟨HQ.out.1, HQ.out.2.1, HQ.out.2.2, (fun _ => by omega), rfl, ⟨_, _, _, .inl ⟨hem, rfl, rfl⟩, HS.out.pick [0, 1, 2, 3] rfl (by decide)⟩⟩)))
end Go.Proofs.YtgcgnhcjjlnloaaDoor.Dk
