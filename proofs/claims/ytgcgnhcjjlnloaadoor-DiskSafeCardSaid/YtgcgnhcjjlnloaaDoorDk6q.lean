/- Lemmas towards the law: what of the text Dk6 it needs. -/
import Derived.Test.YtgcgnhcjjlnloaaDoorDk5q
namespace Go.Proofs.YtgcgnhcjjlnloaaDoor.Dk
open Go.RowKit Go.Proofs.YtgcgnhcjjlnloaaDoorW.PrintWords Go.Proofs.YtgcgnhcjjlnloaaDoor.Sl
set_option linter.unusedVariables false
set_option linter.unusedSimpArgs false
theorem run_lk1 {P : Program} {κ ν : Type} [DecidableEq κ] {kt : TypeId} {enc : κ → Value} {encV : ν → Value} {q : κ → Prop} {o : Oper} {a : Act} {w0 W : World} {is : List HP} (HS : SH w0 W is) {t : TypeId} {m k : Operand} (ho : o.op = .lookup t m k false)
    {g : Nat} (hm : a.eval m = .map (some g)) (n : Nat) {mm : List (κ × ν)} (hn : is[n]? = some (mp g enc encV q mm)) (kk : κ) (hk : a.eval k = enc kk) (hq : q kk)
    {et : TypeId} (ht : P.underlying t = some (.map kt et)) (K : KeyOK P kt enc q) {z : ν} (hz : (P.info? et).bind (·.zero) = some (encV z)) {v : Value} (hv : encV ((mget mm kk).getD z) = v) : (execOp a.eval o).run P W = .ok (.value v) W := by
  subst hv
  obtain ⟨es, clock, hh, hp, hqs, hb, hnd⟩ := HS.at n hn
  have hf := run_findKey (encV := encV) K hq W mm es.toList hp hqs
  obtain ⟨inf, hi, hz⟩ := Option.bind_eq_some_iff.1 hz
  have hzv : (zeroValue et).run P W = .ok (encV z) W := by simp [zeroValue, typeInfo, hi, hz]
  have hl := mget_atFrom mm kk 0
  unfold execOp
  simp only [ho, hm, hk]
  cases ha : atFrom mm kk 0 with
  | none =>
    rw [ha] at hf hl
    simp only [Option.map_none] at hf hl
    rw [← hl]
    simp [Instr.lookup, run_underlying ht, run_getObj hh, K.chk _ _ _ hq, hf, hzv]
  | some r =>
    rw [ha] at hf hl
    simp only [Option.map_some] at hf hl
    rw [← hl]
    simp [Instr.lookup, run_underlying ht, run_getObj hh, K.chk _ _ _ hq, hf, hzv]
theorem fileZero : (Tryd.prog.info? 54).bind (·.zero) = some (Fi.enc fi0) := by kernel_rfl
theorem ownStr : KeyOK Tryd.prog 9 strV (fun _ => True) := strKeyOK Tryd.underlying9
def findF (off : Bool) (o : Option Fi) : Fi := if off then fi0 else o.getD fi0
def findE (off : Bool) (o : Option Fi) : Int := if off then 7 else if o.isSome then 0 else 4
theorem results_cell2 {P : Program} {fn : Func} {p u : Tmp} {ty : TypeId} (h : fn.results = #[.cell p ty, .tmp u]) (tmps : Array Value) (w : World) (g : Nat) (t : TypeId) (cs : Array Value) (fr : Nat × Nat) (d : TypeDesc)
    (hp : tmps.getD p undef = .pointer (some ⟨g, 0, none⟩)) (hg : w.heap[g]? = some (.cells cs t fr))
    (hu : P.underlying ty = some d) (hd : (match d with | .struct _ | .array _ _ => true | _ => false) = true) (hi : (P.info? ty).map (·.size) = some cs.size) :
    (results fn tmps).run P w = .ok (.tuple #[.agg cs, tmps.getD u undef]) w := by
  have hp' : tmps[p]?.getD undef = .pointer (some ⟨g, 0, none⟩) := by simpa using hp
  simp [results, h, hp', asAddr, run_loadVar_row w g t ty cs fr d hg hu hd hi]
set_option maxHeartbeats 3200000 in
set_option maxRecDepth 100000 in
theorem find_any {w0 w : World} {F : HP} (gD gM : Nat) (x1 x2 : Value) (off : Bool) (m : FM) (name : ByteArray) (o : Option Fi) (hg : mget m name = o) (HS0 : SH w0 w [blk gD [.map (some gM), x1, x2, .bool off] 52, mpF gM m, F]) :
    Calls Tryd.prog 34 #[.pointer (some ⟨gD, 0, none⟩), .string name] w (fun e w' => e = .returned (.tuple #[Fi.enc (findF off o), .int .i64 (findE off o)]) ∧ SH w0 w' [blk gD [.map (some gM), x1, x2, .bool off] 52, mpF gM m, F]) := by
  have HS := Aside0.mk HS0
  clear HS0
  have HG := Aside0.mk hg
  clear hg
  rcases off with _ | _ <;> rcases o with _ | ⟨A, c, xs, safe⟩
  all_goals
    go_enter Tryd.func34, Tryd.ntmps34
    go_wp2_with (first | ((with_reducible refine gLk rfl ?_); refine sh_lookup2 HS.out rfl rfl rfl 1 rfl name rfl trivial Tryd.underlying50 ownStr (z := fi0) fileZero ?_; (rw [HG.out]; simp only [Option.getD_none, Option.getD_some, Option.isSome_none, Option.isSome_some, Fi.enc, fi0]; try simp only [aP, aN, aT, aZ, aS])) | ((first | ((first | ((with_reducible refine gA rfl ?_); refine sh_alloc HS.out rfl rfl (zeT _ (by decide)) ?_) | ((with_reducible refine gB rfl ?_); refine bx HS.out rfl rfl ?_; first | refine bv (v := .agg (List.toArray _)) rfl ?_ | refine bv (v := .int _ _) rfl ?_ | refine bv (v := .slice _ _ _) rfl ?_ | refine bv (v := .bool _) rfl ?_ | refine bv (v := .pointer _) rfl ?_) | ((with_reducible refine gL rfl ?_); refine sh_lit HS.out rfl rfl (by go_simp; exact ⟨⟨rfl, rfl⟩, rfl⟩) ?_)); clear HS; intro g w1 hg HS1; (simp only [zeF, segOf, aL, aC, aE] at HS1); have HS := Aside0.mk HS1; clear HS1) | ((with_reducible refine gLd rfl ?_); refine ld2 HS.out rfl rfl rfl (by repeat (first | exact AtI.here | apply AtI.there)) ?_; (first | refine LdK.one ((agT _ (by decide)).trans rfl) rfl ?_ | (refine LdK.agg ((agT _ (by decide)).trans rfl) (szT _ (by decide)) (lb rfl) ?_; try simp only [szL, aP, aN, aT, aZ, aS, aD, aF, aJ, aK, aM, aO]))) | ((with_reducible refine gSt rfl ?_); refine st2 HS.out rfl rfl rfl rfl (by repeat (first | exact AtI.here | apply AtI.there)) ?_; (first | refine sv (u := .agg (List.toArray _)) rfl ?_ | refine sv (u := .int _ _) rfl ?_ | refine sv (u := .slice _ _ _) rfl ?_ | refine sv (u := .bool _) rfl ?_ | refine sv (u := .pointer _) rfl ?_); refine sw (szT _ (by decide)) rfl (lb rfl) ?_; clear HS; intro w1 HS1; (simp only [segOf, aL, aZ, aS, putSeg] at HS1); have HS := Aside0.mk HS1; clear HS1)); try simp only [aP, aN, aT, aZ, aS]))
    try simp only [Exit.inBlock, Exit.then]
    refine bodyPost_ret (results_cell2 rfl _ _ _ _ _ _ _ rfl (HS.out.blk 3 rfl) Tryd.underlying54 rfl ((szT _ (by decide)).trans rfl)) rfl ?_
    exact ⟨rfl, HS.out.pick [0, 1, 2] rfl (by decide)⟩
end Go.Proofs.YtgcgnhcjjlnloaaDoor.Dk
