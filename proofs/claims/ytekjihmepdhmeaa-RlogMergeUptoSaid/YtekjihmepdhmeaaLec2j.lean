import Derived.Test.YtekjihmepdhmeaaLed0j
import Derived.Deep.DeepCutAuto
/- Lemmas towards the law: what of the text Lec2 it needs. -/
namespace Go.Proofs.Ytekjihmepdhmeaa.Led
open Go.RowKit Go.Proofs.YtekjihmepdhmeaaW.PrintWords Go.Proofs.Ytekjihmepdhmeaa.Sl
set_option linter.unusedVariables false
set_option linter.unusedSimpArgs false
abbrev Cnt := List (Int × Int)
def cntOf (m : Cnt) (s : Int) : Int := (mget m s).getD 0
def okHeld (lim nxt t : Int) (m : Cnt) (h : Held) : Bool :=
  decide (t < h.token) && decide (h.token ≤ lim) && isNode h.node && decide (1 ≤ h.boot) && decide (1 ≤ h.stamp) && decide (1 ≤ h.serial) && decide (h.serial < nxt) && decide (cntOf m h.serial = 0)
def hstep (lim nxt : Int) (s : Bool × Int × Cnt) (h : Held) : Bool × Int × Cnt :=
  (s.1 && okHeld lim nxt s.2.1 s.2.2 h, h.token, mput s.2.2 h.serial (cntOf s.2.2 h.serial + 1))
def okLast (lim nxt t : Int) (x : Last) : Bool := decide (t < x.node) && isNode x.node && decide (1 ≤ x.boot) && decide (1 ≤ x.seq) && okAns lim nxt x.ans
def lstep (lim nxt : Int) (s : Bool × Int) (x : Last) : Bool × Int := (s.1 && okLast lim nxt s.2 x, x.node)
def good0 (lim nxt : Int) (n : Nat) : Bool := decide (1 ≤ lim) && decide (lim ≤ 65535) && decide (1 ≤ nxt) && decide (n ≤ 64)
/-- The code's answer. -/
def ckLed (lim nxt : Int) (l : List Held) (m : List Last) : Bool := (m.foldl (lstep lim nxt) ((l.foldl (hstep lim nxt) (good0 lim nxt l.length, 0, [])).1, 0)).1
theorem foldl_take_succ {α β : Type} {f : β → α → β} {b : β} {l : List α} {k : Nat} {x z : α} (hk : k < l.length) (hx : l.getD k z = x) {s : β} (hs : (l.take k).foldl f b = s) : (l.take (k + 1)).foldl f b = f s x := by
  rw [take_succ_getD z hk, List.foldl_append, hs, hx]; rfl
theorem cntOf_put (m : Cnt) (s s' v : Int) : cntOf (mput m s v) s' = if s = s' then v else cntOf m s' := by
  unfold cntOf
  rw [mget_put]
  split <;> rfl
theorem cnt_bound {m : Cnt} {k : Nat} (h : ∀ s, 0 ≤ cntOf m s ∧ cntOf m s ≤ k) (s : Int) : ∀ s', 0 ≤ cntOf (mput m s (cntOf m s + 1)) s' ∧ cntOf (mput m s (cntOf m s + 1)) s' ≤ (k + 1 : Nat) := by
  intro s'
  rw [cntOf_put]
  have h1 := h s
  have h2 := h s'
  split <;> omega
theorem u64KeyOK : KeyOK Try.prog 22 (Value.int .u64) (fun _ : Int => True) := intKeyOK (by kernel_rfl)
theorem good0_next {lim nxt : Int} {n : Nat} (h : good0 lim nxt n = true) : 1 ≤ nxt := by
  unfold good0 at h
  grind
theorem getD_mem {α : Type} {l : List α} {k : Nat} {x z : α} (hk : k < l.length) (hx : l.getD k z = x) : x ∈ l := by
  have hget : l[k] = x := by simpa [List.getD_eq_getElem?_getD, List.getElem?_eq_getElem hk] using hx
  rw [← hget]
  exact List.getElem_mem hk
set_option maxHeartbeats 3200000 in
set_option maxRecDepth 100000 in
theorem ck_any (A B : Option Addr) (c c' : Nat) (lim nxt : Int) (l : List Held) (m : List Last) (w : World) {N M : Nat} (hr : Rd Held.enc 5 w A N l) (hr' : Rd Last.enc 6 w B M m)
    (hn : nxt < 18446744073709551616) (hs : ∀ x ∈ m, 0 ≤ x.ans.serial ∧ x.ans.serial < 18446744073709551616) :
    Calls Try.prog 69 #[.agg #[.int .i64 lim, .int .u64 nxt, .slice A N c, .slice B M c']] w (fun e w' => e = .returned (.int .i64 (if ckLed lim nxt l m then 0 else 50)) ∧ Below w.heap.size w w') := by
  obtain rfl := hr.len.1
  obtain rfl := hr'.len.1
  have hm := hr.len.2
  have hm' := hr'.len.2
  have HR := Aside0.mk hr
  have HR' := Aside0.mk hr'
  have HSER := Aside0.mk hs
  clear hr hr' hs
  generalize hck : (if ckLed lim nxt l m then (0 : Int) else 50) = ck
  have HCK := Aside0.mk hck
  clear hck
  generalize hg0 : good0 lim nxt l.length = g0
  have HGE := Aside0.mk hg0
  have HG0 := Aside0.mk (show g0 = true → 1 ≤ nxt from fun h => good0_next (hg0.trans h))
  have HS := Aside0.mk (SH.start w)
  go_enter Try.func69, Try.ntmps69
  go_upto_region 1 with (first | ((first | ((first | ((with_reducible refine gA rfl ?_); refine sh_alloc HS.out rfl rfl (zeT _ (by decide)) ?_) | ((with_reducible refine gB rfl ?_); refine bx HS.out rfl rfl ?_; first | refine bv (v := .agg (List.toArray _)) rfl ?_ | refine bv (v := .int _ _) rfl ?_ | refine bv (v := .slice _ _ _) rfl ?_ | refine bv (v := .bool _) rfl ?_ | refine bv (v := .pointer _) rfl ?_ | refine bv (v := .string _) rfl ?_ | refine bv (v := .map _) rfl ?_ | refine bv (v := .func _ _ _) rfl ?_) | ((with_reducible refine gL rfl ?_); refine sh_lit HS.out rfl rfl (by go_simp; exact ⟨⟨rfl, rfl⟩, rfl⟩) ?_)); clear HS; intro g w1 hg HS1; (simp only [Held.enc, Last.enc, zeF, segOf, aL, aC, aE] at HS1); have HS := Aside0.mk HS1; clear HS1) | ((with_reducible refine gLd rfl ?_); refine ld2 HS.out rfl rfl rfl (by repeat (first | exact AtI.here | apply AtI.there)) ?_; (first | refine LdK.one ((agT _ (by decide)).trans rfl) rfl ?_ | (refine LdK.agg ((agT _ (by decide)).trans rfl) (szT _ (by decide)) (lb rfl) ?_; try simp only [szL, aP, aN, aT, aZ, aS, aD, aF, aJ, aK, aM, aO]))) | ((with_reducible refine gSt rfl ?_); refine st2 HS.out rfl rfl rfl rfl (by repeat (first | exact AtI.here | apply AtI.there)) ?_; (first | refine sv (u := .agg (List.toArray _)) rfl ?_ | refine sv (u := .int _ _) rfl ?_ | refine sv (u := .slice _ _ _) rfl ?_ | refine sv (u := .bool _) rfl ?_ | refine sv (u := .pointer _) rfl ?_ | refine sv (u := .string _) rfl ?_ | refine sv (u := .map _) rfl ?_ | refine sv (u := .func _ _ _) rfl ?_); refine sw (szT _ (by decide)) rfl (lb rfl) ?_; clear HS; intro w1 HS1; (simp only [Held.enc, Last.enc, segOf, aL, aZ, aS, putSeg] at HS1); have HS := Aside0.mk HS1; clear HS1)); try simp only [aP, aN, aT, aZ, aS]))
  obtain ⟨gl, hgl⟩ : ∃ gl, gl = g := ⟨_, rfl⟩
  subst hgl
  go_cut [3] (fun v3 wx => v3 = .bool g0 ∧ Aside0 (SH w wx [blk gl [.int .i64 lim, .int .u64 nxt, .slice A l.length c, .slice B m.length c'] 27]))
  case first =>
    go_wp2_with (first | ((first | ((first | ((with_reducible refine gA rfl ?_); refine sh_alloc HS.out rfl rfl (zeT _ (by decide)) ?_) | ((with_reducible refine gB rfl ?_); refine bx HS.out rfl rfl ?_; first | refine bv (v := .agg (List.toArray _)) rfl ?_ | refine bv (v := .int _ _) rfl ?_ | refine bv (v := .slice _ _ _) rfl ?_ | refine bv (v := .bool _) rfl ?_ | refine bv (v := .pointer _) rfl ?_ | refine bv (v := .string _) rfl ?_ | refine bv (v := .map _) rfl ?_ | refine bv (v := .func _ _ _) rfl ?_) | ((with_reducible refine gL rfl ?_); refine sh_lit HS.out rfl rfl (by go_simp; exact ⟨⟨rfl, rfl⟩, rfl⟩) ?_)); clear HS; intro g w1 hg HS1; (simp only [Held.enc, Last.enc, zeF, segOf, aL, aC, aE] at HS1); have HS := Aside0.mk HS1; clear HS1) | ((with_reducible refine gLd rfl ?_); refine ld2 HS.out rfl rfl rfl (by repeat (first | exact AtI.here | apply AtI.there)) ?_; (first | refine LdK.one ((agT _ (by decide)).trans rfl) rfl ?_ | (refine LdK.agg ((agT _ (by decide)).trans rfl) (szT _ (by decide)) (lb rfl) ?_; try simp only [szL, aP, aN, aT, aZ, aS, aD, aF, aJ, aK, aM, aO]))) | ((with_reducible refine gSt rfl ?_); refine st2 HS.out rfl rfl rfl rfl (by repeat (first | exact AtI.here | apply AtI.there)) ?_; (first | refine sv (u := .agg (List.toArray _)) rfl ?_ | refine sv (u := .int _ _) rfl ?_ | refine sv (u := .slice _ _ _) rfl ?_ | refine sv (u := .bool _) rfl ?_ | refine sv (u := .pointer _) rfl ?_ | refine sv (u := .string _) rfl ?_ | refine sv (u := .map _) rfl ?_ | refine sv (u := .func _ _ _) rfl ?_); refine sw (szT _ (by decide)) rfl (lb rfl) ?_; clear HS; intro w1 HS1; (simp only [Held.enc, Last.enc, segOf, aL, aZ, aS, putSeg] at HS1); have HS := Aside0.mk HS1; clear HS1)); try simp only [aP, aN, aT, aZ, aS]) | ((with_reducible refine gGd rfl ?_); refine gsplit rfl rfl ?_ ?_ <;> (intro h; (fail_if_success guard_hyp h : true = true); (fail_if_success guard_hyp h : false = false); (fail_if_success guard_hyp h : true = false); (fail_if_success guard_hyp h : false = true); rewrite [h]; (try simp only [decide_eq_true_eq, decide_eq_false_iff_not, Bool.not_eq_true', Bool.not_eq_false', Int.not_lt, Int.not_le] at h);  (try first | contradiction | go_big_false); (try with_reducible refine WP.mk ?_))))
    all_goals
      go_meet
      case rel =>
        refine ⟨?_, HS⟩
        rw [← hg0]
        refine congrArg Value.bool ?_
        clear HS HG0 HGE hg0
        unfold good0
        (repeat (rename ∀ (_ : Act) (_ : World), _ => hK9; clear hK9))
        grind
  case rest =>
    clear HS hg0
    obtain ⟨rfl, HS⟩ := hcut
    go_wp2_with (first | ((first | ((first | ((with_reducible refine gA rfl ?_); refine sh_alloc HS.out rfl rfl (zeT _ (by decide)) ?_) | ((with_reducible refine gB rfl ?_); refine bx HS.out rfl rfl ?_; first | refine bv (v := .agg (List.toArray _)) rfl ?_ | refine bv (v := .int _ _) rfl ?_ | refine bv (v := .slice _ _ _) rfl ?_ | refine bv (v := .bool _) rfl ?_ | refine bv (v := .pointer _) rfl ?_ | refine bv (v := .string _) rfl ?_ | refine bv (v := .map _) rfl ?_ | refine bv (v := .func _ _ _) rfl ?_) | ((with_reducible refine gL rfl ?_); refine sh_lit HS.out rfl rfl (by go_simp; exact ⟨⟨rfl, rfl⟩, rfl⟩) ?_)); clear HS; intro g w1 hg HS1; (simp only [Held.enc, Last.enc, zeF, segOf, aL, aC, aE] at HS1); have HS := Aside0.mk HS1; clear HS1) | ((with_reducible refine gLd rfl ?_); refine ld2 HS.out rfl rfl rfl (by repeat (first | exact AtI.here | apply AtI.there)) ?_; (first | refine LdK.one ((agT _ (by decide)).trans rfl) rfl ?_ | (refine LdK.agg ((agT _ (by decide)).trans rfl) (szT _ (by decide)) (lb rfl) ?_; try simp only [szL, aP, aN, aT, aZ, aS, aD, aF, aJ, aK, aM, aO]))) | ((with_reducible refine gSt rfl ?_); refine st2 HS.out rfl rfl rfl rfl (by repeat (first | exact AtI.here | apply AtI.there)) ?_; (first | refine sv (u := .agg (List.toArray _)) rfl ?_ | refine sv (u := .int _ _) rfl ?_ | refine sv (u := .slice _ _ _) rfl ?_ | refine sv (u := .bool _) rfl ?_ | refine sv (u := .pointer _) rfl ?_ | refine sv (u := .string _) rfl ?_ | refine sv (u := .map _) rfl ?_ | refine sv (u := .func _ _ _) rfl ?_); refine sw (szT _ (by decide)) rfl (lb rfl) ?_; clear HS; intro w1 HS1; (simp only [Held.enc, Last.enc, segOf, aL, aZ, aS, putSeg] at HS1); have HS := Aside0.mk HS1; clear HS1)); try simp only [aP, aN, aT, aZ, aS]) | ((with_reducible refine gMm rfl ?_); refine sh_makeMap HS.out rfl rfl (Value.int .u64) (Value.int .i64) (fun _ : Int => True) ?_; clear HS; intro g w1 hg HS1; (simp only [aC, aE] at HS1); have HS := Aside0.mk HS1; clear HS1; try simp only [aP, aN, aT, aZ, aS]))
    obtain ⟨gm, hgm⟩ : ∃ gm, gm = g := ⟨_, rfl⟩
    subst hgm
    go_loopw [3, 5, 7, 34] (fun v3 v5 v7 v34 wr => ∃ (k : Nat) (gk : Bool) (t : Int) (mm : Cnt), k ≤ l.length ∧ v34 = .int .i64 k ∧ v3 = .bool gk ∧ v5 = .int .i64 t ∧ Aside0 ((l.take k).foldl (hstep lim nxt) (g0, 0, []) = (gk, t, mm)) ∧ Aside0 (∀ s, 0 ≤ cntOf mm s ∧ cntOf mm s ≤ k) ∧ Aside0 (gk = true → 1 ≤ nxt) ∧ Aside0 (SH w wr [blk gl [.int .i64 lim, .int .u64 nxt, .slice A l.length c, .slice B m.length c'] 27, mp gm (Value.int .u64) (Value.int .i64) (fun _ : Int => True) mm])) (fun _ _ _ v34 _ => l.length - (intOf v34).toNat)
    case atStart => exact ⟨0, g0, 0, [], Nat.zero_le _, rfl, rfl, rfl, ⟨rfl⟩, ⟨fun s => by simp [cntOf, mget]⟩, HG0, HS⟩
    case round =>
      clear HS
      obtain ⟨k, gk, t, mm, hk, rfl, rfl, rfl, HF, HB, HN, HS⟩ := hrel
      by_cases hlt : k < l.length
      · have HR1 := HR.out.sh HS.out
        obtain ⟨ad, rfl⟩ := HR1.addr (by omega)
        have HRR := Aside0.mk HR1
        clear HR1
        generalize hxx : l.getD k default = x0
        have HX0 := Aside0.mk hxx
        clear hxx
        have hb := HB.out x0.serial
        have hbb := cnt_bound HB.out x0.serial
        clear HB
        have HBB := Aside0.mk hbb
        clear hbb
        have hF := foldl_take_succ hlt HX0.out HF.out
        clear HF
        generalize hcn : cntOf mm x0.serial = cn at hb hF HBB
        generalize hok : okHeld lim nxt t mm x0 = ok at hF
        simp only [hstep, hok, hcn] at hF
        have HF := Aside0.mk hF
        have HCN := Aside0.mk hcn
        clear hF
        go_upto_region 7 with (first | ((with_reducible refine gLd rfl ?_); refine rd_load HRR.out rfl rfl (i := k) rfl hlt default Held.len ((agT _ (by decide)).trans rfl) (szT _ (by decide)) ?_; intro x hx; obtain rfl := HX0.out.symm.trans hx; (try simp only [Held.enc, Last.enc, aP, aN, aT, aZ, aS])) | ((first | ((first | ((with_reducible refine gA rfl ?_); refine sh_alloc HS.out rfl rfl (zeT _ (by decide)) ?_) | ((with_reducible refine gB rfl ?_); refine bx HS.out rfl rfl ?_; first | refine bv (v := .agg (List.toArray _)) rfl ?_ | refine bv (v := .int _ _) rfl ?_ | refine bv (v := .slice _ _ _) rfl ?_ | refine bv (v := .bool _) rfl ?_ | refine bv (v := .pointer _) rfl ?_ | refine bv (v := .string _) rfl ?_ | refine bv (v := .map _) rfl ?_ | refine bv (v := .func _ _ _) rfl ?_) | ((with_reducible refine gL rfl ?_); refine sh_lit HS.out rfl rfl (by go_simp; exact ⟨⟨rfl, rfl⟩, rfl⟩) ?_)); clear HS; intro g w1 hg HS1; (simp only [Held.enc, Last.enc, zeF, segOf, aL, aC, aE] at HS1); have HS := Aside0.mk HS1; clear HS1) | ((with_reducible refine gLd rfl ?_); refine ld2 HS.out rfl rfl rfl (by repeat (first | exact AtI.here | apply AtI.there)) ?_; (first | refine LdK.one ((agT _ (by decide)).trans rfl) rfl ?_ | (refine LdK.agg ((agT _ (by decide)).trans rfl) (szT _ (by decide)) (lb rfl) ?_; try simp only [szL, aP, aN, aT, aZ, aS, aD, aF, aJ, aK, aM, aO]))) | ((with_reducible refine gSt rfl ?_); refine st2 HS.out rfl rfl rfl rfl (by repeat (first | exact AtI.here | apply AtI.there)) ?_; (first | refine sv (u := .agg (List.toArray _)) rfl ?_ | refine sv (u := .int _ _) rfl ?_ | refine sv (u := .slice _ _ _) rfl ?_ | refine sv (u := .bool _) rfl ?_ | refine sv (u := .pointer _) rfl ?_ | refine sv (u := .string _) rfl ?_ | refine sv (u := .map _) rfl ?_ | refine sv (u := .func _ _ _) rfl ?_); refine sw (szT _ (by decide)) rfl (lb rfl) ?_; clear HS; intro w1 HS1; (simp only [Held.enc, Last.enc, segOf, aL, aZ, aS, putSeg] at HS1); have HS := Aside0.mk HS1; clear HS1)); try simp only [aP, aN, aT, aZ, aS]))
        obtain ⟨gh, hgh⟩ : ∃ gh, gh = g := ⟨_, rfl⟩
        subst hgh
        go_cut [3] (fun v3 wx => v3 = .bool (gk && ok) ∧ Aside0 (SH w wx [blk gl [.int .i64 lim, .int .u64 nxt, .slice (some ad) l.length c, .slice B m.length c'] 27, mp gm (Value.int .u64) (Value.int .i64) (fun _ : Int => True) mm, blk gh [.int .i64 x0.token, .int .i64 x0.node, .int .u64 x0.boot, .int .u64 x0.serial, .int .u64 x0.stamp] 72]))
        case first =>
          go_wp2_with (first | (go_at_call 95; (with_reducible refine (node_any x0.node _).mono ?_); rintro e w2 ⟨rfl, rfl⟩;  skip) | (((with_reducible refine gLk rfl ?_); refine sh_lookup HS.out rfl rfl rfl 1 rfl x0.serial rfl trivial rfl u64KeyOK (z := (0 : Int)) rfl ?_; try simp only [aP, aN, aT, aZ, aS]); rw [show (mget mm x0.serial).getD 0 = cn from HCN.out]) | ((first | ((first | ((with_reducible refine gA rfl ?_); refine sh_alloc HS.out rfl rfl (zeT _ (by decide)) ?_) | ((with_reducible refine gB rfl ?_); refine bx HS.out rfl rfl ?_; first | refine bv (v := .agg (List.toArray _)) rfl ?_ | refine bv (v := .int _ _) rfl ?_ | refine bv (v := .slice _ _ _) rfl ?_ | refine bv (v := .bool _) rfl ?_ | refine bv (v := .pointer _) rfl ?_ | refine bv (v := .string _) rfl ?_ | refine bv (v := .map _) rfl ?_ | refine bv (v := .func _ _ _) rfl ?_) | ((with_reducible refine gL rfl ?_); refine sh_lit HS.out rfl rfl (by go_simp; exact ⟨⟨rfl, rfl⟩, rfl⟩) ?_)); clear HS; intro g w1 hg HS1; (simp only [Held.enc, Last.enc, zeF, segOf, aL, aC, aE] at HS1); have HS := Aside0.mk HS1; clear HS1) | ((with_reducible refine gLd rfl ?_); refine ld2 HS.out rfl rfl rfl (by repeat (first | exact AtI.here | apply AtI.there)) ?_; (first | refine LdK.one ((agT _ (by decide)).trans rfl) rfl ?_ | (refine LdK.agg ((agT _ (by decide)).trans rfl) (szT _ (by decide)) (lb rfl) ?_; try simp only [szL, aP, aN, aT, aZ, aS, aD, aF, aJ, aK, aM, aO]))) | ((with_reducible refine gSt rfl ?_); refine st2 HS.out rfl rfl rfl rfl (by repeat (first | exact AtI.here | apply AtI.there)) ?_; (first | refine sv (u := .agg (List.toArray _)) rfl ?_ | refine sv (u := .int _ _) rfl ?_ | refine sv (u := .slice _ _ _) rfl ?_ | refine sv (u := .bool _) rfl ?_ | refine sv (u := .pointer _) rfl ?_ | refine sv (u := .string _) rfl ?_ | refine sv (u := .map _) rfl ?_ | refine sv (u := .func _ _ _) rfl ?_); refine sw (szT _ (by decide)) rfl (lb rfl) ?_; clear HS; intro w1 HS1; (simp only [Held.enc, Last.enc, segOf, aL, aZ, aS, putSeg] at HS1); have HS := Aside0.mk HS1; clear HS1)); try simp only [aP, aN, aT, aZ, aS]) | ((with_reducible refine gGd rfl ?_); refine gsplit rfl rfl ?_ ?_ <;> (intro h; (fail_if_success guard_hyp h : true = true); (fail_if_success guard_hyp h : false = false); (fail_if_success guard_hyp h : true = false); (fail_if_success guard_hyp h : false = true); rewrite [h]; (try simp only [decide_eq_true_eq, decide_eq_false_iff_not, Bool.not_eq_true', Bool.not_eq_false', Int.not_lt, Int.not_le] at h);  (try first | contradiction | go_big_false); (try with_reducible refine WP.mk ?_))))
          all_goals
            go_meet
            case rel =>
              refine ⟨?_, HS⟩
              rw [← hok]
              refine congrArg Value.bool ?_
              unfold okHeld
              rw [HCN.out]
              clear HS HN HF HX0 HBB HCN HRR HCK HR HR' hok
              (repeat (rename ∀ (_ : Act) (_ : World), _ => hK9; clear hK9))
              grind
        case rest =>
          obtain ⟨rfl, HS⟩ := hcut
          go_wp2_with (first | (((with_reducible refine gLk rfl ?_); refine sh_lookup HS.out rfl rfl rfl 1 rfl x0.serial rfl trivial rfl u64KeyOK (z := (0 : Int)) rfl ?_; try simp only [aP, aN, aT, aZ, aS]); rw [show (mget mm x0.serial).getD 0 = cn from HCN.out]) | ((with_reducible refine gMu rfl ?_); refine sh_update HS.out rfl rfl rfl rfl 1 rfl x0.serial rfl trivial (cn + 1) rfl rfl u64KeyOK ?_; clear HS; intro w1 HS1; (simp only [aZ, aS] at HS1); have HS := Aside0.mk HS1; clear HS1; try simp only [aP, aN, aT, aZ, aS]) | ((first | ((first | ((with_reducible refine gA rfl ?_); refine sh_alloc HS.out rfl rfl (zeT _ (by decide)) ?_) | ((with_reducible refine gB rfl ?_); refine bx HS.out rfl rfl ?_; first | refine bv (v := .agg (List.toArray _)) rfl ?_ | refine bv (v := .int _ _) rfl ?_ | refine bv (v := .slice _ _ _) rfl ?_ | refine bv (v := .bool _) rfl ?_ | refine bv (v := .pointer _) rfl ?_ | refine bv (v := .string _) rfl ?_ | refine bv (v := .map _) rfl ?_ | refine bv (v := .func _ _ _) rfl ?_) | ((with_reducible refine gL rfl ?_); refine sh_lit HS.out rfl rfl (by go_simp; exact ⟨⟨rfl, rfl⟩, rfl⟩) ?_)); clear HS; intro g w1 hg HS1; (simp only [Held.enc, Last.enc, zeF, segOf, aL, aC, aE] at HS1); have HS := Aside0.mk HS1; clear HS1) | ((with_reducible refine gLd rfl ?_); refine ld2 HS.out rfl rfl rfl (by repeat (first | exact AtI.here | apply AtI.there)) ?_; (first | refine LdK.one ((agT _ (by decide)).trans rfl) rfl ?_ | (refine LdK.agg ((agT _ (by decide)).trans rfl) (szT _ (by decide)) (lb rfl) ?_; try simp only [szL, aP, aN, aT, aZ, aS, aD, aF, aJ, aK, aM, aO]))) | ((with_reducible refine gSt rfl ?_); refine st2 HS.out rfl rfl rfl rfl (by repeat (first | exact AtI.here | apply AtI.there)) ?_; (first | refine sv (u := .agg (List.toArray _)) rfl ?_ | refine sv (u := .int _ _) rfl ?_ | refine sv (u := .slice _ _ _) rfl ?_ | refine sv (u := .bool _) rfl ?_ | refine sv (u := .pointer _) rfl ?_ | refine sv (u := .string _) rfl ?_ | refine sv (u := .map _) rfl ?_ | refine sv (u := .func _ _ _) rfl ?_); refine sw (szT _ (by decide)) rfl (lb rfl) ?_; clear HS; intro w1 HS1; (simp only [Held.enc, Last.enc, segOf, aL, aZ, aS, putSeg] at HS1); have HS := Aside0.mk HS1; clear HS1)); try simp only [aP, aN, aT, aZ, aS]))
          have HS1 := HS.out.pick [0, 1] rfl (by decide)
          clear HS
          have HS := Aside0.mk HS1
          clear HS1
          go_roundw
          case rel => exact ⟨k + 1, gk && ok, x0.token, _, by omega, by go_num, rfl, rfl, HF, HBB, ⟨fun h => HN.out (by simp at h; exact h.1)⟩, HS⟩
          case measure => simp [intOf]; omega
      · obtain rfl : k = l.length := by omega
        rw [List.take_length] at HF
        clear HB
        go_wp2_with (first | ((first | ((first | ((with_reducible refine gA rfl ?_); refine sh_alloc HS.out rfl rfl (zeT _ (by decide)) ?_) | ((with_reducible refine gB rfl ?_); refine bx HS.out rfl rfl ?_; first | refine bv (v := .agg (List.toArray _)) rfl ?_ | refine bv (v := .int _ _) rfl ?_ | refine bv (v := .slice _ _ _) rfl ?_ | refine bv (v := .bool _) rfl ?_ | refine bv (v := .pointer _) rfl ?_ | refine bv (v := .string _) rfl ?_ | refine bv (v := .map _) rfl ?_ | refine bv (v := .func _ _ _) rfl ?_) | ((with_reducible refine gL rfl ?_); refine sh_lit HS.out rfl rfl (by go_simp; exact ⟨⟨rfl, rfl⟩, rfl⟩) ?_)); clear HS; intro g w1 hg HS1; (simp only [Held.enc, Last.enc, zeF, segOf, aL, aC, aE] at HS1); have HS := Aside0.mk HS1; clear HS1) | ((with_reducible refine gLd rfl ?_); refine ld2 HS.out rfl rfl rfl (by repeat (first | exact AtI.here | apply AtI.there)) ?_; (first | refine LdK.one ((agT _ (by decide)).trans rfl) rfl ?_ | (refine LdK.agg ((agT _ (by decide)).trans rfl) (szT _ (by decide)) (lb rfl) ?_; try simp only [szL, aP, aN, aT, aZ, aS, aD, aF, aJ, aK, aM, aO]))) | ((with_reducible refine gSt rfl ?_); refine st2 HS.out rfl rfl rfl rfl (by repeat (first | exact AtI.here | apply AtI.there)) ?_; (first | refine sv (u := .agg (List.toArray _)) rfl ?_ | refine sv (u := .int _ _) rfl ?_ | refine sv (u := .slice _ _ _) rfl ?_ | refine sv (u := .bool _) rfl ?_ | refine sv (u := .pointer _) rfl ?_ | refine sv (u := .string _) rfl ?_ | refine sv (u := .map _) rfl ?_ | refine sv (u := .func _ _ _) rfl ?_); refine sw (szT _ (by decide)) rfl (lb rfl) ?_; clear HS; intro w1 HS1; (simp only [Held.enc, Last.enc, segOf, aL, aZ, aS, putSeg] at HS1); have HS := Aside0.mk HS1; clear HS1)); try simp only [aP, aN, aT, aZ, aS]))
        go_loopw [3, 8, 10, 97] (fun v3 v8 v10 v97 wr => ∃ (k : Nat) (g2 : Bool) (t2 : Int), k ≤ m.length ∧ v97 = .int .i64 k ∧ v3 = .bool g2 ∧ v8 = .int .i64 t2 ∧ Aside0 ((m.take k).foldl (lstep lim nxt) (gk, 0) = (g2, t2)) ∧ Aside0 (g2 = true → 1 ≤ nxt) ∧ Aside0 (SH w wr [blk gl [.int .i64 lim, .int .u64 nxt, .slice A l.length c, .slice B m.length c'] 27])) (fun _ _ _ v97 _ => m.length - (intOf v97).toNat)
        case atStart => exact ⟨0, gk, 0, Nat.zero_le _, rfl, rfl, rfl, ⟨rfl⟩, HN, ⟨HS.out.pick [0] rfl (by decide)⟩⟩
        case round =>
          clear HS HN
          obtain ⟨k, g2, t2, hk, rfl, rfl, rfl, HF2, HN, HS⟩ := hrel
          by_cases hlt : k < m.length
          · have HR1 := HR'.out.sh HS.out
            obtain ⟨ad, rfl⟩ := HR1.addr (by omega)
            have HRR := Aside0.mk HR1
            clear HR1
            generalize hxx : m.getD k default = x0
            have HX0 := Aside0.mk hxx
            obtain ⟨hs1, hs2⟩ := HSER.out x0 (getD_mem hlt hxx)
            clear hxx
            have hF := foldl_take_succ hlt HX0.out HF2.out
            clear HF2
            generalize hok : okLast lim nxt t2 x0 = ok at hF
            simp only [lstep, hok] at hF
            have HF2 := Aside0.mk hF
            clear hF
            go_upto_region 15 with (first | ((with_reducible refine gLd rfl ?_); refine rd_load HRR.out rfl rfl (i := k) rfl hlt default Last.len ((agT _ (by decide)).trans rfl) (szT _ (by decide)) ?_; intro x hx; obtain rfl := HX0.out.symm.trans hx; (try simp only [Held.enc, Last.enc, aP, aN, aT, aZ, aS])) | ((first | ((first | ((with_reducible refine gA rfl ?_); refine sh_alloc HS.out rfl rfl (zeT _ (by decide)) ?_) | ((with_reducible refine gB rfl ?_); refine bx HS.out rfl rfl ?_; first | refine bv (v := .agg (List.toArray _)) rfl ?_ | refine bv (v := .int _ _) rfl ?_ | refine bv (v := .slice _ _ _) rfl ?_ | refine bv (v := .bool _) rfl ?_ | refine bv (v := .pointer _) rfl ?_ | refine bv (v := .string _) rfl ?_ | refine bv (v := .map _) rfl ?_ | refine bv (v := .func _ _ _) rfl ?_) | ((with_reducible refine gL rfl ?_); refine sh_lit HS.out rfl rfl (by go_simp; exact ⟨⟨rfl, rfl⟩, rfl⟩) ?_)); clear HS; intro g w1 hg HS1; (simp only [Held.enc, Last.enc, zeF, segOf, aL, aC, aE] at HS1); have HS := Aside0.mk HS1; clear HS1) | ((with_reducible refine gLd rfl ?_); refine ld2 HS.out rfl rfl rfl (by repeat (first | exact AtI.here | apply AtI.there)) ?_; (first | refine LdK.one ((agT _ (by decide)).trans rfl) rfl ?_ | (refine LdK.agg ((agT _ (by decide)).trans rfl) (szT _ (by decide)) (lb rfl) ?_; try simp only [szL, aP, aN, aT, aZ, aS, aD, aF, aJ, aK, aM, aO]))) | ((with_reducible refine gSt rfl ?_); refine st2 HS.out rfl rfl rfl rfl (by repeat (first | exact AtI.here | apply AtI.there)) ?_; (first | refine sv (u := .agg (List.toArray _)) rfl ?_ | refine sv (u := .int _ _) rfl ?_ | refine sv (u := .slice _ _ _) rfl ?_ | refine sv (u := .bool _) rfl ?_ | refine sv (u := .pointer _) rfl ?_ | refine sv (u := .string _) rfl ?_ | refine sv (u := .map _) rfl ?_ | refine sv (u := .func _ _ _) rfl ?_); refine sw (szT _ (by decide)) rfl (lb rfl) ?_; clear HS; intro w1 HS1; (simp only [Held.enc, Last.enc, segOf, aL, aZ, aS, putSeg] at HS1); have HS := Aside0.mk HS1; clear HS1)); try simp only [aP, aN, aT, aZ, aS]))
            obtain ⟨gh, hgh⟩ : ∃ gh, gh = g := ⟨_, rfl⟩
            subst hgh
            go_cut [3] (fun v3 wx => v3 = .bool (g2 && ok) ∧ Aside0 (SH w wx [blk gl [.int .i64 lim, .int .u64 nxt, .slice A l.length c, .slice (some ad) m.length c'] 27, blk gh [.int .i64 x0.node, .int .u64 x0.boot, .int .u64 x0.seq, .int .i64 x0.ans.code, .int .i64 x0.ans.token, .int .u64 x0.ans.serial] 76]))
            case first =>
              go_wp2_with (first | (go_at_call 95; (with_reducible refine (node_any x0.node _).mono ?_); rintro e w2 ⟨rfl, rfl⟩;  skip) | (go_at_call 96; (with_reducible refine (answer_any lim nxt _ _ x0.ans _ (HN.out (by assumption)) hn hs1 hs2).mono ?_); rintro e w2 ⟨rfl, hb⟩;  have HS1 := HS.out.quiet hb; clear HS hb; have HS := Aside0.mk HS1; clear HS1) | ((first | ((first | ((with_reducible refine gA rfl ?_); refine sh_alloc HS.out rfl rfl (zeT _ (by decide)) ?_) | ((with_reducible refine gB rfl ?_); refine bx HS.out rfl rfl ?_; first | refine bv (v := .agg (List.toArray _)) rfl ?_ | refine bv (v := .int _ _) rfl ?_ | refine bv (v := .slice _ _ _) rfl ?_ | refine bv (v := .bool _) rfl ?_ | refine bv (v := .pointer _) rfl ?_ | refine bv (v := .string _) rfl ?_ | refine bv (v := .map _) rfl ?_ | refine bv (v := .func _ _ _) rfl ?_) | ((with_reducible refine gL rfl ?_); refine sh_lit HS.out rfl rfl (by go_simp; exact ⟨⟨rfl, rfl⟩, rfl⟩) ?_)); clear HS; intro g w1 hg HS1; (simp only [Held.enc, Last.enc, zeF, segOf, aL, aC, aE] at HS1); have HS := Aside0.mk HS1; clear HS1) | ((with_reducible refine gLd rfl ?_); refine ld2 HS.out rfl rfl rfl (by repeat (first | exact AtI.here | apply AtI.there)) ?_; (first | refine LdK.one ((agT _ (by decide)).trans rfl) rfl ?_ | (refine LdK.agg ((agT _ (by decide)).trans rfl) (szT _ (by decide)) (lb rfl) ?_; try simp only [szL, aP, aN, aT, aZ, aS, aD, aF, aJ, aK, aM, aO]))) | ((with_reducible refine gSt rfl ?_); refine st2 HS.out rfl rfl rfl rfl (by repeat (first | exact AtI.here | apply AtI.there)) ?_; (first | refine sv (u := .agg (List.toArray _)) rfl ?_ | refine sv (u := .int _ _) rfl ?_ | refine sv (u := .slice _ _ _) rfl ?_ | refine sv (u := .bool _) rfl ?_ | refine sv (u := .pointer _) rfl ?_ | refine sv (u := .string _) rfl ?_ | refine sv (u := .map _) rfl ?_ | refine sv (u := .func _ _ _) rfl ?_); refine sw (szT _ (by decide)) rfl (lb rfl) ?_; clear HS; intro w1 HS1; (simp only [Held.enc, Last.enc, segOf, aL, aZ, aS, putSeg] at HS1); have HS := Aside0.mk HS1; clear HS1)); try simp only [aP, aN, aT, aZ, aS]) | ((with_reducible refine gGd rfl ?_); refine gsplit rfl rfl ?_ ?_ <;> (intro h; (fail_if_success guard_hyp h : true = true); (fail_if_success guard_hyp h : false = false); (fail_if_success guard_hyp h : true = false); (fail_if_success guard_hyp h : false = true); rewrite [h]; (try simp only [decide_eq_true_eq, decide_eq_false_iff_not, Bool.not_eq_true', Bool.not_eq_false', Int.not_lt, Int.not_le] at h);  (try first | contradiction | go_big_false); (try with_reducible refine WP.mk ?_))))
              all_goals
                go_meet
                case rel =>
                  refine ⟨?_, HS⟩
                  rw [← hok]
                  refine congrArg Value.bool ?_
                  unfold okLast
                  clear HS HN HF HX0 HF2 HRR HCK HR HR' hok
                  (repeat (rename ∀ (_ : Act) (_ : World), _ => hK9; clear hK9))
                  grind
            case rest =>
              obtain ⟨rfl, HS⟩ := hcut
              go_wp2_with (first | ((first | ((first | ((with_reducible refine gA rfl ?_); refine sh_alloc HS.out rfl rfl (zeT _ (by decide)) ?_) | ((with_reducible refine gB rfl ?_); refine bx HS.out rfl rfl ?_; first | refine bv (v := .agg (List.toArray _)) rfl ?_ | refine bv (v := .int _ _) rfl ?_ | refine bv (v := .slice _ _ _) rfl ?_ | refine bv (v := .bool _) rfl ?_ | refine bv (v := .pointer _) rfl ?_ | refine bv (v := .string _) rfl ?_ | refine bv (v := .map _) rfl ?_ | refine bv (v := .func _ _ _) rfl ?_) | ((with_reducible refine gL rfl ?_); refine sh_lit HS.out rfl rfl (by go_simp; exact ⟨⟨rfl, rfl⟩, rfl⟩) ?_)); clear HS; intro g w1 hg HS1; (simp only [Held.enc, Last.enc, zeF, segOf, aL, aC, aE] at HS1); have HS := Aside0.mk HS1; clear HS1) | ((with_reducible refine gLd rfl ?_); refine ld2 HS.out rfl rfl rfl (by repeat (first | exact AtI.here | apply AtI.there)) ?_; (first | refine LdK.one ((agT _ (by decide)).trans rfl) rfl ?_ | (refine LdK.agg ((agT _ (by decide)).trans rfl) (szT _ (by decide)) (lb rfl) ?_; try simp only [szL, aP, aN, aT, aZ, aS, aD, aF, aJ, aK, aM, aO]))) | ((with_reducible refine gSt rfl ?_); refine st2 HS.out rfl rfl rfl rfl (by repeat (first | exact AtI.here | apply AtI.there)) ?_; (first | refine sv (u := .agg (List.toArray _)) rfl ?_ | refine sv (u := .int _ _) rfl ?_ | refine sv (u := .slice _ _ _) rfl ?_ | refine sv (u := .bool _) rfl ?_ | refine sv (u := .pointer _) rfl ?_ | refine sv (u := .string _) rfl ?_ | refine sv (u := .map _) rfl ?_ | refine sv (u := .func _ _ _) rfl ?_); refine sw (szT _ (by decide)) rfl (lb rfl) ?_; clear HS; intro w1 HS1; (simp only [Held.enc, Last.enc, segOf, aL, aZ, aS, putSeg] at HS1); have HS := Aside0.mk HS1; clear HS1)); try simp only [aP, aN, aT, aZ, aS]))
              have HS1 := HS.out.pick [0] rfl (by decide)
              clear HS
              have HS := Aside0.mk HS1
              clear HS1
              go_roundw
              case rel => exact ⟨k + 1, g2 && ok, x0.node, by omega, by go_num, rfl, rfl, HF2, ⟨fun h => HN.out (by simp at h; exact h.1)⟩, HS⟩
              case measure => simp [intOf]; omega
          · obtain rfl : k = m.length := by omega
            rw [List.take_length] at HF2
            have hfin : g2 = ckLed lim nxt l m := by
              unfold ckLed
              rw [HGE.out, HF.out, HF2.out]
            have hfin2 : (if g2 then (0 : Int) else 50) = ck := by rw [hfin]; exact HCK.out
            clear HF HF2 HN hfin HCK
            cases g2
            all_goals
              go_wp2_with (first | ((first | ((first | ((with_reducible refine gA rfl ?_); refine sh_alloc HS.out rfl rfl (zeT _ (by decide)) ?_) | ((with_reducible refine gB rfl ?_); refine bx HS.out rfl rfl ?_; first | refine bv (v := .agg (List.toArray _)) rfl ?_ | refine bv (v := .int _ _) rfl ?_ | refine bv (v := .slice _ _ _) rfl ?_ | refine bv (v := .bool _) rfl ?_ | refine bv (v := .pointer _) rfl ?_ | refine bv (v := .string _) rfl ?_ | refine bv (v := .map _) rfl ?_ | refine bv (v := .func _ _ _) rfl ?_) | ((with_reducible refine gL rfl ?_); refine sh_lit HS.out rfl rfl (by go_simp; exact ⟨⟨rfl, rfl⟩, rfl⟩) ?_)); clear HS; intro g w1 hg HS1; (simp only [Held.enc, Last.enc, zeF, segOf, aL, aC, aE] at HS1); have HS := Aside0.mk HS1; clear HS1) | ((with_reducible refine gLd rfl ?_); refine ld2 HS.out rfl rfl rfl (by repeat (first | exact AtI.here | apply AtI.there)) ?_; (first | refine LdK.one ((agT _ (by decide)).trans rfl) rfl ?_ | (refine LdK.agg ((agT _ (by decide)).trans rfl) (szT _ (by decide)) (lb rfl) ?_; try simp only [szL, aP, aN, aT, aZ, aS, aD, aF, aJ, aK, aM, aO]))) | ((with_reducible refine gSt rfl ?_); refine st2 HS.out rfl rfl rfl rfl (by repeat (first | exact AtI.here | apply AtI.there)) ?_; (first | refine sv (u := .agg (List.toArray _)) rfl ?_ | refine sv (u := .int _ _) rfl ?_ | refine sv (u := .slice _ _ _) rfl ?_ | refine sv (u := .bool _) rfl ?_ | refine sv (u := .pointer _) rfl ?_ | refine sv (u := .string _) rfl ?_ | refine sv (u := .map _) rfl ?_ | refine sv (u := .func _ _ _) rfl ?_); refine sw (szT _ (by decide)) rfl (lb rfl) ?_; clear HS; intro w1 HS1; (simp only [Held.enc, Last.enc, segOf, aL, aZ, aS, putSeg] at HS1); have HS := Aside0.mk HS1; clear HS1)); try simp only [aP, aN, aT, aZ, aS]))
              go_ret
              exact ⟨by rw [← hfin2]; rfl, HS.out.below⟩
end Go.Proofs.Ytekjihmepdhmeaa.Led

