/- Lemmas towards the law: what of the text Js1 it needs. -/
import Derived.Test.YtkggchahhpmpbaaJud4q
import Derived.Test.YtkggchahhpmpbaaJs0q
import Derived.Test.YtkggchahhpmpbaaTyq
import Derived.ArgAppend
import Derived.Deep.DeepCutAuto
namespace Go.Proofs.Ytkggchahhpmpbaa.Jud
open Go.RowKit Go.Proofs.YtkggchahhpmpbaaW.PrintWords Go.Proofs.Ytkggchahhpmpbaa.Sl
set_option linter.unusedVariables false
set_option linter.unusedSimpArgs false
section
variable {P : Program} {ops : Array Oper} {rest : List Oper} {o : Oper} {a : Act} {Q : Exit → Act → World → Prop}
/-- append to a slice without room that is read: a new row. -/
theorem sh_append_cap {α : Type} {enc : α → List Value} {sz : Nat} (hl : ∀ x, (enc x).length = sz) (h1 : ∀ x, (enc x).all (·.oneCell') = true) {w0 W : World} {is : List HP} (HS : SH w0 W is) (hw : Region.wanted o (yielded ops a.tmps) = true) {s x : Operand} {t : TypeId} (ho : o.op = .call { callee := .builtin .append, args := #[s, x], argTypes := #[t, t] })
    {A : Option Addr} {n : Nat} (hs : a.eval s = .slice A n n) {xs : List α} (HX : Rd enc sz W A n xs) {A2 : Addr} {m c : Nat} (hx : a.eval x = .slice (some A2) m c) {ys : List α} (HR : Rd enc sz W (some A2) m ys) (hm : 0 < m) {e : TypeId}
    (ht : P.underlying t = some (.slice e)) {z : Value} {bytes : Nat} (hinfo : (P.info? e).map (fun i => (i.zero, i.size, i.bytes)) = some (some z, sz, bytes)) (hz : z.cells.size = sz) (hs0 : 0 < sz) (hb0 : 0 < bytes) (hlim : (n + m) * bytes ≤ 140737488355328)
    (h : ∀ v1 w1 S1, SH w0 w1 (is ++ [row (flk enc sz hl h1) e v1 (xs ++ ys) S1]) → wpList P ops Q rest (a.put o.dst v1) w1) : WP P ops Q (o :: rest) a W := by
  have hnm : n + m ≤ 140737488355328 := Nat.le_trans (Nat.le_mul_of_pos_right _ hb0) hlim
  obtain ⟨i, hi, hie⟩ := Option.map_eq_some_iff.1 hinfo
  injection hie with hz1 hie
  injection hie with hsz hby
  cases A with
  | none =>
    have hn : n = 0 := by
      rcases Nat.eq_zero_or_pos n with h | h
      · exact h
      · obtain ⟨ad, hA⟩ := HX.addr h; cases hA
    subst hn
    obtain rfl : xs = [] := List.eq_nil_of_length_eq_zero HX.len.1
    refine sh_append_nil hl h1 HS hw ho hs hx HR ht hinfo hz hs0 hb0 (by simpa using hlim) (fun v1 w1 S1 HS1 => h v1 w1 S1 (by simpa using HS1))
  | some b =>
    refine ⟨?_⟩
    have cells : ∀ {ad : Addr} {k : Nat} {l : List α}, Rd enc sz W (some ad) k l → ∀ j u, (l.flatMap enc)[j]? = some u → W.cell? (ad.add j) = some u := by
      intro ad k l hr j u hj
      have hlt : j < (l.flatMap enc).length := (List.getElem?_eq_some_iff.1 hj).1
      rw [length_flat hl, hr.len.1] at hlt
      have hd : j / sz < k := Nat.div_lt_of_lt_mul (by rw [Nat.mul_comm]; exact hlt)
      have hx : l[j / sz]? = some (l[j / sz]'(by rw [hr.len.1]; exact hd)) := List.getElem?_eq_getElem _
      have hrep := (reps_flat hl l).2 (j / sz) _ hx
      obtain ⟨ad', e', hc⟩ := hr.2.2 (Nat.lt_of_le_of_lt (Nat.zero_le _) hd)
      injection e' with e'
      subst e'
      obtain ⟨cc, hcs, hr', hcell⟩ := hc (j / sz) _ hx
      have hcc : cc = enc (l[j / sz]'(by rw [hr.len.1]; exact hd)) := hr'
      have := hcell (j % sz) u (by
        rw [hcc, ← hrep, List.getElem?_take, if_pos (Nat.mod_lt _ hs0), List.getElem?_drop]
        rw [Nat.mul_comm, Nat.div_add_mod]
        exact hj)
      rwa [Nat.mul_comm, Nat.div_add_mod] at this
    obtain ⟨v', w', hrun, hown, hg⟩ := run_append_arg_grows (P := P) W t o.type e i z sz bytes ht hi hz1 hsz hby hz hs0 b n n (xs.flatMap enc) (by rw [length_flat hl, HX.len.1]) (cells HX) A2 m c (ys.flatMap enc) (by rw [length_flat hl, HR.len.1]) (cells HR) (by omega) (by unfold maxLen; omega) hlim
    have hbel : Below W.heap.size W w' := (Below.refl _ W).grown hg (Nat.le_refl _) (fun j hj => by cases hj)
    have hlen : (xs ++ ys).length = n + m := by rw [List.length_append, HX.len.1, HR.len.1]
    refine run_step hw ?_ (h v' w' (fun b => v'.ownBlock = some b) (HS.push hbel ⟨fun k hk => hk, (xs ++ ys).flatMap enc, ?_, reps_flat hl (xs ++ ys)⟩ (fun b hb => ⟨(hown.lt b hb).1, (hown.lt b hb).2⟩)))
    · unfold execOp
      simp only [ho, resolve, invoke, builtin, Sem.run_bind, Sem.run_pure, Result.andThen_ok, List.map_toArray, List.map_cons, List.map_nil, hs, hx, hrun]
    · rw [hlen, List.flatMap_append]
      exact ⟨hown.1, hown.2.imp id (fun ⟨g, cap, cur, h1, h2, h3⟩ => ⟨g, cap, cur, h1, Nat.zero_le _, h3⟩)⟩
end
def frmK : Kd Frm := flk Frm.enc 2 Frm.len Frm.one
def repK : Kd Rep := flk Rep.enc 3 Rep.len Rep.one
theorem infoFrm : (Try.prog.info? 63).map (fun i => (i.zero, i.size, i.bytes)) = some (some (.agg #[.int .u8 0, .string ⟨#[]⟩]), 2, 24) := by kernel_rfl
theorem infoRep : (Try.prog.info? 46).map (fun i => (i.zero, i.size, i.bytes)) = some (some (.agg #[.int .i64 0, .int .i64 0, .string ⟨#[]⟩]), 3, 32) := by kernel_rfl
def TellPost (w0 : World) (F : HP) (gS : Nat) (b : ByteArray) (bad : Bool) (ahead : List Frm) (st : Int) (al : Bool) (tx : ByteArray) (told : List Rep) (A : Option Addr) (cA : Nat) (SA : Nat → Prop) (v : Value) (e : Ending) (w' : World) : Prop := e = .returned v ∧ ∃ (T : Option Addr) (cT : Nat) (ST : Nat → Prop), SH w0 w' [blk gS [.string b, .bool bad, .slice A ahead.length cA, (.int .i64 st), (.bool al), (.string tx), .slice T told.length cT] 42, row frmK 63 (.slice A ahead.length cA) ahead SA, row repK 46 (.slice T told.length cT) told ST, F]
set_option maxHeartbeats 3200000 in
set_option maxRecDepth 100000 in
theorem tell_any {w0 : World} {F : HP} (gS : Nat) (b : ByteArray) (bad : Bool) (ahead : List Frm) (st : Int) (al : Bool) (tx : ByteArray) (told : List Rep) (A : Option Addr) (cA : Nat) (SA : Nat → Prop) (T : Option Addr) (cT : Nat) (ST : Nat → Prop) (r : Rep) (w : World) (hs : told.length ≤ 1000000) (HS0 : SH w0 w [blk gS [.string b, .bool bad, .slice A ahead.length cA, (.int .i64 st), (.bool al), (.string tx), .slice T told.length cT] 42, row frmK 63 (.slice A ahead.length cA) ahead SA, row repK 46 (.slice T told.length cT) told ST, F]) :
    Calls Try.prog 31 #[.pointer (some ⟨gS, 0, none⟩), .agg #[.int .i64 r.kind, .int .i64 r.node, .string r.text]] w (TellPost w0 F gS b bad ahead st al tx (told ++ [r]) A cA SA (.tuple #[])) := by
  have HS := Aside0.mk HS0
  clear HS0
  obtain ⟨A1, c1, hv1, hc1, hrd1⟩ := row_rd HS.out 2 rfl
  simp only [Value.slice.injEq, true_and] at hv1
  obtain ⟨rfl, rfl⟩ := hv1
  clear hrd1
  go_enter Try.func31, Try.ntmps31
  go_upto_region 1 with (first | ((fail_if_success (have _ := gr)); ((with_reducible refine gB rfl ?_); refine bx HS.out rfl rfl ?_; (first | refine bv (v := .agg (List.toArray _)) rfl ?_ | refine bv (v := .int _ _) rfl ?_ | refine bv (v := .slice _ _ _) rfl ?_ | refine bv (v := .bool _) rfl ?_ | refine bv (v := .pointer _) rfl ?_ | refine bv (v := .string _) rfl ?_ | refine bv (v := .map _) rfl ?_ | refine bv (v := .func _ _ _) rfl ?_); clear HS; intro gr w1 hgr HS1; (simp only [Frm.enc, Rep.enc, segOf, aL, aC, aE] at HS1); have HS := Aside0.mk HS1; clear HS1; try simp only [aP, aN, aT, aZ, aS])) | ((first | ((first | ((with_reducible refine gA rfl ?_); refine sh_alloc HS.out rfl rfl (zeT _ (by decide)) ?_) | ((with_reducible refine gB rfl ?_); refine bx HS.out rfl rfl ?_; first | refine bv (v := .agg (List.toArray _)) rfl ?_ | refine bv (v := .int _ _) rfl ?_ | refine bv (v := .slice _ _ _) rfl ?_ | refine bv (v := .bool _) rfl ?_ | refine bv (v := .pointer _) rfl ?_ | refine bv (v := .string _) rfl ?_ | refine bv (v := .map _) rfl ?_ | refine bv (v := .func _ _ _) rfl ?_) | ((with_reducible refine gL rfl ?_); refine sh_lit HS.out rfl rfl (by go_simp; exact ⟨⟨rfl, rfl⟩, rfl⟩) ?_)); clear HS; intro g w1 hg HS1; (simp only [Frm.enc, Rep.enc, zeF, segOf, aL, aC, aE] at HS1); have HS := Aside0.mk HS1; clear HS1)); try simp only [aP, aN, aT, aZ, aS]))
  have HC := Aside0.mk (HS.out.pick [0, 4] rfl (by decide))
  refine kheld_start [21] mixed HC.out (fun HC1 => ?_)
  have HS1 := HS.out.drew
  clear HS HC
  have HS := Aside0.mk HS1
  have HC := Aside0.mk HC1
  clear HS1 HC1
  refine k_any 0 (v := _) (by simp only [aG, aH, aI]; rfl) (by kernel_rfl) (by kernel_rfl) (by kernel_rfl) (by kernel_rfl) (by exact fun _ _ _ h => h) (.inr HC.out) (by kernel_rfl) (fun w => by (repeat (rename ∀ (_ : Act) (_ : World), _ => hK9; clear hK9)); go_simp; rfl) ?_
  (try simp only [aP, aN, aT, aZ, aS])
  refine k_any 1 (v := _) (by simp only [aG, aH, aI]; rfl) (by kernel_rfl) (by kernel_rfl) (by kernel_rfl) (by kernel_rfl) (by exact fun _ _ _ h => h) (.inr HC.out) (by kernel_rfl) (fun w => by (repeat (rename ∀ (_ : Act) (_ : World), _ => hK9; clear hK9)); go_simp; rfl) ?_
  (try simp only [aP, aN, aT, aZ, aS])
  refine k_any 2 (v := _) (by simp only [aG, aH, aI]; rfl) (by kernel_rfl) (by kernel_rfl) (by kernel_rfl) (by kernel_rfl) (by exact fun _ _ _ h => h) (.inr HC.out) (by kernel_rfl) (fun w => by (repeat (rename ∀ (_ : Act) (_ : World), _ => hK9; clear hK9)); go_simp; rfl) ?_
  (try simp only [aP, aN, aT, aZ, aS])
  refine k_any 3 (v := _) (by simp only [aG, aH, aI]; rfl) (by kernel_rfl) (by kernel_rfl) (by kernel_rfl) (by kernel_rfl) (by exact fun _ _ _ h => h) (.inr HC.out) (by kernel_rfl) (fun w => by (repeat (rename ∀ (_ : Act) (_ : World), _ => hK9; clear hK9)); go_simp; rfl) ?_
  (try simp only [aP, aN, aT, aZ, aS])
  refine k_load 4 (by simp only [aG, aH, aI]; rfl) (by kernel_rfl) (by kernel_rfl) (by kernel_rfl) (by kernel_rfl) (by exact fun _ _ _ h => h) HC.out (by kernel_rfl) rfl rfl 0 rfl ((agT _ (by decide)).trans rfl) rfl ?_
  (try simp only [aP, aN, aT, aZ, aS])
  refine k_any 5 (v := _) (by simp only [aG, aH, aI]; rfl) (by kernel_rfl) (by kernel_rfl) (by kernel_rfl) (by kernel_rfl) (by exact fun _ _ _ h => h) (.inr HC.out) (by kernel_rfl) (fun w => by (repeat (rename ∀ (_ : Act) (_ : World), _ => hK9; clear hK9)); go_simp; rfl) ?_
  (try simp only [aP, aN, aT, aZ, aS])
  refine k_any 6 (v := _) (by simp only [aG, aH, aI]; rfl) (by kernel_rfl) (by kernel_rfl) (by kernel_rfl) (by kernel_rfl) (by exact fun _ _ _ h => h) (.inr HC.out) (by kernel_rfl) (fun w => by (repeat (rename ∀ (_ : Act) (_ : World), _ => hK9; clear hK9)); go_simp; rfl) ?_
  (try simp only [aP, aN, aT, aZ, aS])
  refine k_any 7 (v := _) (by simp only [aG, aH, aI]; rfl) (by kernel_rfl) (by kernel_rfl) (by kernel_rfl) (by kernel_rfl) (by exact fun _ _ _ h => h) (.inr HC.out) (by kernel_rfl) (fun w => by (repeat (rename ∀ (_ : Act) (_ : World), _ => hK9; clear hK9)); go_simp; rfl) ?_
  (try simp only [aP, aN, aT, aZ, aS])
  refine k_load 8 (by simp only [aG, aH, aI]; rfl) (by kernel_rfl) (by kernel_rfl) (by kernel_rfl) (by kernel_rfl) (by exact fun _ _ _ h => h) HC.out (by kernel_rfl) rfl rfl 0 rfl ((agT _ (by decide)).trans rfl) rfl ?_
  (try simp only [aP, aN, aT, aZ, aS])
  refine k_any 9 (v := _) (by simp only [aG, aH, aI]; rfl) (by kernel_rfl) (by kernel_rfl) (by kernel_rfl) (by kernel_rfl) (by exact fun _ _ _ h => h) (.inr HC.out) (by kernel_rfl) (fun w => by (repeat (rename ∀ (_ : Act) (_ : World), _ => hK9; clear hK9)); go_simp; rfl) ?_
  (try simp only [aP, aN, aT, aZ, aS])
  refine k_any 10 (v := _) (by simp only [aG, aH, aI]; rfl) (by kernel_rfl) (by kernel_rfl) (by kernel_rfl) (by kernel_rfl) (by exact fun _ _ _ h => h) (.inr HC.out) (by kernel_rfl) (fun w => by (repeat (rename ∀ (_ : Act) (_ : World), _ => hK9; clear hK9)); go_simp; rfl) ?_
  (try simp only [aP, aN, aT, aZ, aS])
  refine k_any 11 (v := _) (by simp only [aG, aH, aI]; rfl) (by kernel_rfl) (by kernel_rfl) (by kernel_rfl) (by kernel_rfl) (by exact fun _ _ _ h => h) (.inr HC.out) (by kernel_rfl) (fun w => by (repeat (rename ∀ (_ : Act) (_ : World), _ => hK9; clear hK9)); go_simp; rfl) ?_
  (try simp only [aP, aN, aT, aZ, aS])
  refine k_any 12 (v := _) (by simp only [aG, aH, aI]; rfl) (by kernel_rfl) (by kernel_rfl) (by kernel_rfl) (by kernel_rfl) (by exact fun _ _ _ h => h) (.inr HC.out) (by kernel_rfl) (fun w => by (repeat (rename ∀ (_ : Act) (_ : World), _ => hK9; clear hK9)); go_simp; rfl) ?_
  (try simp only [aP, aN, aT, aZ, aS])
  refine k_load 13 (by simp only [aG, aH, aI]; rfl) (by kernel_rfl) (by kernel_rfl) (by kernel_rfl) (by kernel_rfl) (by exact fun _ _ _ h => h) HC.out (by kernel_rfl) rfl rfl 0 rfl ((agT _ (by decide)).trans rfl) rfl ?_
  (try simp only [aP, aN, aT, aZ, aS])
  refine k_any 14 (v := _) (by simp only [aG, aH, aI]; rfl) (by kernel_rfl) (by kernel_rfl) (by kernel_rfl) (by kernel_rfl) (by exact fun _ _ _ h => h) (.inr HC.out) (by kernel_rfl) (fun w => by (repeat (rename ∀ (_ : Act) (_ : World), _ => hK9; clear hK9)); go_simp; rfl) ?_
  (try simp only [aP, aN, aT, aZ, aS])
  refine k_any 15 (v := _) (by simp only [aG, aH, aI]; rfl) (by kernel_rfl) (by kernel_rfl) (by kernel_rfl) (by kernel_rfl) (by exact fun _ _ _ h => h) (.inr HC.out) (by kernel_rfl) (fun w => by (repeat (rename ∀ (_ : Act) (_ : World), _ => hK9; clear hK9)); go_simp; rfl) ?_
  (try simp only [aP, aN, aT, aZ, aS])
  refine k_loads 16 (by simp only [aG, aH, aI]; rfl) (by kernel_rfl) (by kernel_rfl) (by kernel_rfl) (by kernel_rfl) (v := _) (by exact fun _ _ _ h => h) HC.out (by kernel_rfl) rfl rfl 1 rfl ((agT _ (by decide)).trans rfl) (szT _ (by decide)) (lb rfl) rfl ?_
  (try simp only [szL, aP, aN, aT, aZ, aS, aD, aF, aJ, aK, aM, aO])
  (try simp only [aP, aN, aT, aZ, aS])
  refine k_one 17 (by simp only [aG, aH, aI]; rfl) (by kernel_rfl) ?_
  ((with_reducible refine gL rfl ?_); refine sh_lit HS.out rfl rfl (by go_simp; exact ⟨⟨rfl, rfl⟩, rfl⟩) ?_; clear HS; intro g w1 hg HS1; (simp only [Frm.enc, Rep.enc, segOf, aL, aC, aE] at HS1); have HS := Aside0.mk HS1; clear HS1; try simp only [aP, aN, aT, aZ, aS])
  have HC1 := HS.out.pick [0, 4] rfl (by decide)
  clear HC
  have HC := Aside0.mk HC1
  clear HC1
  refine k_nil (.inr HC.out) ?_
  (try simp only [aP, aN, aT, aZ, aS])
  refine k_one 18 (by simp only [aG, aH, aI]; rfl) (by kernel_rfl) ?_
  ((with_reducible refine gC (b := .append) rfl ?_); refine sh_append_cap Rep.len Rep.one HS.out rfl rfl rfl (row_rds (hl := Rep.len) (h1 := Rep.one) 2 rfl _ HS.out) rfl (Rd.one Rep.len r (HS.out.blk 5 rfl)) (by decide) Try.underlying32 infoRep rfl (by decide) (by decide) (by omega) ?_; clear HS; intro v1 w1 S1 HS1; (simp only [aC, aE] at HS1); have HS := Aside0.mk HS1; clear HS1; try simp only [aP, aN, aT, aZ, aS]; obtain ⟨T3, c3, rfl, hc3, _⟩ := row_rd HS.out 6 rfl)
  have HC1 := HS.out.pick [0, 4] rfl (by decide)
  clear HC
  have HC := Aside0.mk HC1
  clear HC1
  refine k_nil (.inr HC.out) ?_
  (try simp only [aP, aN, aT, aZ, aS])
  refine k_any 19 (v := _) (by simp only [aG, aH, aI]; rfl) (by kernel_rfl) (by kernel_rfl) (by kernel_rfl) (by kernel_rfl) (by exact fun _ _ _ h => h) (.inr HC.out) (by kernel_rfl) (fun w => by (repeat (rename ∀ (_ : Act) (_ : World), _ => hK9; clear hK9)); go_simp; rfl) ?_
  (try simp only [aP, aN, aT, aZ, aS])
  refine k_any 20 (v := _) (by simp only [aG, aH, aI]; rfl) (by kernel_rfl) (by kernel_rfl) (by kernel_rfl) (by kernel_rfl) (by exact fun _ _ _ h => h) (.inr HC.out) (by kernel_rfl) (fun w => by (repeat (rename ∀ (_ : Act) (_ : World), _ => hK9; clear hK9)); go_simp; rfl) ?_
  (try simp only [aP, aN, aT, aZ, aS])
  refine k_one 21 (by simp only [aG, aH, aI]; rfl) (by kernel_rfl) ?_
  ((with_reducible refine gSt rfl ?_); refine st2 HS.out rfl rfl rfl rfl (by repeat (first | exact AtI.here | apply AtI.there)) ?_; (first | refine sv (u := .agg (List.toArray _)) rfl ?_ | refine sv (u := .int _ _) rfl ?_ | refine sv (u := .slice _ _ _) rfl ?_ | refine sv (u := .bool _) rfl ?_ | refine sv (u := .pointer _) rfl ?_ | refine sv (u := .string _) rfl ?_ | refine sv (u := .map _) rfl ?_ | refine sv (u := .func _ _ _) rfl ?_); refine sw (szT _ (by decide)) rfl (lb rfl) ?_; clear HS; intro w1 HS1; (simp only [Frm.enc, Rep.enc, segOf, aL, aZ, aS, putSeg] at HS1); have HS := Aside0.mk HS1; clear HS1; try simp only [aP, aN, aT, aZ, aS])
  refine k_nil (.inl (by kernel_rfl)) ?_
  (try simp only [aP, aN, aT, aZ, aS])
  refine k_done (by kernel_rfl) ?_ _
  go_wp2
  go_end0
  exact ⟨rfl, T3, c3, S1, HS.out.pick [0, 1, 6, 3] rfl (by decide)⟩
theorem tell_at {w0 : World} {F : HP} (gS : Nat) (b : ByteArray) (bad : Bool) (ahead : List Frm) (st : Int) (al : Bool) (tx : ByteArray) (told : List Rep) (A : Option Addr) (cA : Nat) (SA : Nat → Prop) (T : Option Addr) (cT : Nat) (ST : Nat → Prop) (k : Int) (w : World) (hs : told.length ≤ 1000000) (HS0 : SH w0 w [blk gS [.string b, .bool bad, .slice A ahead.length cA, (.int .i64 st), (.bool al), (.string tx), .slice T told.length cT] 42, row frmK 63 (.slice A ahead.length cA) ahead SA, row repK 46 (.slice T told.length cT) told ST, F]) :
    Calls Try.prog 31 #[.pointer (some ⟨gS, 0, none⟩), .agg #[.int .i64 k, .int .i64 0, .string ⟨#[]⟩]] w (TellPost w0 F gS b bad ahead st al tx (told ++ [rep0 k]) A cA SA (.tuple #[])) :=
  tell_any gS b bad ahead st al tx told A cA SA T cT ST (rep0 k) w hs HS0
theorem tell_text {w0 : World} {F : HP} (gS : Nat) (b : ByteArray) (bad : Bool) (ahead : List Frm) (st : Int) (al : Bool) (tx : ByteArray) (told : List Rep) (A : Option Addr) (cA : Nat) (SA : Nat → Prop) (T : Option Addr) (cT : Nat) (ST : Nat → Prop) (t : ByteArray) (w : World) (hs : told.length ≤ 1000000) (HS0 : SH w0 w [blk gS [.string b, .bool bad, .slice A ahead.length cA, (.int .i64 st), (.bool al), (.string tx), .slice T told.length cT] 42, row frmK 63 (.slice A ahead.length cA) ahead SA, row repK 46 (.slice T told.length cT) told ST, F]) :
    Calls Try.prog 31 #[.pointer (some ⟨gS, 0, none⟩), .agg #[.int .i64 2, .int .i64 0, .string t]] w (TellPost w0 F gS b bad ahead st al tx (told ++ [⟨2, 0, t⟩]) A cA SA (.tuple #[])) :=
  tell_any gS b bad ahead st al tx told A cA SA T cT ST ⟨2, 0, t⟩ w hs HS0
end Go.Proofs.Ytkggchahhpmpbaa.Jud
