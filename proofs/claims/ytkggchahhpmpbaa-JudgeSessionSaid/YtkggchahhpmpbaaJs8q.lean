/- Lemmas towards the law: what of the text Js8 it needs. -/
import Derived.Test.YtkggchahhpmpbaaJs7q
import Derived.Test.YtkggchahhpmpbaaJud5q
import Derived.Deep.CutBlock
namespace Go.Proofs.Ytkggchahhpmpbaa.Jud
open Go.RowKit Go.Proofs.YtkggchahhpmpbaaW.PrintWords Go.Proofs.Ytkggchahhpmpbaa.Sl
set_option linter.unusedVariables false
set_option linter.unusedSimpArgs false
theorem fold_used_le : ∀ (l : List Rep) (n : Nat), l.foldl Jud.used n ≤ n + l.length
  | [], n => by simp
  | r :: l, n => by
    have := fold_used_le l (Jud.used n r)
    have h2 : Jud.used n r ≤ n + 1 := by unfold Jud.used; split <;> omega
    rw [List.foldl_cons, List.length_cons]
    omega
theorem inv_V {sent : List Frm} {V : List ByteArray} {T : List Rep} {s : Ss} (h : Inv sent V T s) : V.length ≤ sent.length := by
  have h1 := fold_used_le T 0
  have h2 := h.good.used
  have h3 := h.good.len
  omega
theorem inv_A {sent : List Frm} {V : List ByteArray} {T : List Rep} {s : Ss} (h : Inv sent V T s) : s.ahead.length ≤ sent.length := by
  by_cases hc : s.state = 1 ∨ s.state = 3 ∨ s.state = 4
  · obtain ⟨f, _, h1, _⟩ := h.cur hc
    rw [h1, List.length_drop]; omega
  · rw [h.rest hc, List.length_drop]; omega
theorem inv_av {sent : List Frm} {V : List ByteArray} {T : List Rep} {s : Ss} (h : Inv sent V T s) : ∀ f ∈ s.ahead, valid f := by
  intro f hf
  refine h.val f ?_
  by_cases hc : s.state = 1 ∨ s.state = 3 ∨ s.state = 4
  · obtain ⟨f, _, h1, _⟩ := h.cur hc
    rw [h1] at hf; exact List.mem_of_mem_drop hf
  · rw [h.rest hc] at hf; exact List.mem_of_mem_drop hf
theorem rem_nat (i n : Nat) (h : 0 < n) : (i : Int).tmod (n : Int) = ((i % n : Nat) : Int) := by
  rw [Int.tmod_eq_emod_of_nonneg (by omega)]; rfl
def strK : Kd ByteArray := flk strs 1 strs_len strs_one
theorem infoStr : (Try.prog.info? 9).map (fun i => (i.zero, i.size, i.bytes)) = some (some (.string ⟨#[]⟩), 1, 16) := by kernel_rfl
def Stt (w0 wr : World) (g : Nat) (b : ByteArray) (bad : Bool) (ahead : List Frm) (st : Int) (al : Bool) (tx : ByteArray) (told : List Rep) (V : List ByteArray) (T : List Rep) (v12 v11 : Value) : Prop := ∃ (A : Option Addr) (cA : Nat) (SA : Nat → Prop) (Tq : Option Addr) (cT : Nat) (ST SV SR : Nat → Prop), SH w0 wr [blk g [.string b, .bool bad, .slice A ahead.length cA, .int .i64 st, .bool al, .string tx, .slice Tq told.length cT] 42, row frmK 63 (.slice A ahead.length cA) ahead SA, row repK 46 (.slice Tq told.length cT) told ST, row strK 9 v12 V SV, row repK 46 v11 T SR]
theorem feed_ok {w0 w : World} (g : Nat) (l : List Frm) (hv : ∀ f ∈ l, valid f) (hl : l.length ≤ 1000) {sb : ByteArray} (hsb : bs (encAll l) = sb) (HS0 : SH w0 w [blk g [.string ⟨#[]⟩, .bool false, .slice none 0 0, .int .i64 0, .bool false, .string ⟨#[]⟩, .slice none 0 0] 42]) :
    Calls Try.prog 15 #[.pointer (some ⟨g, 0, none⟩), .string sb] w (fun e w' => e = .returned (.int .i64 0) ∧ Stt w0 w' g ⟨#[]⟩ false l 0 false ⟨#[]⟩ [] [] [] (.slice none 0 0) (.slice none 0 0)) := by
  subst hsb
  refine (sfeed_any (F := allI []) g l w hv hl (SH.pack (is := [_]) [] HS0)).mono ?_
  rintro e w' ⟨A, c, S, rfl, HS⟩
  have H1 := HS.nil repK 46
  have H2 := H1.nil strK 9
  have H3 := H2.nil repK 46
  exact ⟨rfl, A, c, S, none, 0, _, _, _, H3.pick [0, 1, 3, 4, 5] rfl (by decide)⟩
theorem inv_take {sent : List Frm} {V : List ByteArray} {T : List Rep} {b : ByteArray} {bad : Bool} {ahead : List Frm} {st : Int} {al : Bool} {tx : ByteArray} {told : List Rep} (h : Inv sent V (T ++ told) ⟨b, bad, ahead, st, al, tx, told⟩) : Inv sent V ((T ++ told) ++ []) ⟨b, bad, ahead, st, al, tx, []⟩ := by
  rw [List.append_nil]
  exact ⟨h.val, h.range, h.cur, h.rest, h.good⟩
section
variable {sent : List Frm} {V : List ByteArray} {T : List Rep} {b : ByteArray} {bad : Bool} {ahead : List Frm} {al : Bool} {tx : ByteArray} {told : List Rep}
theorem iv_turn (h : Inv sent V (T ++ told) ⟨b, bad, ahead, 1, al, tx, told⟩) : Inv sent V (T ++ (told ++ [rep0 4])) ⟨b, bad, ahead, 0, al, tx, (told ++ [rep0 4])⟩ := inv_turn (s := ⟨b, bad, ahead, 1, al, tx, told⟩) h rfl
theorem iv_gotw (h : Inv sent V (T ++ told) ⟨b, bad, ahead, 1, true, tx, told⟩) : Inv sent V (T ++ told) ⟨b, bad, ahead, 3, true, tx, told⟩ := inv_got (s := ⟨b, bad, ahead, 1, true, tx, told⟩) h rfl
theorem iv_gotb (h : Inv sent V (T ++ told) ⟨b, bad, ahead, 1, false, tx, told⟩) : Inv sent V (T ++ (told ++ [rep0 1])) ⟨b, bad, ahead, 2, false, tx, (told ++ [rep0 1])⟩ := inv_got (s := ⟨b, bad, ahead, 1, false, tx, told⟩) h rfl
theorem iv_losts (h : Inv sent V (T ++ told) ⟨b, bad, ahead, 4, al, tx, told⟩) : Inv sent V (T ++ (told ++ [rep0 6])) ⟨b, bad, ahead, 0, al, tx, (told ++ [rep0 6])⟩ := inv_lost (s := ⟨b, bad, ahead, 4, al, tx, told⟩) h (.inl rfl)
theorem iv_lostb (h : Inv sent V (T ++ told) ⟨b, bad, ahead, 2, al, tx, told⟩) : Inv sent V (T ++ told) ⟨b, bad, ahead, 6, al, tx, told⟩ := inv_lost (s := ⟨b, bad, ahead, 2, al, tx, told⟩) h (.inr rfl)
theorem iv_ansa (t : ByteArray) (h : Inv sent V (T ++ told) ⟨b, bad, ahead, 4, true, tx, told⟩) : Inv sent (V ++ [t]) (T ++ (told ++ [⟨2, 0, t⟩])) ⟨b, bad, ahead, 5, true, tx, (told ++ [⟨2, 0, t⟩])⟩ := inv_answer (s := ⟨b, bad, ahead, 4, true, tx, told⟩) h rfl t
theorem iv_ansb (t : ByteArray) (h : Inv sent V (T ++ told) ⟨b, bad, ahead, 4, false, tx, told⟩) : Inv sent (V ++ [t]) (T ++ (told ++ [⟨2, 0, t⟩])) ⟨b, bad, ahead, 2, false, tx, (told ++ [⟨2, 0, t⟩])⟩ := inv_answer (s := ⟨b, bad, ahead, 4, false, tx, told⟩) h rfl t
end
theorem next_ok {w0 : World} {F : HP} (gS : Nat) (b : ByteArray) (bad : Bool) (ahead : List Frm) (st : Int) (al : Bool) (tx : ByteArray) (told : List Rep) (A : Option Addr) (cA : Nat) (SA : Nat → Prop) (T : Option Addr) (cT : Nat) (ST : Nat → Prop) (w : World) (hlen : told.length + ahead.length ≤ 1000000) (hv : ∀ f ∈ ahead, valid f)
    {b3 : ByteArray} {bad3 : Bool} {ahead3 : List Frm} {st3 : Int} {al3 : Bool} {tx3 : ByteArray} {told3 : List Rep} (hR : nextSs ⟨b, bad, ahead, st, al, tx, told⟩ = ⟨b3, bad3, ahead3, st3, al3, tx3, told3⟩)
    (HS0 : SH w0 w [blk gS [.string b, .bool bad, .slice A ahead.length cA, (.int .i64 st), (.bool al), (.string tx), .slice T told.length cT] 42, row frmK 63 (.slice A ahead.length cA) ahead SA, row repK 46 (.slice T told.length cT) told ST, F]) :
    Calls Try.prog 20 #[.pointer (some ⟨gS, 0, none⟩)] w (fun e w' => ∃ x y, e = .returned (.tuple #[x, y]) ∧ ∃ (A : Option Addr) (cA : Nat) (SA : Nat → Prop) (T : Option Addr) (cT : Nat) (ST : Nat → Prop), SH w0 w' [blk gS [.string b3, .bool bad3, .slice A ahead3.length cA, (.int .i64 st3), (.bool al3), (.string tx3), .slice T told3.length cT] 42, row frmK 63 (.slice A ahead3.length cA) ahead3 SA, row repK 46 (.slice T told3.length cT) told3 ST, F]) := by
  have h := next_any gS b bad ahead st al tx told A cA SA T cT ST w hlen hv HS0
  rw [hR] at h
  exact h
theorem bytes_ok (A : Option Addr) (N c : Nat) (l : List Frm) (w : World) (hr : Rd Frm.enc 2 w A N l) (hN : N ≤ 8796093022208) (hv : ∀ f ∈ l, valid f) {sb : ByteArray} (hsb : bs (encAll l) = sb) :
    Calls Try.prog 14 #[.slice A N c] w (fun e w' => e = .returned (.tuple #[.string sb, .int .i64 0]) ∧ Below w.heap.size w w') := by
  subst hsb
  refine (bytes_any A N c l w hr hN).mono ?_
  rintro e w' (⟨_, h⟩ | ⟨⟨f, hf, h⟩, _⟩)
  · exact h
  · exact absurd (hv f hf) h
theorem bytes_no (A : Option Addr) (N c : Nat) (l : List Frm) (w : World) (hr : Rd Frm.enc 2 w A N l) (hN : N ≤ 8796093022208) (hv : ¬ ∀ f ∈ l, valid f) :
    Calls Try.prog 14 #[.slice A N c] w (fun e w' => e = .returned (.tuple #[.string ⟨#[]⟩, .int .i64 90]) ∧ Below w.heap.size w w') := by
  refine (bytes_any A N c l w hr hN).mono ?_
  rintro e w' (⟨h, _⟩ | ⟨_, h⟩)
  · exact absurd h hv
  · exact h
set_option maxHeartbeats 12800000 in
set_option maxRecDepth 100000 in
theorem lawSession_any (A B C : Option Addr) (c1 c2 c3 : Nat) (sent : List Frm) (ways : List Int) (texts : List ByteArray) (w : World) {N1 N2 N3 : Nat} (hr1 : Rd Frm.enc 2 w A N1 sent) (hr2 : Rd (ints .i64) 1 w B N2 ways) (hr3 : Rd strs 1 w C N3 texts) (hN : N1 ≤ 8796093022208) :
    Calls Try.prog 5 #[.slice A N1 c1, .slice B N2 c2, .slice C N3 c3] w (fun e w' => e = .returned (.bool true) ∧ Below w.heap.size w w') := by
  obtain rfl := hr1.len.1
  obtain rfl := hr2.len.1
  obtain rfl := hr3.len.1
  have hm2 := hr2.len.2
  have hm3 := hr3.len.2
  have HR1 := Aside0.mk hr1
  have HR2 := Aside0.mk hr2
  have HR3 := Aside0.mk hr3
  clear hr1 hr2 hr3
  have HS := Aside0.mk (SH.start w)
  go_enter Try.func5, Try.ntmps5
  go_upto_region 2 with (first | (go_at_call 11; (with_reducible refine (fits_ex _).mono ?_); rintro e w2 ⟨rfl, hb⟩;  have HS1 := HS.out.quiet hb; clear HS hb; have HS := Aside0.mk HS1; clear HS1) | ((first | ((first | ((with_reducible refine gA rfl ?_); refine sh_alloc HS.out rfl rfl (zeT _ (by decide)) ?_) | ((with_reducible refine gB rfl ?_); refine bx HS.out rfl rfl ?_; first | refine bv (v := .agg (List.toArray _)) rfl ?_ | refine bv (v := .int _ _) rfl ?_ | refine bv (v := .slice _ _ _) rfl ?_ | refine bv (v := .bool _) rfl ?_ | refine bv (v := .pointer _) rfl ?_ | refine bv (v := .string _) rfl ?_ | refine bv (v := .map _) rfl ?_ | refine bv (v := .func _ _ _) rfl ?_) | ((with_reducible refine gL rfl ?_); refine sh_lit HS.out rfl rfl (by go_simp; exact ⟨⟨rfl, rfl⟩, rfl⟩) ?_)); clear HS; intro g w1 hg HS1; (simp only [Frm.enc, Rep.enc, zeF, segOf, aL, aC, aE] at HS1); have HS := Aside0.mk HS1; clear HS1)); try simp only [aP, aN, aT, aZ, aS]))
  by_cases hv : ∀ f ∈ sent, valid f
  · have HV := Aside0.mk hv
    clear hv
    obtain ⟨sb, hsb⟩ : ∃ sb, bs (encAll sent) = sb := ⟨_, rfl⟩
    have HB := Aside0.mk hsb
    clear hsb
    by_cases h60 : 60 < sent.length
    · have h60' : decide ((60 : Int) < (sent.length : Int)) = true := by rw [decide_eq_true_eq]; omega
      go_wp2_with (first | (go_at_call 14; (with_reducible refine (bytes_ok A sent.length c1 sent _ (HR1.out.sh HS.out) hN HV.out HB.out).mono ?_); rintro e w2 ⟨rfl, hb⟩;  have HS1 := HS.out.quiet hb; clear HS hb; have HS := Aside0.mk HS1; clear HS1) | ((first | ((first | ((with_reducible refine gA rfl ?_); refine sh_alloc HS.out rfl rfl (zeT _ (by decide)) ?_) | ((with_reducible refine gB rfl ?_); refine bx HS.out rfl rfl ?_; first | refine bv (v := .agg (List.toArray _)) rfl ?_ | refine bv (v := .int _ _) rfl ?_ | refine bv (v := .slice _ _ _) rfl ?_ | refine bv (v := .bool _) rfl ?_ | refine bv (v := .pointer _) rfl ?_ | refine bv (v := .string _) rfl ?_ | refine bv (v := .map _) rfl ?_ | refine bv (v := .func _ _ _) rfl ?_) | ((with_reducible refine gL rfl ?_); refine sh_lit HS.out rfl rfl (by go_simp; exact ⟨⟨rfl, rfl⟩, rfl⟩) ?_)); clear HS; intro g w1 hg HS1; (simp only [Frm.enc, Rep.enc, zeF, segOf, aL, aC, aE] at HS1); have HS := Aside0.mk HS1; clear HS1)); try simp only [aP, aN, aT, aZ, aS]))
      go_ret
      exact ⟨rfl, HS.out.below⟩
    have h60' : decide ((60 : Int) < (sent.length : Int)) = false := by rw [decide_eq_false_iff_not]; omega
    by_cases h200 : 200 < ways.length
    · have h200' : decide ((200 : Int) < (ways.length : Int)) = true := by rw [decide_eq_true_eq]; omega
      go_wp2_with (first | (go_at_call 14; (with_reducible refine (bytes_ok A sent.length c1 sent _ (HR1.out.sh HS.out) hN HV.out HB.out).mono ?_); rintro e w2 ⟨rfl, hb⟩;  have HS1 := HS.out.quiet hb; clear HS hb; have HS := Aside0.mk HS1; clear HS1) | ((first | ((first | ((with_reducible refine gA rfl ?_); refine sh_alloc HS.out rfl rfl (zeT _ (by decide)) ?_) | ((with_reducible refine gB rfl ?_); refine bx HS.out rfl rfl ?_; first | refine bv (v := .agg (List.toArray _)) rfl ?_ | refine bv (v := .int _ _) rfl ?_ | refine bv (v := .slice _ _ _) rfl ?_ | refine bv (v := .bool _) rfl ?_ | refine bv (v := .pointer _) rfl ?_ | refine bv (v := .string _) rfl ?_ | refine bv (v := .map _) rfl ?_ | refine bv (v := .func _ _ _) rfl ?_) | ((with_reducible refine gL rfl ?_); refine sh_lit HS.out rfl rfl (by go_simp; exact ⟨⟨rfl, rfl⟩, rfl⟩) ?_)); clear HS; intro g w1 hg HS1; (simp only [Frm.enc, Rep.enc, zeF, segOf, aL, aC, aE] at HS1); have HS := Aside0.mk HS1; clear HS1)); try simp only [aP, aN, aT, aZ, aS]))
      go_ret
      exact ⟨rfl, HS.out.below⟩
    have h200' : decide ((200 : Int) < (ways.length : Int)) = false := by rw [decide_eq_false_iff_not]; omega
    go_upto_region 7 with (first | (go_at_call 14; (with_reducible refine (bytes_ok A sent.length c1 sent _ (HR1.out.sh HS.out) hN HV.out HB.out).mono ?_); rintro e w2 ⟨rfl, hb⟩;  have HS1 := HS.out.quiet hb; clear HS hb; have HS := Aside0.mk HS1; clear HS1) | (go_at_call 15; (with_reducible refine (feed_ok _ sent HV.out (by omega) HB.out HS.out).mono ?_); rintro e w2 ⟨rfl, HST0⟩; have HST := Aside0.mk HST0; clear HST0) | ((first | ((first | ((with_reducible refine gA rfl ?_); refine sh_alloc HS.out rfl rfl (zeT _ (by decide)) ?_) | ((with_reducible refine gB rfl ?_); refine bx HS.out rfl rfl ?_; first | refine bv (v := .agg (List.toArray _)) rfl ?_ | refine bv (v := .int _ _) rfl ?_ | refine bv (v := .slice _ _ _) rfl ?_ | refine bv (v := .bool _) rfl ?_ | refine bv (v := .pointer _) rfl ?_ | refine bv (v := .string _) rfl ?_ | refine bv (v := .map _) rfl ?_ | refine bv (v := .func _ _ _) rfl ?_) | ((with_reducible refine gL rfl ?_); refine sh_lit HS.out rfl rfl (by go_simp; exact ⟨⟨rfl, rfl⟩, rfl⟩) ?_)); clear HS; intro g w1 hg HS1; (simp only [Frm.enc, Rep.enc, zeF, segOf, aL, aC, aE] at HS1); have HS := Aside0.mk HS1; clear HS1) | ((with_reducible refine gLd rfl ?_); refine ld2 HS.out rfl rfl rfl (by repeat (first | exact AtI.here | apply AtI.there)) ?_; (first | refine LdK.one ((agT _ (by decide)).trans rfl) rfl ?_ | (refine LdK.agg ((agT _ (by decide)).trans rfl) (szT _ (by decide)) (lb rfl) ?_; try simp only [szL, aP, aN, aT, aZ, aS, aD, aF, aJ, aK, aM, aO]))) | ((with_reducible refine gSt rfl ?_); refine st2 HS.out rfl rfl rfl rfl (by repeat (first | exact AtI.here | apply AtI.there)) ?_; (first | refine sv (u := .agg (List.toArray _)) rfl ?_ | refine sv (u := .int _ _) rfl ?_ | refine sv (u := .slice _ _ _) rfl ?_ | refine sv (u := .bool _) rfl ?_ | refine sv (u := .pointer _) rfl ?_ | refine sv (u := .string _) rfl ?_ | refine sv (u := .map _) rfl ?_ | refine sv (u := .func _ _ _) rfl ?_); refine sw (szT _ (by decide)) rfl (lb rfl) ?_; clear HS; intro w1 HS1; (simp only [Frm.enc, Rep.enc, segOf, aL, aZ, aS, putSeg] at HS1); have HS := Aside0.mk HS1; clear HS1)); try simp only [aP, aN, aT, aZ, aS]))
    clear h60' h200' HS HB
    have HI := Aside0.mk (inv_start sent ⟨#[]⟩ false false ⟨#[]⟩ HV.out)
    clear HV
    go_wp2_with (fail)
    go_loopw [11, 12, 13, 43] (fun v11 v12 v13 v43 wr => ∃ (i m : Nat) (b : ByteArray) (bad : Bool) (ahead : List Frm) (st : Int) (al : Bool) (tx : ByteArray) (told : List Rep) (V : List ByteArray) (T : List Rep), i ≤ 300 ∧ v43 = .int .i64 i ∧ v13 = .int .i64 m ∧ m ≤ i ∧ Aside0 (Inv sent V (T ++ told) ⟨b, bad, ahead, st, al, tx, told⟩) ∧ Aside0 (Stt w wr g b bad ahead st al tx told V T v12 v11)) (fun _ _ _ v43 _ => 300 - (intOf v43).toNat)
    case atStart => exact ⟨0, 0, _, _, _, _, _, _, _, _, _, Nat.zero_le _, rfl, rfl, Nat.le_refl _, HI, HST⟩
    case round =>
      clear HST HI
      obtain ⟨i, m, b, bad, ahead, st, al, tx, told, V, T, hi, rfl, rfl, hmi, HI, HST⟩ := hrel
      by_cases hlt : i < 300
      · have hlt' : decide ((i : Int) < 300) = true := by rw [decide_eq_true_eq]; omega
        go_upto_if 48 with (fail)
        go_cut [15] (fun v15 wx => ∃ way : Int, v15 = .int .i64 way ∧ wx = wr)
        case first =>
          by_cases hw : 0 < ways.length
          · have hw' : decide ((0 : Int) < (ways.length : Int)) = true := by rw [decide_eq_true_eq]; omega
            obtain ⟨_, _, _, _, _, _, _, _, HS1⟩ := HST.out
            obtain ⟨ad, rfl⟩ := HR2.out.addr (by omega)
            have HRW := Aside0.mk (HR2.out.sh HS1)
            clear HS1 HST HI HR2
            have hj := Nat.mod_lt i hw
            have hrem := rem_nat i ways.length hw
            obtain ⟨j, hje⟩ : ∃ j, i % ways.length = j := ⟨_, rfl⟩
            rw [hje] at hj hrem
            clear hje
            obtain ⟨x, hx⟩ : ∃ x, ways.getD j 0 = x := ⟨_, rfl⟩
            have HX := Aside0.mk hx
            clear hx
            have hwr : IntKind.i64.wrap (j : Int) = (j : Int) := by simp [IntKind.wrap, IntKind.bits, IntKind.signed]; omega
            have hne : ((ways.length : Int) == 0) = false := by rw [beq_eq_false_iff_ne]; omega
            go_wp2_with (first | ((with_reducible refine gLd rfl ?_); refine rd_load1 (enc := Value.int .i64) HRW.out rfl rfl (i := j) rfl hj 0 ((agT _ (by decide)).trans rfl) ?_; intro x hx; obtain rfl := HX.out.symm.trans hx; (try simp only [aP, aN, aT, aZ, aS])))
            go_meet
            case rel => exact ⟨x, rfl, rfl⟩
          · have hw' : decide ((0 : Int) < (ways.length : Int)) = false := by rw [decide_eq_false_iff_not]; omega
            go_wp2_with (fail)
            go_meet
            case rel => exact ⟨0, rfl, rfl⟩
        case rest =>
          obtain ⟨way, rfl, rfl⟩ := hcut
          obtain ⟨A1, cA, SA, Tq, cT, ST, SV, SR, HS1⟩ := HST.out
          obtain ⟨A11, c11, rfl, hc11, _⟩ := row_rd HS1 4 rfl
          obtain ⟨A12, c12, rfl, hc12, _⟩ := row_rd HS1 3 rfl
          have HS := Aside0.mk HS1
          clear HST HS1
          have hs0 : told.length ≤ 1000000 := by
            have := HI.out.good.len
            rw [List.length_append] at this
            omega
          have hV60 : V.length ≤ 60 := by
            have := inv_V HI.out
            omega
          go_upto_block 2 with (first | ((first | ((first | ((with_reducible refine gA rfl ?_); refine sh_alloc HS.out rfl rfl (zeT _ (by decide)) ?_) | ((with_reducible refine gB rfl ?_); refine bx HS.out rfl rfl ?_; first | refine bv (v := .agg (List.toArray _)) rfl ?_ | refine bv (v := .int _ _) rfl ?_ | refine bv (v := .slice _ _ _) rfl ?_ | refine bv (v := .bool _) rfl ?_ | refine bv (v := .pointer _) rfl ?_ | refine bv (v := .string _) rfl ?_ | refine bv (v := .map _) rfl ?_ | refine bv (v := .func _ _ _) rfl ?_) | ((with_reducible refine gL rfl ?_); refine sh_lit HS.out rfl rfl (by go_simp; exact ⟨⟨rfl, rfl⟩, rfl⟩) ?_)); clear HS; intro g w1 hg HS1; (simp only [Frm.enc, Rep.enc, zeF, segOf, aL, aC, aE] at HS1); have HS := Aside0.mk HS1; clear HS1) | ((with_reducible refine gLd rfl ?_); refine ld2 HS.out rfl rfl rfl (by repeat (first | exact AtI.here | apply AtI.there)) ?_; (first | refine LdK.one ((agT _ (by decide)).trans rfl) rfl ?_ | (refine LdK.agg ((agT _ (by decide)).trans rfl) (szT _ (by decide)) (lb rfl) ?_; try simp only [szL, aP, aN, aT, aZ, aS, aD, aF, aJ, aK, aM, aO]))) | ((with_reducible refine gSt rfl ?_); refine st2 HS.out rfl rfl rfl rfl (by repeat (first | exact AtI.here | apply AtI.there)) ?_; (first | refine sv (u := .agg (List.toArray _)) rfl ?_ | refine sv (u := .int _ _) rfl ?_ | refine sv (u := .slice _ _ _) rfl ?_ | refine sv (u := .bool _) rfl ?_ | refine sv (u := .pointer _) rfl ?_ | refine sv (u := .string _) rfl ?_ | refine sv (u := .map _) rfl ?_ | refine sv (u := .func _ _ _) rfl ?_); refine sw (szT _ (by decide)) rfl (lb rfl) ?_; clear HS; intro w1 HS1; (simp only [Frm.enc, Rep.enc, segOf, aL, aZ, aS, putSeg] at HS1); have HS := Aside0.mk HS1; clear HS1)); try simp only [aP, aN, aT, aZ, aS]))
          go_cut [12, 13] (fun v12 v13 wx => ∃ (m' : Nat) (b' : ByteArray) (bad' : Bool) (ahead' : List Frm) (st' : Int) (al' : Bool) (tx' : ByteArray) (told' : List Rep) (V' : List ByteArray), v13 = .int .i64 m' ∧ m' ≤ i + 1 ∧ Aside0 (Inv sent V' (T ++ told') ⟨b', bad', ahead', st', al', tx', told'⟩) ∧ Aside0 (Stt w wx g b' bad' ahead' st' al' tx' told' V' T v12 (.slice A11 T.length c11)))
          case first =>
            clear HR1 HR2
            by_cases h1 : st = 1
            · subst h1
              cases hw1 : (way == 1) with
              | true =>
                go_wp2_with (first | (go_at_call 16; (with_reducible refine (turn_busy g b bad ahead 0 al tx told A1 cA SA Tq cT ST _ hs0 (SH.pack (is := [_, _, _]) [_, _] HS.out)).mono ?_); rintro e w2 ⟨rfl, T9, cT9, ST9, HS9⟩; clear HS; have HS := Aside0.mk (SH.unpack (is := [_, _, _]) [_, _] HS9); clear HS9; simp only [aC, aE] at HS) | ((first | ((first | ((with_reducible refine gA rfl ?_); refine sh_alloc HS.out rfl rfl (zeT _ (by decide)) ?_) | ((with_reducible refine gB rfl ?_); refine bx HS.out rfl rfl ?_; first | refine bv (v := .agg (List.toArray _)) rfl ?_ | refine bv (v := .int _ _) rfl ?_ | refine bv (v := .slice _ _ _) rfl ?_ | refine bv (v := .bool _) rfl ?_ | refine bv (v := .pointer _) rfl ?_ | refine bv (v := .string _) rfl ?_ | refine bv (v := .map _) rfl ?_ | refine bv (v := .func _ _ _) rfl ?_) | ((with_reducible refine gL rfl ?_); refine sh_lit HS.out rfl rfl (by go_simp; exact ⟨⟨rfl, rfl⟩, rfl⟩) ?_)); clear HS; intro g w1 hg HS1; (simp only [Frm.enc, Rep.enc, zeF, segOf, aL, aC, aE] at HS1); have HS := Aside0.mk HS1; clear HS1)); try simp only [aP, aN, aT, aZ, aS]))
                go_meet
                case rel => exact ⟨m, b, bad, ahead, 0, al, tx, _, V, rfl, by omega, ⟨iv_turn HI.out⟩, ⟨_, _, _, _, _, _, _, _, HS.out⟩⟩
              | false =>
                cases al with
                | true =>
                  go_wp2_with (first | (go_at_call 17; (with_reducible refine (got_wait g b bad ahead 0 true tx told A1 cA SA Tq cT ST _ hs0 (SH.pack (is := [_, _, _]) [_, _] HS.out)).mono ?_); rintro e w2 ⟨rfl, T9, cT9, ST9, HS9⟩; clear HS; have HS := Aside0.mk (SH.unpack (is := [_, _, _]) [_, _] HS9); clear HS9; simp only [aC, aE] at HS) | ((first | ((first | ((with_reducible refine gA rfl ?_); refine sh_alloc HS.out rfl rfl (zeT _ (by decide)) ?_) | ((with_reducible refine gB rfl ?_); refine bx HS.out rfl rfl ?_; first | refine bv (v := .agg (List.toArray _)) rfl ?_ | refine bv (v := .int _ _) rfl ?_ | refine bv (v := .slice _ _ _) rfl ?_ | refine bv (v := .bool _) rfl ?_ | refine bv (v := .pointer _) rfl ?_ | refine bv (v := .string _) rfl ?_ | refine bv (v := .map _) rfl ?_ | refine bv (v := .func _ _ _) rfl ?_) | ((with_reducible refine gL rfl ?_); refine sh_lit HS.out rfl rfl (by go_simp; exact ⟨⟨rfl, rfl⟩, rfl⟩) ?_)); clear HS; intro g w1 hg HS1; (simp only [Frm.enc, Rep.enc, zeF, segOf, aL, aC, aE] at HS1); have HS := Aside0.mk HS1; clear HS1)); try simp only [aP, aN, aT, aZ, aS]))
                  go_meet
                  case rel => exact ⟨m, b, bad, ahead, 3, true, tx, _, V, rfl, by omega, ⟨iv_gotw HI.out⟩, ⟨_, _, _, _, _, _, _, _, HS.out⟩⟩
                | false =>
                  go_wp2_with (first | (go_at_call 17; (with_reducible refine (got_bound g b bad ahead 0 false tx told A1 cA SA Tq cT ST _ hs0 (SH.pack (is := [_, _, _]) [_, _] HS.out)).mono ?_); rintro e w2 ⟨rfl, T9, cT9, ST9, HS9⟩; clear HS; have HS := Aside0.mk (SH.unpack (is := [_, _, _]) [_, _] HS9); clear HS9; simp only [aC, aE] at HS) | ((first | ((first | ((with_reducible refine gA rfl ?_); refine sh_alloc HS.out rfl rfl (zeT _ (by decide)) ?_) | ((with_reducible refine gB rfl ?_); refine bx HS.out rfl rfl ?_; first | refine bv (v := .agg (List.toArray _)) rfl ?_ | refine bv (v := .int _ _) rfl ?_ | refine bv (v := .slice _ _ _) rfl ?_ | refine bv (v := .bool _) rfl ?_ | refine bv (v := .pointer _) rfl ?_ | refine bv (v := .string _) rfl ?_ | refine bv (v := .map _) rfl ?_ | refine bv (v := .func _ _ _) rfl ?_) | ((with_reducible refine gL rfl ?_); refine sh_lit HS.out rfl rfl (by go_simp; exact ⟨⟨rfl, rfl⟩, rfl⟩) ?_)); clear HS; intro g w1 hg HS1; (simp only [Frm.enc, Rep.enc, zeF, segOf, aL, aC, aE] at HS1); have HS := Aside0.mk HS1; clear HS1)); try simp only [aP, aN, aT, aZ, aS]))
                  go_meet
                  case rel => exact ⟨m, b, bad, ahead, 2, false, tx, _, V, rfl, by omega, ⟨iv_gotb HI.out⟩, ⟨_, _, _, _, _, _, _, _, HS.out⟩⟩
            · by_cases h4 : st = 4
              · subst h4
                clear h1
                cases hw2 : (way == 2) with
                | true =>
                  go_wp2_with (first | (go_at_call 18; (with_reducible refine (lost_sent g b bad ahead 0 al tx told A1 cA SA Tq cT ST _ hs0 (SH.pack (is := [_, _, _]) [_, _] HS.out)).mono ?_); rintro e w2 ⟨rfl, T9, cT9, ST9, HS9⟩; clear HS; have HS := Aside0.mk (SH.unpack (is := [_, _, _]) [_, _] HS9); clear HS9; simp only [aC, aE] at HS) | ((first | ((first | ((with_reducible refine gA rfl ?_); refine sh_alloc HS.out rfl rfl (zeT _ (by decide)) ?_) | ((with_reducible refine gB rfl ?_); refine bx HS.out rfl rfl ?_; first | refine bv (v := .agg (List.toArray _)) rfl ?_ | refine bv (v := .int _ _) rfl ?_ | refine bv (v := .slice _ _ _) rfl ?_ | refine bv (v := .bool _) rfl ?_ | refine bv (v := .pointer _) rfl ?_ | refine bv (v := .string _) rfl ?_ | refine bv (v := .map _) rfl ?_ | refine bv (v := .func _ _ _) rfl ?_) | ((with_reducible refine gL rfl ?_); refine sh_lit HS.out rfl rfl (by go_simp; exact ⟨⟨rfl, rfl⟩, rfl⟩) ?_)); clear HS; intro g w1 hg HS1; (simp only [Frm.enc, Rep.enc, zeF, segOf, aL, aC, aE] at HS1); have HS := Aside0.mk HS1; clear HS1)); try simp only [aP, aN, aT, aZ, aS]))
                  go_meet
                  case rel => exact ⟨m, b, bad, ahead, 0, al, tx, _, V, rfl, by omega, ⟨iv_losts HI.out⟩, ⟨_, _, _, _, _, _, _, _, HS.out⟩⟩
                | false =>
                  go_upto_if 77 with (fail)
                  go_cut [16] (fun v16 wx => ∃ t : ByteArray, v16 = .string t ∧ Aside0 (SH w wx [blk g [.string b, .bool bad, .slice A1 ahead.length cA, .int .i64 4, .bool al, .string tx, .slice Tq told.length cT] 42, row frmK 63 (.slice A1 ahead.length cA) ahead SA, row repK 46 (.slice Tq told.length cT) told ST, row strK 9 (.slice A12 V.length c12) V SV, row repK 46 (.slice A11 T.length c11) T SR]))
                  case first =>
                    clear HI
                    by_cases hx : 0 < texts.length
                    · have hx' : decide ((0 : Int) < (texts.length : Int)) = true := by rw [decide_eq_true_eq]; omega
                      obtain ⟨ad, rfl⟩ := HR3.out.addr (by omega)
                      have HRW := Aside0.mk (HR3.out.sh HS.out)
                      clear HR3
                      have hj := Nat.mod_lt m hx
                      have hrem := rem_nat m texts.length hx
                      obtain ⟨j, hje⟩ : ∃ j, m % texts.length = j := ⟨_, rfl⟩
                      rw [hje] at hj hrem
                      clear hje
                      obtain ⟨x, hx⟩ : ∃ x, texts.getD j noText = x := ⟨_, rfl⟩
                      have HX := Aside0.mk hx
                      clear hx
                      have hwr : IntKind.i64.wrap (j : Int) = (j : Int) := by simp [IntKind.wrap, IntKind.bits, IntKind.signed]; omega
                      have hne : ((texts.length : Int) == 0) = false := by rw [beq_eq_false_iff_ne]; omega
                      go_wp2_with (first | ((with_reducible refine gLd rfl ?_); refine rd_load1 (enc := Value.string) HRW.out rfl rfl (i := j) rfl hj noText ((agT _ (by decide)).trans rfl) ?_; intro x hx; obtain rfl := HX.out.symm.trans hx; (try simp only [aP, aN, aT, aZ, aS])))
                      go_meet
                      case rel => exact ⟨x, rfl, HS⟩
                    · have hx' : decide ((0 : Int) < (texts.length : Int)) = false := by rw [decide_eq_false_iff_not]; omega
                      go_wp2_with (fail)
                      go_meet
                      case rel => exact ⟨⟨#[]⟩, rfl, HS⟩
                  case rest =>
                    clear HS HR3
                    obtain ⟨t, rfl, HS⟩ := hcut
                    cases al with
                    | true =>
                      go_wp2_with (first | (go_at_call 19; (with_reducible refine (answer_alone g b bad ahead 0 true tx told A1 cA SA Tq cT ST t _ hs0 (SH.pack (is := [_, _, _]) [_, _] HS.out)).mono ?_); rintro e w2 ⟨rfl, T9, cT9, ST9, HS9⟩; clear HS; have HS := Aside0.mk (SH.unpack (is := [_, _, _]) [_, _] HS9); clear HS9; simp only [aC, aE] at HS) | ((with_reducible refine gC (b := .append) rfl ?_); refine sh_append HS.out rfl rfl rfl 3 rfl rfl (Rd.one strs_len t (HS.out.blk 5 rfl)) Try.underlying31 infoStr rfl (by decide) (by decide) (by omega) ?_; clear HS; intro v1 w1 S1 HS1; (simp only [aZ, aS] at HS1); have HS := Aside0.mk HS1; clear HS1; try simp only [aP, aN, aT, aZ, aS]) | ((first | ((first | ((with_reducible refine gA rfl ?_); refine sh_alloc HS.out rfl rfl (zeT _ (by decide)) ?_) | ((with_reducible refine gB rfl ?_); refine bx HS.out rfl rfl ?_; first | refine bv (v := .agg (List.toArray _)) rfl ?_ | refine bv (v := .int _ _) rfl ?_ | refine bv (v := .slice _ _ _) rfl ?_ | refine bv (v := .bool _) rfl ?_ | refine bv (v := .pointer _) rfl ?_ | refine bv (v := .string _) rfl ?_ | refine bv (v := .map _) rfl ?_ | refine bv (v := .func _ _ _) rfl ?_) | ((with_reducible refine gL rfl ?_); refine sh_lit HS.out rfl rfl (by go_simp; exact ⟨⟨rfl, rfl⟩, rfl⟩) ?_)); clear HS; intro g w1 hg HS1; (simp only [Frm.enc, Rep.enc, zeF, segOf, aL, aC, aE] at HS1); have HS := Aside0.mk HS1; clear HS1)); try simp only [aP, aN, aT, aZ, aS]))
                      go_meet
                      case rel => exact ⟨m + 1, b, bad, ahead, 5, true, tx, _, V ++ [t], by go_num, by omega, ⟨iv_ansa t HI.out⟩, ⟨_, _, _, _, _, _, _, _, HS.out.pick [0, 1, 2, 3, 4] rfl (by decide)⟩⟩
                    | false =>
                      go_wp2_with (first | (go_at_call 19; (with_reducible refine (answer_bound g b bad ahead 0 false tx told A1 cA SA Tq cT ST t _ hs0 (SH.pack (is := [_, _, _]) [_, _] HS.out)).mono ?_); rintro e w2 ⟨rfl, T9, cT9, ST9, HS9⟩; clear HS; have HS := Aside0.mk (SH.unpack (is := [_, _, _]) [_, _] HS9); clear HS9; simp only [aC, aE] at HS) | ((with_reducible refine gC (b := .append) rfl ?_); refine sh_append HS.out rfl rfl rfl 3 rfl rfl (Rd.one strs_len t (HS.out.blk 5 rfl)) Try.underlying31 infoStr rfl (by decide) (by decide) (by omega) ?_; clear HS; intro v1 w1 S1 HS1; (simp only [aZ, aS] at HS1); have HS := Aside0.mk HS1; clear HS1; try simp only [aP, aN, aT, aZ, aS]) | ((first | ((first | ((with_reducible refine gA rfl ?_); refine sh_alloc HS.out rfl rfl (zeT _ (by decide)) ?_) | ((with_reducible refine gB rfl ?_); refine bx HS.out rfl rfl ?_; first | refine bv (v := .agg (List.toArray _)) rfl ?_ | refine bv (v := .int _ _) rfl ?_ | refine bv (v := .slice _ _ _) rfl ?_ | refine bv (v := .bool _) rfl ?_ | refine bv (v := .pointer _) rfl ?_ | refine bv (v := .string _) rfl ?_ | refine bv (v := .map _) rfl ?_ | refine bv (v := .func _ _ _) rfl ?_) | ((with_reducible refine gL rfl ?_); refine sh_lit HS.out rfl rfl (by go_simp; exact ⟨⟨rfl, rfl⟩, rfl⟩) ?_)); clear HS; intro g w1 hg HS1; (simp only [Frm.enc, Rep.enc, zeF, segOf, aL, aC, aE] at HS1); have HS := Aside0.mk HS1; clear HS1)); try simp only [aP, aN, aT, aZ, aS]))
                      go_meet
                      case rel => exact ⟨m + 1, b, bad, ahead, 2, false, tx, _, V ++ [t], by go_num, by omega, ⟨iv_ansb t HI.out⟩, ⟨_, _, _, _, _, _, _, _, HS.out.pick [0, 1, 2, 3, 4] rfl (by decide)⟩⟩
              · by_cases h2 : st = 2
                · subst h2
                  clear h1 h4
                  cases hw3 : (way == 3) with
                  | true =>
                    go_wp2_with (first | (go_at_call 18; (with_reducible refine (lost_bound g b bad ahead 0 al tx told A1 cA SA Tq cT ST _ hs0 (SH.pack (is := [_, _, _]) [_, _] HS.out)).mono ?_); rintro e w2 ⟨rfl, T9, cT9, ST9, HS9⟩; clear HS; have HS := Aside0.mk (SH.unpack (is := [_, _, _]) [_, _] HS9); clear HS9; simp only [aC, aE] at HS) | ((first | ((first | ((with_reducible refine gA rfl ?_); refine sh_alloc HS.out rfl rfl (zeT _ (by decide)) ?_) | ((with_reducible refine gB rfl ?_); refine bx HS.out rfl rfl ?_; first | refine bv (v := .agg (List.toArray _)) rfl ?_ | refine bv (v := .int _ _) rfl ?_ | refine bv (v := .slice _ _ _) rfl ?_ | refine bv (v := .bool _) rfl ?_ | refine bv (v := .pointer _) rfl ?_ | refine bv (v := .string _) rfl ?_ | refine bv (v := .map _) rfl ?_ | refine bv (v := .func _ _ _) rfl ?_) | ((with_reducible refine gL rfl ?_); refine sh_lit HS.out rfl rfl (by go_simp; exact ⟨⟨rfl, rfl⟩, rfl⟩) ?_)); clear HS; intro g w1 hg HS1; (simp only [Frm.enc, Rep.enc, zeF, segOf, aL, aC, aE] at HS1); have HS := Aside0.mk HS1; clear HS1)); try simp only [aP, aN, aT, aZ, aS]))
                    go_meet
                    case rel => exact ⟨m, b, bad, ahead, 6, al, tx, _, V, rfl, by omega, ⟨iv_lostb HI.out⟩, ⟨_, _, _, _, _, _, _, _, HS.out⟩⟩
                  | false =>
                    go_wp2_with (fail)
                    go_meet
                    case rel => exact ⟨m, b, bad, ahead, _, al, tx, told, V, rfl, by omega, ⟨HI.out⟩, ⟨_, _, _, _, _, _, _, _, HS.out⟩⟩
                · have e1 : (st == 1) = false := beq_eq_false_iff_ne.2 h1
                  have e2 : (st == 2) = false := beq_eq_false_iff_ne.2 h2
                  have e4 : (st == 4) = false := beq_eq_false_iff_ne.2 h4
                  go_wp2_with (fail)
                  go_meet
                  case rel => exact ⟨m, b, bad, ahead, _, al, tx, told, V, rfl, by omega, ⟨HI.out⟩, ⟨_, _, _, _, _, _, _, _, HS.out⟩⟩
          case rest =>
            clear HS HI hV60 hs0
            obtain ⟨m', b', bad', ahead', st', al', tx', told', V', rfl, hm', HI, HST⟩ := hcut
            obtain ⟨A2, cA2, SA2, Tq2, cT2, ST2, SV2, SR2, HS1⟩ := HST.out
            obtain ⟨A13, c13, rfl, hc13, _⟩ := row_rd HS1 3 rfl
            have HS := Aside0.mk HS1
            clear HST HS1
            have hl2 : told'.length + ahead'.length ≤ 1000000 := by
              have h1 := HI.out.good.len
              have h2 := inv_A HI.out
              rw [List.length_append] at h1
              have h3 : ahead'.length ≤ sent.length := h2
              omega
            have HAV : Aside0 (∀ f ∈ ahead', valid f) := ⟨inv_av HI.out⟩
            obtain ⟨⟨b3, bad3, ahead3, st3, al3, tx3, told3⟩, hR⟩ : ∃ R, nextSs ⟨b', bad', ahead', st', al', tx', told'⟩ = R := ⟨_, rfl⟩
            have hI3 := inv_next (T := T) (s := ⟨b', bad', ahead', st', al', tx', told'⟩) HI.out
            rw [hR] at hI3
            have HI3 := Aside0.mk (show Inv sent V' (T ++ told3) ⟨b3, bad3, ahead3, st3, al3, tx3, told3⟩ from hI3)
            have HRE := Aside0.mk hR
            clear hI3 HI hR
            have hl3 : T.length + told3.length ≤ 60 := by
              have h1 := HI3.out.good.len
              rw [List.length_append] at h1
              omega
            go_upto_region 35 with (first | (go_at_call 20; (with_reducible refine (next_ok g b' bad' ahead' st' al' tx' told' A2 cA2 SA2 Tq2 cT2 ST2 _ hl2 HAV.out HRE.out (SH.pack (is := [_, _, _]) [_, _] HS.out)).mono ?_); rintro e w2 ⟨x9, y9, rfl, A3, cA3, SA3, Tq3, cT3, ST3, HS9⟩; clear HS; have HS := Aside0.mk (SH.unpack (is := [_, _, _]) [_, _] HS9); clear HS9; simp only [aC, aE] at HS) | (go_at_call 21; (with_reducible refine (replies_any g b3 bad3 ahead3 st3 al3 tx3 told3 A3 cA3 SA3 Tq3 cT3 ST3 _ (SH.pack (is := [_, _, _]) [_, _] HS.out)).mono ?_); rintro e w2 ⟨rfl, HS9⟩; clear HS; have HS := Aside0.mk (SH.unpack (is := [_, _, _]) [_, _] HS9); clear HS9; simp only [aC, aE] at HS) | ((with_reducible refine gC (b := .append) rfl ?_); refine sh_append HS.out rfl rfl rfl 4 rfl rfl (row_rds (hl := Rep.len) (h1 := Rep.one) 2 rfl _ HS.out) Try.underlying32 infoRep rfl (by decide) (by decide) (by omega) ?_; clear HS; intro v1 w1 S1 HS1; (simp only [aZ, aS] at HS1); have HS := Aside0.mk HS1; clear HS1; try simp only [aP, aN, aT, aZ, aS]) | ((first | ((first | ((with_reducible refine gA rfl ?_); refine sh_alloc HS.out rfl rfl (zeT _ (by decide)) ?_) | ((with_reducible refine gB rfl ?_); refine bx HS.out rfl rfl ?_; first | refine bv (v := .agg (List.toArray _)) rfl ?_ | refine bv (v := .int _ _) rfl ?_ | refine bv (v := .slice _ _ _) rfl ?_ | refine bv (v := .bool _) rfl ?_ | refine bv (v := .pointer _) rfl ?_ | refine bv (v := .string _) rfl ?_ | refine bv (v := .map _) rfl ?_ | refine bv (v := .func _ _ _) rfl ?_) | ((with_reducible refine gL rfl ?_); refine sh_lit HS.out rfl rfl (by go_simp; exact ⟨⟨rfl, rfl⟩, rfl⟩) ?_)); clear HS; intro g w1 hg HS1; (simp only [Frm.enc, Rep.enc, zeF, segOf, aL, aC, aE] at HS1); have HS := Aside0.mk HS1; clear HS1)); try simp only [aP, aN, aT, aZ, aS]))
            clear HRE HAV
            obtain ⟨T3, hT3⟩ : ∃ T3, T ++ told3 = T3 := ⟨_, rfl⟩
            have HIN := Aside0.mk (inv_take HI3.out)
            clear HI3
            rw [hT3] at HS HIN
            clear hT3
            have HSN := HS.out
            clear HS
            have HS := Aside0.mk HSN
            obtain ⟨A14, c14, rfl, hc14, _⟩ := row_rd HSN 4 rfl
            clear HSN
            have HF := Aside0.mk (show pGo sent V' T3 0 false 0 = (-1, 0) by have h := HIN.out.good.fits; rwa [List.append_nil] at h)
            go_wp2_with (first | (go_at_call 12; (with_reducible refine (fits_any A A13 A14 c1 c13 c14 sent V' T3 _ (HR1.out.sh HS.out) (row_rds (hl := strs_len) (h1 := strs_one) 3 rfl _ HS.out) (row_rds (hl := Rep.len) (h1 := Rep.one) 4 rfl _ HS.out) hc13).mono ?_); rintro e w2 ⟨rfl, hb⟩; rw [HF.out]; have HS1 := HS.out.quiet hb; clear HS hb; have HS := Aside0.mk HS1; clear HS1) | ((first | ((first | ((with_reducible refine gA rfl ?_); refine sh_alloc HS.out rfl rfl (zeT _ (by decide)) ?_) | ((with_reducible refine gB rfl ?_); refine bx HS.out rfl rfl ?_; first | refine bv (v := .agg (List.toArray _)) rfl ?_ | refine bv (v := .int _ _) rfl ?_ | refine bv (v := .slice _ _ _) rfl ?_ | refine bv (v := .bool _) rfl ?_ | refine bv (v := .pointer _) rfl ?_ | refine bv (v := .string _) rfl ?_ | refine bv (v := .map _) rfl ?_ | refine bv (v := .func _ _ _) rfl ?_) | ((with_reducible refine gL rfl ?_); refine sh_lit HS.out rfl rfl (by go_simp; exact ⟨⟨rfl, rfl⟩, rfl⟩) ?_)); clear HS; intro g w1 hg HS1; (simp only [Frm.enc, Rep.enc, zeF, segOf, aL, aC, aE] at HS1); have HS := Aside0.mk HS1; clear HS1)); try simp only [aP, aN, aT, aZ, aS]))
            go_roundw
            case rel =>
              have HN := HS.out.nil repK 46
              exact ⟨i + 1, m', b3, bad3, ahead3, st3, al3, tx3, [], V', T3, by omega, by go_num, rfl, by omega, HIN, ⟨_, _, _, _, _, _, _, _, HN.pick [0, 1, 5, 3, 4] rfl (by decide)⟩⟩
            case measure => simp [intOf]; omega
      · have hlt' : decide ((i : Int) < 300) = false := by rw [decide_eq_false_iff_not]; omega
        go_wp2_with (fail)
        go_ret
        obtain ⟨_, _, _, _, _, _, _, _, HS⟩ := HST.out
        exact ⟨rfl, HS.below⟩
  · have HV := Aside0.mk hv
    clear hv
    go_wp2_with (first | (go_at_call 14; (with_reducible refine (bytes_no A sent.length c1 sent _ (HR1.out.sh HS.out) hN HV.out).mono ?_); rintro e w2 ⟨rfl, hb⟩;  have HS1 := HS.out.quiet hb; clear HS hb; have HS := Aside0.mk HS1; clear HS1) | ((first | ((first | ((with_reducible refine gA rfl ?_); refine sh_alloc HS.out rfl rfl (zeT _ (by decide)) ?_) | ((with_reducible refine gB rfl ?_); refine bx HS.out rfl rfl ?_; first | refine bv (v := .agg (List.toArray _)) rfl ?_ | refine bv (v := .int _ _) rfl ?_ | refine bv (v := .slice _ _ _) rfl ?_ | refine bv (v := .bool _) rfl ?_ | refine bv (v := .pointer _) rfl ?_ | refine bv (v := .string _) rfl ?_ | refine bv (v := .map _) rfl ?_ | refine bv (v := .func _ _ _) rfl ?_) | ((with_reducible refine gL rfl ?_); refine sh_lit HS.out rfl rfl (by go_simp; exact ⟨⟨rfl, rfl⟩, rfl⟩) ?_)); clear HS; intro g w1 hg HS1; (simp only [Frm.enc, Rep.enc, zeF, segOf, aL, aC, aE] at HS1); have HS := Aside0.mk HS1; clear HS1)); try simp only [aP, aN, aT, aZ, aS]))
    go_ret
    exact ⟨rfl, HS.out.below⟩
namespace LawSession
def waysS : Sh := .slice 3 (.int .i64)
theorem wayS_K {w : World} (x : Int) (cs : List Value) (h : (Sh.int .i64).kd.K w x cs) : cs = ints .i64 x := h
theorem frms_sized {x : frmsS.D} (h : frmsS.sized Try.prog x) : (show List frmS.D from x).length ≤ 8796093022208 := by
  have e : Try.prog.bytesOf 63 = 24 := by kernel_rfl
  obtain ⟨h1, _⟩ := h
  rw [e] at h1
  have h2 : (show List frmS.D from x).length * 24 ≤ 140737488351232 := h1
  omega
theorem walk (W : World) (cs0 : List Value) (x0 : frmsS.D) (hk0 : frmsS.kd.K W x0 cs0) (hw0 : frmsS.wf x0) (hz0 : frmsS.sized Try.prog x0) (cs1 : List Value) (x1 : waysS.D) (hk1 : waysS.kd.K W x1 cs1) (hw1 : waysS.wf x1) (hz1 : waysS.sized Try.prog x1) (cs2 : List Value) (x2 : strsS.D) (hk2 : strsS.kd.K W x2 cs2) (hw2 : strsS.wf x2) (hz2 : strsS.sized Try.prog x2) :
    Calls Try.prog 5 #[frmsS.val cs0, waysS.val cs1, strsS.val cs2] W fun e W' => e = .returned (.bool true) ∧ Below W.heap.size W W' := by
  have hN := frms_sized hz0
  obtain ⟨A, c, rfl, hl, hC⟩ := hk0
  obtain ⟨B, c', rfl, hl', hC'⟩ := hk1
  obtain ⟨C, c'', rfl, hl'', hC''⟩ := hk2
  have h1 := C_map hC toFrm (sz := 2) rfl (fun y cs hy => frmS_K y cs hy)
  have h2 := C_map hC' id (sz := 1) rfl (fun y cs hy => wayS_K y cs hy)
  have h3 := C_map hC'' id (sz := 1) rfl (fun y cs hy => strS_K y cs hy)
  exact lawSession_any A B C c c' c'' _ _ _ W h1 h2 h3 hN
end LawSession
end Go.Proofs.Ytkggchahhpmpbaa.Jud
