/- Lemmas towards the law: what of the text Js5 it needs. -/
import Derived.Test.YtkggchahhpmpbaaJs4q
import Derived.Laws.BytesString
namespace Go.Proofs.Ytkggchahhpmpbaa.Jud
open Go.RowKit Go.Proofs.YtkggchahhpmpbaaW.PrintWords Go.Proofs.Ytkggchahhpmpbaa.Sl
set_option linter.unusedVariables false
set_option linter.unusedSimpArgs false
def bs (l : List UInt8) : ByteArray := ⟨l.toArray⟩
theorem bs_append (l k : List UInt8) : bs l ++ bs k = bs (l ++ k) := by
  apply ByteArray.ext
  rw [ByteArray.data_append]
  simp [bs]
theorem bs_text (t : ByteArray) : bs t.data.toList = t := by cases t; rfl
theorem bs_size (l : List UInt8) : (bs l).size = l.length := by simp [bs, ByteArray.size]
def encF (f : Frm) : List UInt8 := if f.kind = 81 then 81 :: UInt8.ofNat f.text.size :: f.text.data.toList else [UInt8.ofNat f.kind.toNat]
def encAll (l : List Frm) : List UInt8 := l.flatMap encF
theorem encAll_succ {l : List Frm} {k : Nat} {f : Frm} (hk : k < l.length) (hf : l.getD k default = f) : encAll (l.take (k + 1)) = encAll (l.take k) ++ encF f := by
  unfold encAll
  rw [List.take_succ_eq_append_getElem hk, List.flatMap_append, List.flatMap_singleton]
  rw [List.getD_eq_getElem?_getD, List.getElem?_eq_getElem hk, Option.getD_some] at hf
  rw [hf]
theorem encF_len {f : Frm} (h : valid f) : (encF f).length ≤ 50 := by
  unfold encF
  unfold valid rFrame at h
  split
  · rename_i hk
    rw [if_pos (by rw [hk]; rfl), decide_eq_true_eq] at h
    have : f.text.data.toList.length = f.text.size := Array.length_toList
    simp only [List.length_cons, this]
    omega
  · exact (by decide : (1 : Nat) ≤ 50)
theorem encAll_len : ∀ (l : List Frm), (∀ f ∈ l, valid f) → (encAll l).length ≤ 50 * l.length
  | [], _ => by simp [encAll]
  | f :: l, h => by
    have h1 := encF_len (h f List.mem_cons_self)
    have h2 := encAll_len l (fun g hg => h g (List.mem_cons_of_mem _ hg))
    unfold encAll at h2 ⊢
    rw [List.flatMap_cons, List.length_append, List.length_cons]
    omega
section
variable {P : Program} {ops : Array Oper} {rest : List Oper} {o : Oper} {a : Act} {Q : Exit → Act → World → Prop}
theorem gCv {W : World} {ts td : TypeId} {x : Operand} (_ho : o.op = .convert ts td x) (h : WP P ops Q (o :: rest) a W) : wpList P ops Q (o :: rest) a W := h.out
theorem push_fold : ∀ (ns : List Int) (s : List UInt8), ns.foldl (fun r n => r.push (UInt8.ofNat n.toNat)) (bs s) = bs (s ++ ns.map (fun n => UInt8.ofNat n.toNat))
  | [], s => by simp
  | n :: ns, s => by
    have e : (bs s).push (UInt8.ofNat n.toNat) = bs (s ++ [UInt8.ofNat n.toNat]) := by
      apply ByteArray.ext
      simp [bs, ByteArray.push]
    rw [List.foldl_cons, e, push_fold ns, List.append_assoc, List.map_cons]
    rfl
/-- string(b) -/
theorem sh_conv {W : World} (hw : Region.wanted o (yielded ops a.tmps) = true) {ts td e : TypeId} {x : Operand} (ho : o.op = .convert ts td x) {ad : Addr} {m c : Nat} (hx : a.eval x = .slice (some ad) m c) {xs : List Int} (HR : Rd (ints .u8) 1 W (some ad) m xs)
    (hs : P.underlying ts = some (.slice e)) (he : P.underlying e = some (.int .u8)) (hd : P.underlying td = some .string)
    (h : wpList P ops Q rest (a.put o.dst (.string (bs (xs.map fun n => UInt8.ofNat n.toNat)))) W) : WP P ops Q (o :: rest) a W := by
  refine ⟨run_step hw ?_ h⟩
  have hld : (loadCells ad m).run P W = .ok (xs.map (Value.int .u8)).toArray W := by
    have := run_loadCells_list (P := P) W ad (xs.map (Value.int .u8)) (fun j v hj => by
      rw [List.getElem?_map] at hj
      obtain ⟨y, hy, rfl⟩ := Option.map_eq_some_iff.1 hj
      have hjl := (List.getElem?_eq_some_iff.1 hy).1
      rw [HR.len.1] at hjl
      have := HR.cell 0 hjl 0 (u := .int .u8 y) (by rw [List.getD_eq_getElem?_getD, hy]; rfl)
      rwa [Nat.mul_one, Nat.add_zero] at this)
    rwa [List.length_map, HR.len.1] at this
  have h1 := run_convert_bytes_string (P := P) W ts td e (some ad) m c hs he hd
  rw [run_bytesToString W ad m c xs hld, show ByteArray.empty = bs [] from rfl, push_fold, List.nil_append] at h1
  unfold execOp
  simp only [ho, hx]
  simp [go_sem, h1]
end
def BytesPost (w : World) (l : List Frm) (e : Ending) (w' : World) : Prop := ((∀ f ∈ l, valid f) ∧ e = .returned (.tuple #[.string (bs (encAll l)), .int .i64 0]) ∧ Below w.heap.size w w') ∨ ((∃ f ∈ l, ¬ valid f) ∧ e = .returned (.tuple #[.string ⟨#[]⟩, .int .i64 90]) ∧ Below w.heap.size w w')
theorem bytes_bad {w w' : World} {l : List Frm} {e : Ending} {k : Nat} {f : Frm} (hk : k < l.length) (hf : l.getD k default = f) (hv : ¬ valid f) (he : e = .returned (.tuple #[.string ⟨#[]⟩, .int .i64 90])) (hb : Below w.heap.size w w') : BytesPost w l e w' := by
  refine .inr ⟨⟨f, ?_, hv⟩, he, hb⟩
  rw [← hf, List.getD_eq_getElem?_getD, List.getElem?_eq_getElem hk]
  exact List.getElem_mem hk
theorem valid_take {l : List Frm} {k : Nat} {f : Frm} (hk : k < l.length) (hf : l.getD k default = f) (h : ∀ g ∈ l.take k, valid g) (hv : valid f) : ∀ g ∈ l.take (k + 1), valid g := by
  rw [List.take_succ_eq_append_getElem hk]
  rw [List.getD_eq_getElem?_getD, List.getElem?_eq_getElem hk, Option.getD_some] at hf
  intro g hg
  rcases List.mem_append.1 hg with hg | hg
  · exact h g hg
  · rw [List.mem_singleton] at hg
    rw [hg, hf]; exact hv
set_option maxHeartbeats 6400000 in
set_option maxRecDepth 100000 in
theorem bytes_any (A : Option Addr) (N c : Nat) (l : List Frm) (w : World) (hr : Rd Frm.enc 2 w A N l) (hN : N ≤ 8796093022208) :
    Calls Try.prog 14 #[.slice A N c] w (BytesPost w l) := by
  obtain rfl := hr.len.1
  have HR := Aside0.mk hr
  clear hr
  have HS := Aside0.mk (SH.start w)
  go_enter Try.func14, Try.ntmps14
  go_wp2_with (first | ((first | ((first | ((with_reducible refine gA rfl ?_); refine sh_alloc HS.out rfl rfl (zeT _ (by decide)) ?_) | ((with_reducible refine gB rfl ?_); refine bx HS.out rfl rfl ?_; first | refine bv (v := .agg (List.toArray _)) rfl ?_ | refine bv (v := .int _ _) rfl ?_ | refine bv (v := .slice _ _ _) rfl ?_ | refine bv (v := .bool _) rfl ?_ | refine bv (v := .pointer _) rfl ?_ | refine bv (v := .string _) rfl ?_ | refine bv (v := .map _) rfl ?_ | refine bv (v := .func _ _ _) rfl ?_) | ((with_reducible refine gL rfl ?_); refine sh_lit HS.out rfl rfl (by go_simp; exact ⟨⟨rfl, rfl⟩, rfl⟩) ?_)); clear HS; intro g w1 hg HS1; (simp only [Frm.enc, Rep.enc, zeF, segOf, aL, aC, aE] at HS1); have HS := Aside0.mk HS1; clear HS1)); try simp only [aP, aN, aT, aZ, aS]))
  go_loopw [4, 9] (fun v4 v9 wr => ∃ (k : Nat) (sB : ByteArray), k ≤ l.length ∧ v9 = .int .i64 k ∧ v4 = .string sB ∧ Aside0 (sB = bs (encAll (l.take k))) ∧ Aside0 (∀ f ∈ l.take k, valid f) ∧ Aside0 (SH w wr [])) (fun _ v9 _ => l.length - (intOf v9).toNat)
  case atStart => exact ⟨0, _, Nat.zero_le _, rfl, rfl, ⟨rfl⟩, ⟨fun f hf => by simp at hf⟩, HS⟩
  case round =>
    clear HS
    obtain ⟨k, sB, hk, rfl, rfl, HB, HV, HS⟩ := hrel
    have hsz : sB.size ≤ 439804651110400 := by
      rw [HB.out, bs_size]
      have := encAll_len (l.take k) HV.out
      rw [List.length_take] at this
      omega
    by_cases hlt : k < l.length
    · obtain ⟨ad, rfl⟩ := HR.out.addr (by omega)
      obtain ⟨f, hf⟩ : ∃ f, l.getD k default = f := ⟨_, rfl⟩
      have HX := Aside0.mk hf
      have HRR := Aside0.mk (HR.out.sh HS.out)
      have HSU := Aside0.mk (encAll_succ hlt hf)
      have HVT := Aside0.mk (fun hv => valid_take hlt hf HV.out hv)
      have HBAD := Aside0.mk (show ∀ (w' : World) (e : Ending), ¬ valid f → e = .returned (.tuple #[.string ⟨#[]⟩, .int .i64 90]) → Below w.heap.size w w' → BytesPost w l e w' from fun w' e hv he hb => bytes_bad hlt hf hv he hb)
      clear hf
      obtain ⟨fk, ft⟩ := f
      by_cases h81 : fk = 81
      · subst h81
        by_cases h48 : ft.size ≤ 48
        · have h48' : decide ((ft.size : Int) ≤ 48) = true := by rw [decide_eq_true_eq]; omega
          have hwr : IntKind.u8.wrap (ft.size : Int) = (ft.size : Int) := by simp [IntKind.wrap, IntKind.bits, IntKind.signed]; omega
          have hv : valid ⟨81, ft⟩ := by unfold valid rFrame; simp; omega
          have HE := Aside0.mk (show encF ⟨81, ft⟩ = [81, UInt8.ofNat ft.size] ++ ft.data.toList from rfl)
          have hz2 : (bs [81, UInt8.ofNat ft.size]).size = 2 := bs_size _
          go_wp2_with (first | ((with_reducible refine gLd rfl ?_); refine rd_load HRR.out rfl rfl (i := k) rfl hlt default Frm.len ((agT _ (by decide)).trans rfl) (szT _ (by decide)) ?_; intro x hx; obtain rfl := HX.out.symm.trans hx; (try simp only [Frm.enc, Rep.enc, aP, aN, aT, aZ, aS])) | ((with_reducible refine gCv rfl ?_); refine sh_conv rfl rfl rfl (Rd.lit (enc := ints .u8) (ints_len .u8) (xs := [81, (ft.size : Int)]) (HS.out.blk 1 rfl) rfl rfl (by exact Nat.le_of_ble_eq_true rfl)) Try.underlying69 Try.underlying5 Try.underlying9 ?_) | ((first | ((first | ((with_reducible refine gA rfl ?_); refine sh_alloc HS.out rfl rfl (zeT _ (by decide)) ?_) | ((with_reducible refine gB rfl ?_); refine bx HS.out rfl rfl ?_; first | refine bv (v := .agg (List.toArray _)) rfl ?_ | refine bv (v := .int _ _) rfl ?_ | refine bv (v := .slice _ _ _) rfl ?_ | refine bv (v := .bool _) rfl ?_ | refine bv (v := .pointer _) rfl ?_ | refine bv (v := .string _) rfl ?_ | refine bv (v := .map _) rfl ?_ | refine bv (v := .func _ _ _) rfl ?_) | ((with_reducible refine gL rfl ?_); refine sh_lit HS.out rfl rfl (by go_simp; exact ⟨⟨rfl, rfl⟩, rfl⟩) ?_)); clear HS; intro g w1 hg HS1; (simp only [Frm.enc, Rep.enc, zeF, segOf, aL, aC, aE] at HS1); have HS := Aside0.mk HS1; clear HS1) | ((with_reducible refine gLd rfl ?_); refine ld2 HS.out rfl rfl rfl (by repeat (first | exact AtI.here | apply AtI.there)) ?_; (first | refine LdK.one ((agT _ (by decide)).trans rfl) rfl ?_ | (refine LdK.agg ((agT _ (by decide)).trans rfl) (szT _ (by decide)) (lb rfl) ?_; try simp only [szL, aP, aN, aT, aZ, aS, aD, aF, aJ, aK, aM, aO]))) | ((with_reducible refine gSt rfl ?_); refine st2 HS.out rfl rfl rfl rfl (by repeat (first | exact AtI.here | apply AtI.there)) ?_; (first | refine sv (u := .agg (List.toArray _)) rfl ?_ | refine sv (u := .int _ _) rfl ?_ | refine sv (u := .slice _ _ _) rfl ?_ | refine sv (u := .bool _) rfl ?_ | refine sv (u := .pointer _) rfl ?_ | refine sv (u := .string _) rfl ?_ | refine sv (u := .map _) rfl ?_ | refine sv (u := .func _ _ _) rfl ?_); refine sw (szT _ (by decide)) rfl (lb rfl) ?_; clear HS; intro w1 HS1; (simp only [Frm.enc, Rep.enc, segOf, aL, aZ, aS, putSeg] at HS1); have HS := Aside0.mk HS1; clear HS1)); try simp only [aP, aN, aT, aZ, aS]))
          all_goals (try (exfalso; omega))
          go_roundw
          case rel =>
            refine ⟨k + 1, _, by omega, by go_num, rfl, ⟨?_⟩, ⟨HVT.out hv⟩, ⟨HS.out.pick [] rfl (by decide)⟩⟩
            rw [HSU.out, HE.out, ← bs_append, ← bs_append, bs_text, HB.out]
          case measure => simp [intOf]; omega
        · have h48' : decide ((ft.size : Int) ≤ 48) = false := by rw [decide_eq_false_iff_not]; omega
          have h48'' : decide (ft.size ≤ 48) = false := by rw [decide_eq_false_iff_not]; omega
          have hv : ¬ valid ⟨81, ft⟩ := by unfold valid rFrame; simp; omega
          clear h48
          go_wp2_with (first | ((with_reducible refine gLd rfl ?_); refine rd_load HRR.out rfl rfl (i := k) rfl hlt default Frm.len ((agT _ (by decide)).trans rfl) (szT _ (by decide)) ?_; intro x hx; obtain rfl := HX.out.symm.trans hx; (try simp only [Frm.enc, Rep.enc, aP, aN, aT, aZ, aS])) | ((first | ((first | ((with_reducible refine gA rfl ?_); refine sh_alloc HS.out rfl rfl (zeT _ (by decide)) ?_) | ((with_reducible refine gB rfl ?_); refine bx HS.out rfl rfl ?_; first | refine bv (v := .agg (List.toArray _)) rfl ?_ | refine bv (v := .int _ _) rfl ?_ | refine bv (v := .slice _ _ _) rfl ?_ | refine bv (v := .bool _) rfl ?_ | refine bv (v := .pointer _) rfl ?_ | refine bv (v := .string _) rfl ?_ | refine bv (v := .map _) rfl ?_ | refine bv (v := .func _ _ _) rfl ?_) | ((with_reducible refine gL rfl ?_); refine sh_lit HS.out rfl rfl (by go_simp; exact ⟨⟨rfl, rfl⟩, rfl⟩) ?_)); clear HS; intro g w1 hg HS1; (simp only [Frm.enc, Rep.enc, zeF, segOf, aL, aC, aE] at HS1); have HS := Aside0.mk HS1; clear HS1) | ((with_reducible refine gLd rfl ?_); refine ld2 HS.out rfl rfl rfl (by repeat (first | exact AtI.here | apply AtI.there)) ?_; (first | refine LdK.one ((agT _ (by decide)).trans rfl) rfl ?_ | (refine LdK.agg ((agT _ (by decide)).trans rfl) (szT _ (by decide)) (lb rfl) ?_; try simp only [szL, aP, aN, aT, aZ, aS, aD, aF, aJ, aK, aM, aO]))) | ((with_reducible refine gSt rfl ?_); refine st2 HS.out rfl rfl rfl rfl (by repeat (first | exact AtI.here | apply AtI.there)) ?_; (first | refine sv (u := .agg (List.toArray _)) rfl ?_ | refine sv (u := .int _ _) rfl ?_ | refine sv (u := .slice _ _ _) rfl ?_ | refine sv (u := .bool _) rfl ?_ | refine sv (u := .pointer _) rfl ?_ | refine sv (u := .string _) rfl ?_ | refine sv (u := .map _) rfl ?_ | refine sv (u := .func _ _ _) rfl ?_); refine sw (szT _ (by decide)) rfl (lb rfl) ?_; clear HS; intro w1 HS1; (simp only [Frm.enc, Rep.enc, segOf, aL, aZ, aS, putSeg] at HS1); have HS := Aside0.mk HS1; clear HS1)); try simp only [aP, aN, aT, aZ, aS]))
          go_ret2
          exact HBAD.out _ _ hv rfl HS.out.below
      by_cases h66 : fk = 66
      · subst h66
        clear h81
        have hz1 : (bs [UInt8.ofNat 66]).size = 1 := bs_size _
        have hz2 : (bs [66]).size = 1 := bs_size _
        have hz3 : (bs (List.map (fun n : Int => UInt8.ofNat n.toNat) [66])).size = 1 := bs_size _
        cases he : ft.toList.isEmpty with
        | true =>
          have hv : valid ⟨66, ft⟩ := by unfold valid rFrame; simp [he]
          have HE := Aside0.mk (show encF ⟨66, ft⟩ = [UInt8.ofNat 66] from rfl)
          go_wp2_with (first | ((with_reducible refine gLd rfl ?_); refine rd_load HRR.out rfl rfl (i := k) rfl hlt default Frm.len ((agT _ (by decide)).trans rfl) (szT _ (by decide)) ?_; intro x hx; obtain rfl := HX.out.symm.trans hx; (try simp only [Frm.enc, Rep.enc, aP, aN, aT, aZ, aS])) | ((with_reducible refine gCv rfl ?_); refine sh_conv rfl rfl rfl (Rd.lit (enc := ints .u8) (ints_len .u8) (xs := [66]) (HS.out.blk 1 rfl) rfl rfl (by exact Nat.le_of_ble_eq_true rfl)) Try.underlying69 Try.underlying5 Try.underlying9 ?_) | ((first | ((first | ((with_reducible refine gA rfl ?_); refine sh_alloc HS.out rfl rfl (zeT _ (by decide)) ?_) | ((with_reducible refine gB rfl ?_); refine bx HS.out rfl rfl ?_; first | refine bv (v := .agg (List.toArray _)) rfl ?_ | refine bv (v := .int _ _) rfl ?_ | refine bv (v := .slice _ _ _) rfl ?_ | refine bv (v := .bool _) rfl ?_ | refine bv (v := .pointer _) rfl ?_ | refine bv (v := .string _) rfl ?_ | refine bv (v := .map _) rfl ?_ | refine bv (v := .func _ _ _) rfl ?_) | ((with_reducible refine gL rfl ?_); refine sh_lit HS.out rfl rfl (by go_simp; exact ⟨⟨rfl, rfl⟩, rfl⟩) ?_)); clear HS; intro g w1 hg HS1; (simp only [Frm.enc, Rep.enc, zeF, segOf, aL, aC, aE] at HS1); have HS := Aside0.mk HS1; clear HS1) | ((with_reducible refine gLd rfl ?_); refine ld2 HS.out rfl rfl rfl (by repeat (first | exact AtI.here | apply AtI.there)) ?_; (first | refine LdK.one ((agT _ (by decide)).trans rfl) rfl ?_ | (refine LdK.agg ((agT _ (by decide)).trans rfl) (szT _ (by decide)) (lb rfl) ?_; try simp only [szL, aP, aN, aT, aZ, aS, aD, aF, aJ, aK, aM, aO]))) | ((with_reducible refine gSt rfl ?_); refine st2 HS.out rfl rfl rfl rfl (by repeat (first | exact AtI.here | apply AtI.there)) ?_; (first | refine sv (u := .agg (List.toArray _)) rfl ?_ | refine sv (u := .int _ _) rfl ?_ | refine sv (u := .slice _ _ _) rfl ?_ | refine sv (u := .bool _) rfl ?_ | refine sv (u := .pointer _) rfl ?_ | refine sv (u := .string _) rfl ?_ | refine sv (u := .map _) rfl ?_ | refine sv (u := .func _ _ _) rfl ?_); refine sw (szT _ (by decide)) rfl (lb rfl) ?_; clear HS; intro w1 HS1; (simp only [Frm.enc, Rep.enc, segOf, aL, aZ, aS, putSeg] at HS1); have HS := Aside0.mk HS1; clear HS1)); try simp only [aP, aN, aT, aZ, aS]))
          all_goals (try (exfalso; omega))
          go_roundw
          case rel =>
            refine ⟨k + 1, _, by omega, by go_num, rfl, ⟨?_⟩, ⟨HVT.out hv⟩, ⟨HS.out.pick [] rfl (by decide)⟩⟩
            rw [HSU.out, HE.out, ← bs_append, HB.out]
            rfl
          case measure => simp [intOf]; omega
        | false =>
          have hv : ¬ valid ⟨66, ft⟩ := by unfold valid rFrame; simp [he]
          go_wp2_with (first | ((with_reducible refine gLd rfl ?_); refine rd_load HRR.out rfl rfl (i := k) rfl hlt default Frm.len ((agT _ (by decide)).trans rfl) (szT _ (by decide)) ?_; intro x hx; obtain rfl := HX.out.symm.trans hx; (try simp only [Frm.enc, Rep.enc, aP, aN, aT, aZ, aS])) | ((first | ((first | ((with_reducible refine gA rfl ?_); refine sh_alloc HS.out rfl rfl (zeT _ (by decide)) ?_) | ((with_reducible refine gB rfl ?_); refine bx HS.out rfl rfl ?_; first | refine bv (v := .agg (List.toArray _)) rfl ?_ | refine bv (v := .int _ _) rfl ?_ | refine bv (v := .slice _ _ _) rfl ?_ | refine bv (v := .bool _) rfl ?_ | refine bv (v := .pointer _) rfl ?_ | refine bv (v := .string _) rfl ?_ | refine bv (v := .map _) rfl ?_ | refine bv (v := .func _ _ _) rfl ?_) | ((with_reducible refine gL rfl ?_); refine sh_lit HS.out rfl rfl (by go_simp; exact ⟨⟨rfl, rfl⟩, rfl⟩) ?_)); clear HS; intro g w1 hg HS1; (simp only [Frm.enc, Rep.enc, zeF, segOf, aL, aC, aE] at HS1); have HS := Aside0.mk HS1; clear HS1) | ((with_reducible refine gLd rfl ?_); refine ld2 HS.out rfl rfl rfl (by repeat (first | exact AtI.here | apply AtI.there)) ?_; (first | refine LdK.one ((agT _ (by decide)).trans rfl) rfl ?_ | (refine LdK.agg ((agT _ (by decide)).trans rfl) (szT _ (by decide)) (lb rfl) ?_; try simp only [szL, aP, aN, aT, aZ, aS, aD, aF, aJ, aK, aM, aO]))) | ((with_reducible refine gSt rfl ?_); refine st2 HS.out rfl rfl rfl rfl (by repeat (first | exact AtI.here | apply AtI.there)) ?_; (first | refine sv (u := .agg (List.toArray _)) rfl ?_ | refine sv (u := .int _ _) rfl ?_ | refine sv (u := .slice _ _ _) rfl ?_ | refine sv (u := .bool _) rfl ?_ | refine sv (u := .pointer _) rfl ?_ | refine sv (u := .string _) rfl ?_ | refine sv (u := .map _) rfl ?_ | refine sv (u := .func _ _ _) rfl ?_); refine sw (szT _ (by decide)) rfl (lb rfl) ?_; clear HS; intro w1 HS1; (simp only [Frm.enc, Rep.enc, segOf, aL, aZ, aS, putSeg] at HS1); have HS := Aside0.mk HS1; clear HS1)); try simp only [aP, aN, aT, aZ, aS]))
          go_ret2
          exact HBAD.out _ _ hv rfl HS.out.below
      by_cases h69 : fk = 69
      · subst h69
        clear h81
        have hz1 : (bs [UInt8.ofNat 69]).size = 1 := bs_size _
        have hz2 : (bs [69]).size = 1 := bs_size _
        have hz3 : (bs (List.map (fun n : Int => UInt8.ofNat n.toNat) [69])).size = 1 := bs_size _
        cases he : ft.toList.isEmpty with
        | true =>
          have hv : valid ⟨69, ft⟩ := by unfold valid rFrame; simp [he]
          have HE := Aside0.mk (show encF ⟨69, ft⟩ = [UInt8.ofNat 69] from rfl)
          go_wp2_with (first | ((with_reducible refine gLd rfl ?_); refine rd_load HRR.out rfl rfl (i := k) rfl hlt default Frm.len ((agT _ (by decide)).trans rfl) (szT _ (by decide)) ?_; intro x hx; obtain rfl := HX.out.symm.trans hx; (try simp only [Frm.enc, Rep.enc, aP, aN, aT, aZ, aS])) | ((with_reducible refine gCv rfl ?_); refine sh_conv rfl rfl rfl (Rd.lit (enc := ints .u8) (ints_len .u8) (xs := [69]) (HS.out.blk 1 rfl) rfl rfl (by exact Nat.le_of_ble_eq_true rfl)) Try.underlying69 Try.underlying5 Try.underlying9 ?_) | ((first | ((first | ((with_reducible refine gA rfl ?_); refine sh_alloc HS.out rfl rfl (zeT _ (by decide)) ?_) | ((with_reducible refine gB rfl ?_); refine bx HS.out rfl rfl ?_; first | refine bv (v := .agg (List.toArray _)) rfl ?_ | refine bv (v := .int _ _) rfl ?_ | refine bv (v := .slice _ _ _) rfl ?_ | refine bv (v := .bool _) rfl ?_ | refine bv (v := .pointer _) rfl ?_ | refine bv (v := .string _) rfl ?_ | refine bv (v := .map _) rfl ?_ | refine bv (v := .func _ _ _) rfl ?_) | ((with_reducible refine gL rfl ?_); refine sh_lit HS.out rfl rfl (by go_simp; exact ⟨⟨rfl, rfl⟩, rfl⟩) ?_)); clear HS; intro g w1 hg HS1; (simp only [Frm.enc, Rep.enc, zeF, segOf, aL, aC, aE] at HS1); have HS := Aside0.mk HS1; clear HS1) | ((with_reducible refine gLd rfl ?_); refine ld2 HS.out rfl rfl rfl (by repeat (first | exact AtI.here | apply AtI.there)) ?_; (first | refine LdK.one ((agT _ (by decide)).trans rfl) rfl ?_ | (refine LdK.agg ((agT _ (by decide)).trans rfl) (szT _ (by decide)) (lb rfl) ?_; try simp only [szL, aP, aN, aT, aZ, aS, aD, aF, aJ, aK, aM, aO]))) | ((with_reducible refine gSt rfl ?_); refine st2 HS.out rfl rfl rfl rfl (by repeat (first | exact AtI.here | apply AtI.there)) ?_; (first | refine sv (u := .agg (List.toArray _)) rfl ?_ | refine sv (u := .int _ _) rfl ?_ | refine sv (u := .slice _ _ _) rfl ?_ | refine sv (u := .bool _) rfl ?_ | refine sv (u := .pointer _) rfl ?_ | refine sv (u := .string _) rfl ?_ | refine sv (u := .map _) rfl ?_ | refine sv (u := .func _ _ _) rfl ?_); refine sw (szT _ (by decide)) rfl (lb rfl) ?_; clear HS; intro w1 HS1; (simp only [Frm.enc, Rep.enc, segOf, aL, aZ, aS, putSeg] at HS1); have HS := Aside0.mk HS1; clear HS1)); try simp only [aP, aN, aT, aZ, aS]))
          all_goals (try (exfalso; omega))
          go_roundw
          case rel =>
            refine ⟨k + 1, _, by omega, by go_num, rfl, ⟨?_⟩, ⟨HVT.out hv⟩, ⟨HS.out.pick [] rfl (by decide)⟩⟩
            rw [HSU.out, HE.out, ← bs_append, HB.out]
            rfl
          case measure => simp [intOf]; omega
        | false =>
          have hv : ¬ valid ⟨69, ft⟩ := by unfold valid rFrame; simp [he]
          go_wp2_with (first | ((with_reducible refine gLd rfl ?_); refine rd_load HRR.out rfl rfl (i := k) rfl hlt default Frm.len ((agT _ (by decide)).trans rfl) (szT _ (by decide)) ?_; intro x hx; obtain rfl := HX.out.symm.trans hx; (try simp only [Frm.enc, Rep.enc, aP, aN, aT, aZ, aS])) | ((first | ((first | ((with_reducible refine gA rfl ?_); refine sh_alloc HS.out rfl rfl (zeT _ (by decide)) ?_) | ((with_reducible refine gB rfl ?_); refine bx HS.out rfl rfl ?_; first | refine bv (v := .agg (List.toArray _)) rfl ?_ | refine bv (v := .int _ _) rfl ?_ | refine bv (v := .slice _ _ _) rfl ?_ | refine bv (v := .bool _) rfl ?_ | refine bv (v := .pointer _) rfl ?_ | refine bv (v := .string _) rfl ?_ | refine bv (v := .map _) rfl ?_ | refine bv (v := .func _ _ _) rfl ?_) | ((with_reducible refine gL rfl ?_); refine sh_lit HS.out rfl rfl (by go_simp; exact ⟨⟨rfl, rfl⟩, rfl⟩) ?_)); clear HS; intro g w1 hg HS1; (simp only [Frm.enc, Rep.enc, zeF, segOf, aL, aC, aE] at HS1); have HS := Aside0.mk HS1; clear HS1) | ((with_reducible refine gLd rfl ?_); refine ld2 HS.out rfl rfl rfl (by repeat (first | exact AtI.here | apply AtI.there)) ?_; (first | refine LdK.one ((agT _ (by decide)).trans rfl) rfl ?_ | (refine LdK.agg ((agT _ (by decide)).trans rfl) (szT _ (by decide)) (lb rfl) ?_; try simp only [szL, aP, aN, aT, aZ, aS, aD, aF, aJ, aK, aM, aO]))) | ((with_reducible refine gSt rfl ?_); refine st2 HS.out rfl rfl rfl rfl (by repeat (first | exact AtI.here | apply AtI.there)) ?_; (first | refine sv (u := .agg (List.toArray _)) rfl ?_ | refine sv (u := .int _ _) rfl ?_ | refine sv (u := .slice _ _ _) rfl ?_ | refine sv (u := .bool _) rfl ?_ | refine sv (u := .pointer _) rfl ?_ | refine sv (u := .string _) rfl ?_ | refine sv (u := .map _) rfl ?_ | refine sv (u := .func _ _ _) rfl ?_); refine sw (szT _ (by decide)) rfl (lb rfl) ?_; clear HS; intro w1 HS1; (simp only [Frm.enc, Rep.enc, segOf, aL, aZ, aS, putSeg] at HS1); have HS := Aside0.mk HS1; clear HS1)); try simp only [aP, aN, aT, aZ, aS]))
          go_ret2
          exact HBAD.out _ _ hv rfl HS.out.below
      have e81 : (fk == 81) = false := beq_eq_false_iff_ne.2 h81
      have e66 : (fk == 66) = false := beq_eq_false_iff_ne.2 h66
      have e69 : (fk == 69) = false := beq_eq_false_iff_ne.2 h69
      have hv : ¬ valid ⟨fk, ft⟩ := by unfold valid rFrame; simp [e81, e66, e69]
      clear h81 h66 h69
      go_wp2_with (first | ((with_reducible refine gLd rfl ?_); refine rd_load HRR.out rfl rfl (i := k) rfl hlt default Frm.len ((agT _ (by decide)).trans rfl) (szT _ (by decide)) ?_; intro x hx; obtain rfl := HX.out.symm.trans hx; (try simp only [Frm.enc, Rep.enc, aP, aN, aT, aZ, aS])) | ((first | ((first | ((with_reducible refine gA rfl ?_); refine sh_alloc HS.out rfl rfl (zeT _ (by decide)) ?_) | ((with_reducible refine gB rfl ?_); refine bx HS.out rfl rfl ?_; first | refine bv (v := .agg (List.toArray _)) rfl ?_ | refine bv (v := .int _ _) rfl ?_ | refine bv (v := .slice _ _ _) rfl ?_ | refine bv (v := .bool _) rfl ?_ | refine bv (v := .pointer _) rfl ?_ | refine bv (v := .string _) rfl ?_ | refine bv (v := .map _) rfl ?_ | refine bv (v := .func _ _ _) rfl ?_) | ((with_reducible refine gL rfl ?_); refine sh_lit HS.out rfl rfl (by go_simp; exact ⟨⟨rfl, rfl⟩, rfl⟩) ?_)); clear HS; intro g w1 hg HS1; (simp only [Frm.enc, Rep.enc, zeF, segOf, aL, aC, aE] at HS1); have HS := Aside0.mk HS1; clear HS1) | ((with_reducible refine gLd rfl ?_); refine ld2 HS.out rfl rfl rfl (by repeat (first | exact AtI.here | apply AtI.there)) ?_; (first | refine LdK.one ((agT _ (by decide)).trans rfl) rfl ?_ | (refine LdK.agg ((agT _ (by decide)).trans rfl) (szT _ (by decide)) (lb rfl) ?_; try simp only [szL, aP, aN, aT, aZ, aS, aD, aF, aJ, aK, aM, aO]))) | ((with_reducible refine gSt rfl ?_); refine st2 HS.out rfl rfl rfl rfl (by repeat (first | exact AtI.here | apply AtI.there)) ?_; (first | refine sv (u := .agg (List.toArray _)) rfl ?_ | refine sv (u := .int _ _) rfl ?_ | refine sv (u := .slice _ _ _) rfl ?_ | refine sv (u := .bool _) rfl ?_ | refine sv (u := .pointer _) rfl ?_ | refine sv (u := .string _) rfl ?_ | refine sv (u := .map _) rfl ?_ | refine sv (u := .func _ _ _) rfl ?_); refine sw (szT _ (by decide)) rfl (lb rfl) ?_; clear HS; intro w1 HS1; (simp only [Frm.enc, Rep.enc, segOf, aL, aZ, aS, putSeg] at HS1); have HS := Aside0.mk HS1; clear HS1)); try simp only [aP, aN, aT, aZ, aS]))
      go_ret2
      exact HBAD.out _ _ hv rfl HS.out.below
    · obtain rfl : k = l.length := by omega
      go_wp2_with (first | ((first | ((first | ((with_reducible refine gA rfl ?_); refine sh_alloc HS.out rfl rfl (zeT _ (by decide)) ?_) | ((with_reducible refine gB rfl ?_); refine bx HS.out rfl rfl ?_; first | refine bv (v := .agg (List.toArray _)) rfl ?_ | refine bv (v := .int _ _) rfl ?_ | refine bv (v := .slice _ _ _) rfl ?_ | refine bv (v := .bool _) rfl ?_ | refine bv (v := .pointer _) rfl ?_ | refine bv (v := .string _) rfl ?_ | refine bv (v := .map _) rfl ?_ | refine bv (v := .func _ _ _) rfl ?_) | ((with_reducible refine gL rfl ?_); refine sh_lit HS.out rfl rfl (by go_simp; exact ⟨⟨rfl, rfl⟩, rfl⟩) ?_)); clear HS; intro g w1 hg HS1; (simp only [Frm.enc, Rep.enc, zeF, segOf, aL, aC, aE] at HS1); have HS := Aside0.mk HS1; clear HS1)); try simp only [aP, aN, aT, aZ, aS]))
      go_ret2
      refine .inl ⟨?_, ?_, HS.out.below⟩
      · have := HV.out
        rwa [List.take_length] at this
      · have := HB.out
        rw [List.take_length] at this
        rw [this]
        rfl
end Go.Proofs.Ytkggchahhpmpbaa.Jud
