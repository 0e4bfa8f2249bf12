/- Lemmas towards the law: what of the text DkA it needs. -/
import Derived.Test.YtgcgnhcjjlnloaaDoorDk9q
namespace Go.Proofs.YtgcgnhcjjlnloaaDoor.Dk
open Go.RowKit Go.Proofs.YtgcgnhcjjlnloaaDoorW.PrintWords Go.Proofs.YtgcgnhcjjlnloaaDoor.Sl
set_option linter.unusedVariables false
set_option linter.unusedSimpArgs false
def noText : ByteArray := ⟨#[]⟩
def CrashPost (w0 : World) (F : HP) (gD gM : Nat) (left : Int) (fin : FM) (L : List (Option Addr × List Int)) (S : Nat → Prop) (Bd : Nat) (e : Ending) (w' : World) : Prop := e = .returned (.tuple #[]) ∧ ∃ L', MOk Bd fin L' ∧ (∀ p ∈ L, p ∈ L') ∧ SH w0 w' [blk gD [.map (some gM), .int .i64 left, .bool false, .bool true] 52, mpF gM fin, poolI L' S, F]
theorem drop_consS {l : List ByteArray} {k : Nat} {x : ByteArray} (hk : k < l.length) (hx : l.getD k noText = x) : l.drop k = x :: l.drop (k + 1) := by
  rw [List.drop_eq_getElem_cons hk]
  rw [List.getD_eq_getElem?_getD, List.getElem?_eq_getElem hk, Option.getD_some] at hx
  rw [hx]
theorem rd_tailI {w : World} {ad : Addr} {m c : Nat} {x : Int} {xs : List Int} (h : Rd (ints .i64) 1 w (some ad) (m + 1) (x :: xs)) (hc : m + 1 ≤ c) : Rd (ints .i64) 1 w (if c = 1 then some ad else some { block := ad.block, off := ad.off + 1 }) m xs := by
  have hl : xs.length = m := by have := h.len.1; simpa using this
  by_cases h1 : c = 1
  · obtain rfl : m = 0 := by omega
    exact ⟨hl, by omega, fun h => absurd h (by omega)⟩
  · rw [if_neg h1]
    refine ⟨hl, by have := h.len.2; omega, fun hm => ⟨_, rfl, fun j p hj => ?_⟩⟩
    obtain ⟨a1, ha1, hr⟩ := h.2.2 (by omega)
    injection ha1 with ha1
    subst ha1
    obtain ⟨cs, h1, h2, h3⟩ := hr (j + 1) p (by simpa using hj)
    refine ⟨cs, h1, h2, fun i u hu => ?_⟩
    rw [← h3 i u hu]
    show w.cell? (Addr.add (ad.add 1) (j * 1 + i)) = _
    rw [add_add]
    congr 2
    omega
set_option maxHeartbeats 12800000 in
set_option maxRecDepth 100000 in
theorem crash_any {w0 w : World} {F : HP} (gD gM : Nat) (left : Int) (armed off : Bool) (m : FM) (L : List (Option Addr × List Int)) (S : Nat → Prop) (Bd : Nat) (hm : KeysOk m) (hok : MOk Bd m L) (hBd : Bd ≤ 70368744177664) (K : Option Addr) (nk ck : Nat) (ks : List Int) (hK : ∀ w, Below w0.heap.size w0 w → F.ok w → Rd (ints .i64) 1 w K nk ks) (hck : nk ≤ ck) (HS0 : SH w0 w [blk gD [.map (some gM), .int .i64 left, .bool armed, .bool off] 52, mpF gM m, poolI L S, F]) :
    Calls Tryd.prog 17 #[.pointer (some ⟨gD, 0, none⟩), .slice K nk ck] w (CrashPost w0 F gD gM left (crashM (namesOf m) m ks) L S Bd) := by
  have HS := Aside0.mk HS0
  clear HS0
  have HK0 := Aside0.mk hK
  have HOK0 := Aside0.mk hok
  clear hK hok
  obtain ⟨fin, hfin⟩ : ∃ fin, crashM (namesOf m) m ks = fin := ⟨_, rfl⟩
  rw [hfin]
  have hnl : (namesOf m).length ≤ 1000 := by
    have := hm.len
    unfold namesOf keyL
    rw [List.length_map, List.length_mergeSort, List.length_map]
    exact this
  go_enter Tryd.func17, Tryd.ntmps17
  go_upto_block 0 with (first | (go_at_call 14; (with_reducible refine (names_any gD gM (.int .i64 left) (.bool false) (.bool true) m hm (SH.pack (is := [_, _]) [_, _] HS.out)).mono ?_); rintro e w2 ⟨v, SR, rfl, HS9⟩; clear HS; have HS := Aside0.mk (SH.unpack (is := [_, _, _]) [_, _] (HS9.pick [0, 1, 3, 2] rfl (by decide))); clear HS9; simp only [aC, aE] at HS; obtain ⟨A16, c16, rfl, hc16, _⟩ := row_rd HS.out 2 rfl) | ((first | ((first | ((with_reducible refine gA rfl ?_); refine sh_alloc HS.out rfl rfl (zeT _ (by decide)) ?_) | ((with_reducible refine gB rfl ?_); refine bx HS.out rfl rfl ?_; first | refine bv (v := .agg (List.toArray _)) rfl ?_ | refine bv (v := .int _ _) rfl ?_ | refine bv (v := .slice _ _ _) rfl ?_ | refine bv (v := .bool _) rfl ?_ | refine bv (v := .pointer _) rfl ?_) | ((with_reducible refine gL rfl ?_); refine sh_lit HS.out rfl rfl (by go_simp; exact ⟨⟨rfl, rfl⟩, rfl⟩) ?_)); clear HS; intro g w1 hg HS1; (simp only [zeF, segOf, aL, aC, aE] at HS1); have HS := Aside0.mk HS1; clear HS1) | ((with_reducible refine gLd rfl ?_); refine ld2 HS.out rfl rfl rfl (by repeat (first | exact AtI.here | apply AtI.there)) ?_; (first | refine LdK.one ((agT _ (by decide)).trans rfl) rfl ?_ | (refine LdK.agg ((agT _ (by decide)).trans rfl) (szT _ (by decide)) (lb rfl) ?_; try simp only [szL, aP, aN, aT, aZ, aS, aD, aF, aJ, aK, aM, aO]))) | ((with_reducible refine gSt rfl ?_); refine st2 HS.out rfl rfl rfl rfl (by repeat (first | exact AtI.here | apply AtI.there)) ?_; (first | refine sv (u := .agg (List.toArray _)) rfl ?_ | refine sv (u := .int _ _) rfl ?_ | refine sv (u := .slice _ _ _) rfl ?_ | refine sv (u := .bool _) rfl ?_ | refine sv (u := .pointer _) rfl ?_); refine sw (szT _ (by decide)) rfl (lb rfl) ?_; clear HS; intro w1 HS1; (simp only [segOf, aL, aZ, aS, putSeg] at HS1); have HS := Aside0.mk HS1; clear HS1)); try simp only [aP, aN, aT, aZ, aS]))
  clear hm
  obtain ⟨names, hnames⟩ : ∃ names, namesOf m = names := ⟨_, rfl⟩
  rw [hnames] at HS hfin hnl hc16 ⊢
  clear hnames
  have HFI := Aside0.mk (show crashM (names.drop 0) m ks = fin from hfin)
  clear hfin
  go_wp2
  go_loopw [1, 18] (fun v1 v18 wr => ∃ (k : Nat) (mk : FM) (ksk : List Int) (K' : Option Addr) (nk' ck' : Nat) (Lk : List (Option Addr × List Int)), k ≤ names.length ∧ v18 = .int .i64 k ∧ v1 = .slice K' nk' ck' ∧ nk' ≤ ck' ∧ Aside0 (∀ w, Below w0.heap.size w0 w → F.ok w → Rd (ints .i64) 1 w K' nk' ksk) ∧ Aside0 (MOk Bd mk Lk) ∧ Aside0 (∀ p ∈ L, p ∈ Lk) ∧ Aside0 (crashM (names.drop k) mk ksk = fin) ∧ Aside0 (SH w0 wr [blk gD [.map (some gM), .int .i64 left, .bool false, .bool true] 52, mpF gM mk, row strK 9 (.slice A16 names.length c16) names SR, poolI Lk S, F])) (fun _ v18 _ => names.length - (intOf v18).toNat)
  case atStart => exact ⟨0, m, ks, K, nk, ck, L, Nat.zero_le _, rfl, rfl, hck, HK0, HOK0, ⟨fun p hp => hp⟩, HFI, HS⟩
  case round =>
    clear HS HFI HOK0 HK0 hck
    obtain ⟨k, mk, ksk, K', nk', ck', Lk, hk, rfl, rfl, hck, HKK, HOK, HLL, HFI, HS⟩ := hrel
    by_cases hlt : k < names.length
    · obtain ⟨name, hname⟩ : ∃ name, names.getD k noText = name := ⟨_, rfl⟩
      have HX := Aside0.mk hname
      have hcons := drop_consS hlt hname
      clear hname
      obtain ⟨f, hf⟩ : ∃ f, (mget mk name).getD fi0 = f := ⟨_, rfl⟩
      have hfo := HOK.out.get name
      rw [hf] at hfo
      have hF := HFI.out
      rw [hcons, crashM, hf] at hF
      clear HFI hcons
      obtain ⟨f2, hf2⟩ : ∃ f2, crashF f ksk = f2 := ⟨_, rfl⟩
      obtain ⟨ks2, hks2⟩ : ∃ ks2, crashK f ksk = ks2 := ⟨_, rfl⟩
      rw [hf2, hks2] at hF
      have HFI := Aside0.mk hF
      clear hF
      have HFO := Aside0.mk hfo
      have hsafe := hfo.safe
      have hcap := hfo.cap
      have hsm := hfo.small
      have HMEM := Aside0.mk hfo.mem
      have HF2 := Aside0.mk hf2
      have HKS2 := Aside0.mk hks2
      have HF := Aside0.mk hf
      clear hfo hf2 hks2 hf
      obtain ⟨A, c, xs, safe⟩ := f
      obtain ⟨A2, c2, xs2, safe2⟩ := f2
      simp only at hsafe hcap hsm
      obtain ⟨ad16, rfl⟩ := (row_rds (hl := strs_len) (h1 := strs_one) 2 rfl _ HS.out).addr (by omega)
      have HRN := Aside0.mk (row_rds (hl := strs_len) (h1 := strs_one) 2 rfl _ HS.out)
      have hwr : IntKind.i64.wrap ((xs.length : Int) - (safe : Int)) = (xs.length : Int) - (safe : Int) := by simp [IntKind.wrap, IntKind.bits, IntKind.signed]; omega
      go_upto_if 35 with (first | ((with_reducible refine gLd rfl ?_); refine rd_load1 (enc := Value.string) HRN.out rfl rfl (i := k) rfl hlt noText ((agT _ (by decide)).trans rfl) ?_; intro x hx; obtain rfl := HX.out.symm.trans hx; (try simp only [aP, aN, aT, aZ, aS])) | ((with_reducible refine gLk rfl ?_); refine sh_lookup HS.out rfl rfl rfl 1 rfl name rfl trivial Tryd.underlying50 ownStr (z := fi0) fileZero ?_; (rw [HF.out]; simp only [Fi.enc]; try simp only [aP, aN, aT, aZ, aS])) | ((fail_if_success (have _ := gf)); ((with_reducible refine gA rfl ?_); refine sh_alloc HS.out rfl rfl (zeT _ (by decide)) ?_; clear HS; intro gf w1 hgf HS1; (simp only [zeF, segOf, aL, aC, aE] at HS1); have HS := Aside0.mk HS1; clear HS1; try simp only [aP, aN, aT, aZ, aS])) | ((first | ((first | ((with_reducible refine gA rfl ?_); refine sh_alloc HS.out rfl rfl (zeT _ (by decide)) ?_) | ((with_reducible refine gB rfl ?_); refine bx HS.out rfl rfl ?_; first | refine bv (v := .agg (List.toArray _)) rfl ?_ | refine bv (v := .int _ _) rfl ?_ | refine bv (v := .slice _ _ _) rfl ?_ | refine bv (v := .bool _) rfl ?_ | refine bv (v := .pointer _) rfl ?_) | ((with_reducible refine gL rfl ?_); refine sh_lit HS.out rfl rfl (by go_simp; exact ⟨⟨rfl, rfl⟩, rfl⟩) ?_)); clear HS; intro g w1 hg HS1; (simp only [zeF, segOf, aL, aC, aE] at HS1); have HS := Aside0.mk HS1; clear HS1) | ((with_reducible refine gLd rfl ?_); refine ld2 HS.out rfl rfl rfl (by repeat (first | exact AtI.here | apply AtI.there)) ?_; (first | refine LdK.one ((agT _ (by decide)).trans rfl) rfl ?_ | (refine LdK.agg ((agT _ (by decide)).trans rfl) (szT _ (by decide)) (lb rfl) ?_; try simp only [szL, aP, aN, aT, aZ, aS, aD, aF, aJ, aK, aM, aO]))) | ((with_reducible refine gSt rfl ?_); refine st2 HS.out rfl rfl rfl rfl (by repeat (first | exact AtI.here | apply AtI.there)) ?_; (first | refine sv (u := .agg (List.toArray _)) rfl ?_ | refine sv (u := .int _ _) rfl ?_ | refine sv (u := .slice _ _ _) rfl ?_ | refine sv (u := .bool _) rfl ?_ | refine sv (u := .pointer _) rfl ?_); refine sw (szT _ (by decide)) rfl (lb rfl) ?_; clear HS; intro w1 HS1; (simp only [segOf, aL, aZ, aS, putSeg] at HS1); have HS := Aside0.mk HS1; clear HS1)); try simp only [aP, aN, aT, aZ, aS]))
      go_cut [1] (fun v1 wx => ∃ (K2 : Option Addr) (n2 d2 l2 : Nat) (L2 : List (Option Addr × List Int)), v1 = .slice K2 n2 d2 ∧ n2 ≤ d2 ∧ Aside0 (l2 = xs2.length) ∧ Aside0 (∀ w, Below w0.heap.size w0 w → F.ok w → Rd (ints .i64) 1 w K2 n2 ks2) ∧ Aside0 (FileOk Bd L2 ⟨A2, c2, xs2, safe2⟩) ∧ Aside0 (MOk Bd mk L2) ∧ Aside0 (∀ p ∈ L, p ∈ L2) ∧ Aside0 (SH w0 wx [blk gD [.map (some gM), .int .i64 left, .bool false, .bool true] 52, mpF gM mk, row strK 9 (.slice (some ad16) names.length c16) names SR, poolI L2 S, F, blk gf [.slice A2 l2 c2, .int .i64 safe2] 54]))
      case first =>
        clear HF HX HRN HFI
        by_cases hl : safe < xs.length
        · have hl' : decide ((0 : Int) < (xs.length : Int) - (safe : Int)) = true := by rw [decide_eq_true_eq]; omega
          have hfc := HFO.out.crash ksk
          rw [HF2.out] at hfc
          obtain ⟨n, hn⟩ := Int.eq_ofNat_of_zero_le (kept_pos ksk ((xs.length : Int) - (safe : Int)))
          have hnx : safe + n ≤ xs.length := by
            have := kept_le (ks := ksk) hl
            rw [hn] at this
            simpa using this
          have e1 := HF2.out
          unfold crashF at e1
          rw [if_pos hl] at e1
          simp only [hn, Int.toNat_natCast] at e1
          have e6 := HKS2.out
          unfold crashK at e6
          rw [if_pos hl] at e6
          have HN := Aside0.mk hn
          clear hn
          obtain ⟨s2, hs2⟩ : ∃ s2, safe + n = s2 := ⟨_, rfl⟩
          have hw2 : IntKind.i64.wrap ((safe : Int) + (n : Int)) = ((s2 : Nat) : Int) := by simp [IntKind.wrap, IntKind.bits, IntKind.signed]; omega
          rw [hs2] at e1
          injection e1 with e2 e3 e4 e5
          subst e2 e3 e4 e5 e6
          have HFC := Aside0.mk hfc
          clear hfc
          have hs2x : s2 ≤ xs.length := by omega
          have hs2c : s2 ≤ c := by omega
          clear hs2 hnx
          go_upto_if 38 with (fail)
          go_cut [1, 8] (fun v1 v8 wx => ∃ (K2 : Option Addr) (n2 d2 : Nat), v1 = .slice K2 n2 d2 ∧ v8 = .int .i64 n ∧ n2 ≤ d2 ∧ Aside0 (∀ w, Below w0.heap.size w0 w → F.ok w → Rd (ints .i64) 1 w K2 n2 ksk.tail) ∧ Aside0 (SH w0 wx [blk gD [.map (some gM), .int .i64 left, .bool false, .bool true] 52, mpF gM mk, row strK 9 (.slice (some ad16) names.length c16) names SR, poolI Lk S, F, blk gf [.slice A xs.length c, .int .i64 safe] 54]))
          case first =>
            clear hw2
            have hkl := (HKK.out _ HS.out.below (HS.out.at 4 rfl)).len.1
            cases ksk with
            | nil =>
              obtain rfl : nk' = 0 := by simpa using hkl.symm
              have h9 := HN.out
              obtain rfl : n = 0 := by
                have h8 : kept [] ((xs.length : Int) - (safe : Int)) = 0 := rfl
                omega
              go_wp2_with (fail)
              go_meet
              case rel => exact ⟨K', 0, ck', rfl, rfl, hck, HKK, HS⟩
            | cons k0 kt =>
              obtain ⟨nt, rfl⟩ : ∃ nt, nk' = nt + 1 := ⟨kt.length, by simpa using hkl.symm⟩
              have HKL := Aside0.mk hkl
              clear hkl
              obtain ⟨adK, rfl⟩ := (HKK.out _ HS.out.below (HS.out.at 4 rfl)).addr (by omega)
              have HRQ : Aside0 (∀ w, SH w0 w [blk gD [.map (some gM), .int .i64 left, .bool false, .bool true] 52, mpF gM mk, row strK 9 (.slice (some ad16) names.length c16) names SR, poolI Lk S, F, blk gf [.slice A xs.length c, .int .i64 safe] 54] → Rd (ints .i64) 1 w (some adK) (nt + 1) (k0 :: kt)) := ⟨fun w hs => HKK.out w hs.below (hs.at 4 rfl)⟩
              have HXK := Aside0.mk (show (k0 :: kt).getD 0 0 = k0 from rfl)
              have hg0 : decide ((0 : Int) < ((nt + 1 : Nat) : Int)) = true := by rw [decide_eq_true_eq]; omega
              have hge1 : (1 : Int) ≤ (nt : Int) + 1 := by omega
              go_upto_region 9 with (fail)
              ((with_reducible refine wp_region_sh mixed (by kernel_rfl) HS.out ?_); (repeat' (first | go_big_quiet_skip | ((with_reducible refine qMv rfl ?_); go_big_quiet_step (fail)) | ((with_reducible refine qAs rfl ?_); go_big_quiet_step (fail)) | ((with_reducible refine qPk rfl ?_); go_big_quiet_step (fail)) | ((with_reducible refine qLd rfl ?_); refine q_rd1 (enc := Value.int .i64) HRQ.out rfl rfl (i := 0) rfl (by omega) 0 ((agT _ (by decide)).trans rfl) ?_; intro x hx; obtain rfl := HXK.out.symm.trans hx; (try simp only [aP, aN, aT, aZ, aS])) | ((with_reducible refine qLd rfl ?_); (first | refine q_load rfl rfl rfl 0 rfl ((agT _ (by decide)).trans rfl) rfl ?_); try simp only [aP, aN, aT, aZ, aS]) | ((with_reducible refine qLd rfl ?_); (first | refine q_loads rfl rfl rfl 0 rfl ((agT _ (by decide)).trans rfl) (szT _ (by decide)) (lb rfl) ?_); (try simp only [szL, aP, aN, aT, aZ, aS, aD, aF, aJ, aK, aM, aO])) | ((with_reducible refine qAny ?_); refine q_val rfl (fun w hs => by (repeat (rename ∀ (_ : Act) (_ : World), _ => hK9; clear hK9)); go_simp; rfl) ?_; try simp only [aP, aN, aT, aZ, aS]))); all_goals (refine wpQuiet_nil ?_; clear HS; intro w1 HS1; have HS := Aside0.mk HS1; clear HS1))
              have HKT : Aside0 (∀ w, Below w0.heap.size w0 w → F.ok w → Rd (ints .i64) 1 w (if ck' = 1 then some adK else some { block := adK.block, off := adK.off + 1 }) nt kt) := ⟨fun w hb h => rd_tailI (HKK.out w hb h) hck⟩
              generalize (if ck' = 1 then some adK else some { block := adK.block, off := adK.off + 1 }) = KT at HKT ⊢
              go_wp2
              go_meet
              case rel =>
                refine ⟨KT, nt, ck' - 1, rfl, ?_, by omega, HKT, HS⟩
                exact congrArg (Value.int .i64) HN.out
          case rest =>
            clear HS HKK hck
            obtain ⟨K2, n2, d2, rfl, rfl, hck, HKK, HS⟩ := hcut
            go_wp2_with (first | ((first | ((first | ((with_reducible refine gA rfl ?_); refine sh_alloc HS.out rfl rfl (zeT _ (by decide)) ?_) | ((with_reducible refine gB rfl ?_); refine bx HS.out rfl rfl ?_; first | refine bv (v := .agg (List.toArray _)) rfl ?_ | refine bv (v := .int _ _) rfl ?_ | refine bv (v := .slice _ _ _) rfl ?_ | refine bv (v := .bool _) rfl ?_ | refine bv (v := .pointer _) rfl ?_) | ((with_reducible refine gL rfl ?_); refine sh_lit HS.out rfl rfl (by go_simp; exact ⟨⟨rfl, rfl⟩, rfl⟩) ?_)); clear HS; intro g w1 hg HS1; (simp only [zeF, segOf, aL, aC, aE] at HS1); have HS := Aside0.mk HS1; clear HS1) | ((with_reducible refine gLd rfl ?_); refine ld2 HS.out rfl rfl rfl (by repeat (first | exact AtI.here | apply AtI.there)) ?_; (first | refine LdK.one ((agT _ (by decide)).trans rfl) rfl ?_ | (refine LdK.agg ((agT _ (by decide)).trans rfl) (szT _ (by decide)) (lb rfl) ?_; try simp only [szL, aP, aN, aT, aZ, aS, aD, aF, aJ, aK, aM, aO]))) | ((with_reducible refine gSt rfl ?_); refine st2 HS.out rfl rfl rfl rfl (by repeat (first | exact AtI.here | apply AtI.there)) ?_; (first | refine sv (u := .agg (List.toArray _)) rfl ?_ | refine sv (u := .int _ _) rfl ?_ | refine sv (u := .slice _ _ _) rfl ?_ | refine sv (u := .bool _) rfl ?_ | refine sv (u := .pointer _) rfl ?_); refine sw (szT _ (by decide)) rfl (lb rfl) ?_; clear HS; intro w1 HS1; (simp only [segOf, aL, aZ, aS, putSeg] at HS1); have HS := Aside0.mk HS1; clear HS1)); try simp only [aP, aN, aT, aZ, aS]))
            go_meet
            case rel => exact ⟨K2, n2, d2, s2, (A, xs.take s2) :: Lk, rfl, hck, ⟨by rw [List.length_take]; omega⟩, HKK, HFC, ⟨HOK.out.more (fun p hp => List.mem_cons_of_mem _ hp)⟩, ⟨fun p hp => List.mem_cons_of_mem _ (HLL.out p hp)⟩, ⟨pool_pre HS.out 3 rfl HMEM.out s2 hs2x⟩⟩
        · have hl' : decide ((0 : Int) < (xs.length : Int) - (safe : Int)) = false := by rw [decide_eq_false_iff_not]; omega
          have e1 := HF2.out
          unfold crashF at e1
          rw [if_neg hl] at e1
          injection e1 with e2 e3 e4 e5
          subst e2 e3 e4 e5
          have e6 := HKS2.out
          unfold crashK at e6
          rw [if_neg hl] at e6
          subst e6
          go_wp2_with (fail)
          go_meet
          case rel => exact ⟨K', nk', ck', _, Lk, rfl, hck, ⟨rfl⟩, HKK, HFO, HOK, HLL, HS⟩
      case rest =>
        clear HS HF HRN HX HKK HOK HLL HFO HMEM hck
        obtain ⟨K2, n2, d2, l2, L2, rfl, hck, HL2, HKK, HFO, HOK, HLL, HS⟩ := hcut
        obtain rfl := HL2.out
        go_upto_region 12 with (fail)
        have HC := Aside0.mk (HS.out.pick [0, 5] rfl (by decide))
        refine kheld_start [] mixed HC.out (fun HC1 => ?_)
        have HS1 := HS.out.drew
        clear HS HC
        have HS := Aside0.mk HS1
        have HC := Aside0.mk HC1
        clear HS1 HC1
        refine k_any 0 (v := _) (by simp only [aG, aH, aI]; rfl) (by kernel_rfl) (by kernel_rfl) (by kernel_rfl) (by kernel_rfl) (by exact fun _ _ _ h => h) (.inr HC.out) (by kernel_rfl) (fun w => by (repeat (rename ∀ (_ : Act) (_ : World), _ => hK9; clear hK9)); go_simp; rfl) ?_
        (try simp only [aP, aN, aT, aZ, aS])
        refine k_any 1 (v := _) (by simp only [aG, aH, aI]; rfl) (by kernel_rfl) (by kernel_rfl) (by kernel_rfl) (by kernel_rfl) (by exact fun _ _ _ h => h) (.inr HC.out) (by kernel_rfl) (fun w => by (repeat (rename ∀ (_ : Act) (_ : World), _ => hK9; clear hK9)); go_simp; rfl) ?_
        (try simp only [aP, aN, aT, aZ, aS])
        refine k_any 2 (v := _) (by simp only [aG, aH, aI]; rfl) (by kernel_rfl) (by kernel_rfl) (by kernel_rfl) (by kernel_rfl) (by exact fun _ _ _ h => h) (.inr HC.out) (by kernel_rfl) (fun w => by (repeat (rename ∀ (_ : Act) (_ : World), _ => hK9; clear hK9)); go_simp; rfl) ?_
        (try simp only [aP, aN, aT, aZ, aS])
        refine k_load 3 (by simp only [aG, aH, aI]; rfl) (by kernel_rfl) (by kernel_rfl) (by kernel_rfl) (by kernel_rfl) (by exact fun _ _ _ h => h) HC.out (by kernel_rfl) rfl rfl 0 rfl ((agT _ (by decide)).trans rfl) rfl ?_
        (try simp only [aP, aN, aT, aZ, aS])
        refine k_any 4 (v := _) (by simp only [aG, aH, aI]; rfl) (by kernel_rfl) (by kernel_rfl) (by kernel_rfl) (by kernel_rfl) (by exact fun _ _ _ h => h) (.inr HC.out) (by kernel_rfl) (fun w => by (repeat (rename ∀ (_ : Act) (_ : World), _ => hK9; clear hK9)); go_simp; rfl) ?_
        (try simp only [aP, aN, aT, aZ, aS])
        refine k_loads 5 (by simp only [aG, aH, aI]; rfl) (by kernel_rfl) (by kernel_rfl) (by kernel_rfl) (by kernel_rfl) (v := _) (by exact fun _ _ _ h => h) HC.out (by kernel_rfl) rfl rfl 1 rfl ((agT _ (by decide)).trans rfl) (szT _ (by decide)) (lb rfl) rfl ?_
        (try simp only [szL, aP, aN, aT, aZ, aS, aD, aF, aJ, aK, aM, aO])
        (try simp only [aP, aN, aT, aZ, aS])
        refine k_one 6 (by simp only [aG, aH, aI]; rfl) (by kernel_rfl) ?_
        ((with_reducible refine gMu rfl ?_); refine sh_update HS.out rfl rfl rfl rfl 1 rfl name rfl trivial (Fi.mk A2 c2 xs2 safe2) rfl Tryd.underlying50 ownStr ?_; clear HS; intro w1 HS1; (simp only [aZ, aS] at HS1); have HS := Aside0.mk HS1; clear HS1; try simp only [aP, aN, aT, aZ, aS])
        have HC1 := HS.out.pick [0, 5] rfl (by decide)
        clear HC
        have HC := Aside0.mk HC1
        clear HC1
        refine k_nil (.inr HC.out) ?_
        (try simp only [aP, aN, aT, aZ, aS])
        refine k_done (by kernel_rfl) ?_ _
        by_cases h0 : xs2.length = 0
        · have h0' : (((xs2.length : Nat) : Int) == 0) = true := by rw [beq_iff_eq]; omega
          have HC1 := Aside0.mk (show crash1 mk name ⟨A2, c2, xs2, safe2⟩ = mdel (mput mk name ⟨A2, c2, xs2, safe2⟩) name by unfold crash1; rw [if_pos h0])
          have H0 := Aside0.mk h0
          clear h0
          go_wp2_with (first | ((with_reducible refine gC (b := .delete) rfl ?_); refine sh_delete HS.out rfl rfl rfl 1 rfl name rfl trivial Tryd.underlying50 ownStr ?_; clear HS; intro w1 HS1; (simp only [aZ, aS] at HS1); have HS := Aside0.mk HS1; clear HS1; try simp only [aP, aN, aT, aZ, aS]) | ((first | ((first | ((with_reducible refine gA rfl ?_); refine sh_alloc HS.out rfl rfl (zeT _ (by decide)) ?_) | ((with_reducible refine gB rfl ?_); refine bx HS.out rfl rfl ?_; first | refine bv (v := .agg (List.toArray _)) rfl ?_ | refine bv (v := .int _ _) rfl ?_ | refine bv (v := .slice _ _ _) rfl ?_ | refine bv (v := .bool _) rfl ?_ | refine bv (v := .pointer _) rfl ?_) | ((with_reducible refine gL rfl ?_); refine sh_lit HS.out rfl rfl (by go_simp; exact ⟨⟨rfl, rfl⟩, rfl⟩) ?_)); clear HS; intro g w1 hg HS1; (simp only [zeF, segOf, aL, aC, aE] at HS1); have HS := Aside0.mk HS1; clear HS1) | ((with_reducible refine gLd rfl ?_); refine ld2 HS.out rfl rfl rfl (by repeat (first | exact AtI.here | apply AtI.there)) ?_; (first | refine LdK.one ((agT _ (by decide)).trans rfl) rfl ?_ | (refine LdK.agg ((agT _ (by decide)).trans rfl) (szT _ (by decide)) (lb rfl) ?_; try simp only [szL, aP, aN, aT, aZ, aS, aD, aF, aJ, aK, aM, aO]))) | ((with_reducible refine gSt rfl ?_); refine st2 HS.out rfl rfl rfl rfl (by repeat (first | exact AtI.here | apply AtI.there)) ?_; (first | refine sv (u := .agg (List.toArray _)) rfl ?_ | refine sv (u := .int _ _) rfl ?_ | refine sv (u := .slice _ _ _) rfl ?_ | refine sv (u := .bool _) rfl ?_ | refine sv (u := .pointer _) rfl ?_); refine sw (szT _ (by decide)) rfl (lb rfl) ?_; clear HS; intro w1 HS1; (simp only [segOf, aL, aZ, aS, putSeg] at HS1); have HS := Aside0.mk HS1; clear HS1)); try simp only [aP, aN, aT, aZ, aS]))
          go_roundw
          case rel =>
            refine ⟨k + 1, crash1 mk name ⟨A2, c2, xs2, safe2⟩, ks2, K2, n2, d2, L2, by omega, by go_num, rfl, hck, HKK, ⟨HOK.out.crash1 HFO.out⟩, HLL, HFI, ?_⟩
            rw [HC1.out]
            exact ⟨HS.out.pick [0, 1, 2, 3, 4] rfl (by decide)⟩
          case measure => simp [intOf]; omega
        · have h0' : (((xs2.length : Nat) : Int) == 0) = false := by rw [beq_eq_false_iff_ne]; omega
          have HC1 := Aside0.mk (show crash1 mk name ⟨A2, c2, xs2, safe2⟩ = mput mk name ⟨A2, c2, xs2, safe2⟩ by unfold crash1; rw [if_neg h0])
          go_wp2_with (first | ((first | ((first | ((with_reducible refine gA rfl ?_); refine sh_alloc HS.out rfl rfl (zeT _ (by decide)) ?_) | ((with_reducible refine gB rfl ?_); refine bx HS.out rfl rfl ?_; first | refine bv (v := .agg (List.toArray _)) rfl ?_ | refine bv (v := .int _ _) rfl ?_ | refine bv (v := .slice _ _ _) rfl ?_ | refine bv (v := .bool _) rfl ?_ | refine bv (v := .pointer _) rfl ?_) | ((with_reducible refine gL rfl ?_); refine sh_lit HS.out rfl rfl (by go_simp; exact ⟨⟨rfl, rfl⟩, rfl⟩) ?_)); clear HS; intro g w1 hg HS1; (simp only [zeF, segOf, aL, aC, aE] at HS1); have HS := Aside0.mk HS1; clear HS1) | ((with_reducible refine gLd rfl ?_); refine ld2 HS.out rfl rfl rfl (by repeat (first | exact AtI.here | apply AtI.there)) ?_; (first | refine LdK.one ((agT _ (by decide)).trans rfl) rfl ?_ | (refine LdK.agg ((agT _ (by decide)).trans rfl) (szT _ (by decide)) (lb rfl) ?_; try simp only [szL, aP, aN, aT, aZ, aS, aD, aF, aJ, aK, aM, aO]))) | ((with_reducible refine gSt rfl ?_); refine st2 HS.out rfl rfl rfl rfl (by repeat (first | exact AtI.here | apply AtI.there)) ?_; (first | refine sv (u := .agg (List.toArray _)) rfl ?_ | refine sv (u := .int _ _) rfl ?_ | refine sv (u := .slice _ _ _) rfl ?_ | refine sv (u := .bool _) rfl ?_ | refine sv (u := .pointer _) rfl ?_); refine sw (szT _ (by decide)) rfl (lb rfl) ?_; clear HS; intro w1 HS1; (simp only [segOf, aL, aZ, aS, putSeg] at HS1); have HS := Aside0.mk HS1; clear HS1)); try simp only [aP, aN, aT, aZ, aS]))
          go_roundw
          case rel =>
            refine ⟨k + 1, crash1 mk name ⟨A2, c2, xs2, safe2⟩, ks2, K2, n2, d2, L2, by omega, by go_num, rfl, hck, HKK, ⟨HOK.out.crash1 HFO.out⟩, HLL, HFI, ?_⟩
            rw [HC1.out]
            exact ⟨HS.out.pick [0, 1, 2, 3, 4] rfl (by decide)⟩
          case measure => simp [intOf]; omega
    · obtain rfl : k = names.length := by omega
      go_wp2
      go_end0
      have h := HFI.out
      rw [List.drop_length] at h
      obtain rfl : mk = fin := h
      exact ⟨rfl, Lk, HOK.out, HLL.out, HS.out.pick [0, 1, 3, 4] rfl (by decide)⟩
end Go.Proofs.YtgcgnhcjjlnloaaDoor.Dk
