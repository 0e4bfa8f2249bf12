/- Lemmas towards the law: what of the text DkI it needs. -/
import Derived.Test.YtgcgnhcjjlnloaaDoorDkHq
import Derived.Test.YtgcgnhcjjlnloaaDoorDkI0q
namespace Go.Proofs.YtgcgnhcjjlnloaaDoor.Dk
open Go.RowKit Go.Proofs.YtgcgnhcjjlnloaaDoorW.PrintWords Go.Proofs.YtgcgnhcjjlnloaaDoor.Sl
set_option linter.unusedVariables false
set_option linter.unusedSimpArgs false
open Classical in
theorem keys_wz {α : Type} {m : FM} {nl : List ByteArray} {f : Fi → α} {mw : List (ByteArray × α)} {k : Nat} {nm : ByteArray} {g : Fi} (hk : k < nl.length) (hnm : nl.getD k noText = nm) (hg : mget m nm = some g) (h : ∀ n, mget mw n = if n ∈ nl.take k then (mget m n).map f else none) : ∀ n, mget (mput mw nm (f g)) n = if n ∈ nl.take (k + 1) then (mget m n).map f else none := by
  intro n
  rw [List.getD_eq_getElem?_getD, List.getElem?_eq_getElem hk, Option.getD_some] at hnm
  rw [mget_put, List.take_succ_eq_append_getElem hk, hnm]
  by_cases e : nm = n
  · subst e
    rw [if_pos rfl, if_pos (by simp), hg]
    rfl
  · rw [if_neg e, h n]
    have : n ∈ nl.take k ++ [nm] ↔ n ∈ nl.take k := by
      rw [List.mem_append, List.mem_singleton]
      exact ⟨fun h => h.elim id (fun h => absurd h.symm e), .inl⟩
    by_cases h1 : n ∈ nl.take k
    · rw [if_pos h1, if_pos (this.2 h1)]
    · rw [if_neg h1, if_neg (fun hh => h1 (this.1 hh))]
open Classical in
theorem del_w {α : Type} {m : FM} {nl : List ByteArray} {f : Fi → α} {mw : List (ByteArray × α)} {k : Nat} {nm : ByteArray} (hk : k < nl.length) (hnm : nl.getD k noText = nm) (hnd : (keysOf mw).Nodup) (h : ∀ n, mget mw n = if n ∈ nl.take k then none else (mget m n).map f) : ∀ n, mget (mdel mw nm) n = if n ∈ nl.take (k + 1) then none else (mget m n).map f := by
  intro n
  rw [List.getD_eq_getElem?_getD, List.getElem?_eq_getElem hk, Option.getD_some] at hnm
  rw [mget_del _ _ _ hnd, List.take_succ_eq_append_getElem hk, hnm]
  by_cases e : nm = n
  · subst e
    rw [if_pos rfl, if_pos (by simp)]
  · rw [if_neg e, h n]
    have : n ∈ nl.take k ++ [nm] ↔ n ∈ nl.take k := by
      rw [List.mem_append, List.mem_singleton]
      exact ⟨fun h => h.elim id (fun h => absurd h.symm e), .inl⟩
    by_cases h1 : n ∈ nl.take k
    · rw [if_pos h1, if_pos (this.2 h1)]
    · rw [if_neg h1, if_neg (fun hh => h1 (this.1 hh))]
theorem not_take {nl : List ByteArray} {k : Nat} {nm : ByteArray} (hk : k < nl.length) (hnm : nl.getD k noText = nm) (hnd : nl.Nodup) : nm ∉ nl.take k := by
  rw [List.getD_eq_getElem?_getD, List.getElem?_eq_getElem hk, Option.getD_some] at hnm
  intro h
  obtain ⟨j, hj, e⟩ := List.getElem_of_mem h
  rw [List.length_take] at hj
  rw [List.getElem_take, ← hnm] at e
  have h3 := List.pairwise_iff_getElem.1 hnd j k (by omega) hk (by omega)
  exact h3 e
open Classical in
set_option maxHeartbeats 25600000 in
set_option maxRecDepth 100000 in
theorem lawSafe_any (A0 : Option Addr) (cA : Nat) (l : List Op1) (K0 : Option Addr) (nk0 ck0 : Nat) (ks : List Int) (w : World) {N : Nat} (hr : Rd Op1.enc 5 w A0 N l) (hok : ∀ y ∈ l, y.okW w) (hrk : Rd (ints .i64) 1 w K0 nk0 ks) (hck0 : nk0 ≤ ck0) :
    Calls Tryd.prog 5 #[.slice A0 N cA, .slice K0 nk0 ck0] w (fun e w' => e = .returned (.bool true) ∧ Below w.heap.size w w') := by
  obtain rfl := hr.len.1
  have HR := Aside0.mk hr
  have HOKW := Aside0.mk hok
  have HRK0 := Aside0.mk hrk
  clear hr hok hrk
  have HS := Aside0.mk (SH.start w)
  go_enter Tryd.func5, Tryd.ntmps5
  go_upto_region 3 with (first | (go_at_call 6; (with_reducible refine (live_any _).mono ?_); rintro e w2 ⟨rfl, hb⟩;  have HS1 := HS.out.quiet hb; clear HS hb; have HS := Aside0.mk HS1; clear HS1) | (go_at_call 7; (with_reducible refine (new_any _).mono ?_); rintro e w2 ⟨gD, gM, rfl, HS9⟩; have HS8 := pool_new (HS.out.call HS9); clear HS9 HS; have HS := Aside0.mk HS8; clear HS8; simp only [aC, aE] at HS))
  by_cases h100 : 100 < l.length
  · have h100' : decide ((100 : Int) < (l.length : Int)) = true := by rw [decide_eq_true_eq]; omega
    go_wp2
    go_ret
    exact ⟨rfl, HS.out.below⟩
  · have h100' : decide ((100 : Int) < (l.length : Int)) = false := by rw [decide_eq_false_iff_not]; omega
    go_wp2
    go_loopw [38] (fun v38 wr => ∃ (k : Nat) (left : Int) (m : FM) (L : List (Option Addr × List Int)) (S : Nat → Prop), k ≤ l.length ∧ v38 = .int .i64 k ∧ Aside0 (DOk (k * 10000) left false m L) ∧ Aside0 (SH w wr [blk gD [.map (some gM), .int .i64 left, .bool false, .bool false] 52, mpF gM m, poolI L S])) (fun v38 _ => l.length - (intOf v38).toNat)
    case atStart => exact ⟨0, 0, [], L0, _, Nat.zero_le _, rfl, ⟨DOk.start⟩, HS⟩
    case round =>
      clear HS h100'
      obtain ⟨k, left, m, L, S, hk, rfl, HD, HS⟩ := hrel
      by_cases hlt : k < l.length
      · obtain ⟨ad, rfl⟩ := HR.out.addr (by omega)
        have HRR := Aside0.mk (HR.out.sh HS.out)
        obtain ⟨o, ho⟩ : ∃ o, l.getD k default = o := ⟨_, rfl⟩
        have HX := Aside0.mk ho
        have HOW := Aside0.mk (show o.okW w from HOKW.out o (by rw [← ho, List.getD_eq_getElem?_getD, List.getElem?_eq_getElem hlt, Option.getD_some]; exact List.getElem_mem _))
        clear ho
        obtain ⟨dd, on, name, b, K, nk, ck, keep⟩ := o
        by_cases hdd : dd ≤ 3
        · have hdd' : decide (dd ≤ 3) = true := decide_eq_true hdd
          by_cases hb : b.size ≤ 10000
          · have hb' : decide ((b.size : Int) ≤ (10000 : Int)) = true := by rw [decide_eq_true_eq]; omega
            go_upto_region 9 with (first | ((with_reducible refine gLd rfl ?_); refine rd_load HRR.out rfl rfl (i := k) rfl hlt default Op1.len ((agT _ (by decide)).trans rfl) (szT _ (by decide)) ?_; intro x hx; obtain rfl := HX.out.symm.trans hx; (try simp only [Op1.enc, aP, aN, aT, aZ, aS])) | ((fail_if_success (have _ := go)); ((with_reducible refine gA rfl ?_); refine sh_alloc HS.out rfl rfl (zeT _ (by decide)) ?_; clear HS; intro go w1 hgo HS1; (simp only [Op1.enc, zeF, segOf, aL, aC, aE] at HS1); have HS := Aside0.mk HS1; clear HS1; try simp only [aP, aN, aT, aZ, aS])) | ((first | ((first | ((with_reducible refine gA rfl ?_); refine sh_alloc HS.out rfl rfl (zeT _ (by decide)) ?_) | ((with_reducible refine gB rfl ?_); refine bx HS.out rfl rfl ?_; first | refine bv (v := .agg (List.toArray _)) rfl ?_ | refine bv (v := .int _ _) rfl ?_ | refine bv (v := .slice _ _ _) rfl ?_ | refine bv (v := .bool _) rfl ?_ | refine bv (v := .pointer _) rfl ?_ | refine bv (v := .string _) rfl ?_ | refine bv (v := .map _) rfl ?_ | refine bv (v := .func _ _ _) rfl ?_) | ((with_reducible refine gL rfl ?_); refine sh_lit HS.out rfl rfl (by go_simp; exact ⟨⟨rfl, rfl⟩, rfl⟩) ?_)); clear HS; intro g w1 hg HS1; (simp only [Op1.enc, zeF, segOf, aL, aC, aE] at HS1); have HS := Aside0.mk HS1; clear HS1) | ((with_reducible refine gLd rfl ?_); refine ld2 HS.out rfl rfl rfl (by repeat (first | exact AtI.here | apply AtI.there)) ?_; (first | refine LdK.one ((agT _ (by decide)).trans rfl) rfl ?_ | (refine LdK.agg ((agT _ (by decide)).trans rfl) (szT _ (by decide)) (lb rfl) ?_; try simp only [szL, aP, aN, aT, aZ, aS, aD, aF, aJ, aK, aM, aO]))) | ((with_reducible refine gSt rfl ?_); refine st2 HS.out rfl rfl rfl rfl (by repeat (first | exact AtI.here | apply AtI.there)) ?_; (first | refine sv (u := .agg (List.toArray _)) rfl ?_ | refine sv (u := .int _ _) rfl ?_ | refine sv (u := .slice _ _ _) rfl ?_ | refine sv (u := .bool _) rfl ?_ | refine sv (u := .pointer _) rfl ?_ | refine sv (u := .string _) rfl ?_ | refine sv (u := .map _) rfl ?_ | refine sv (u := .func _ _ _) rfl ?_); refine sw (szT _ (by decide)) rfl (lb rfl) ?_; clear HS; intro w1 HS1; (simp only [Op1.enc, segOf, aL, aZ, aS, putSeg] at HS1); have HS := Aside0.mk HS1; clear HS1)); try simp only [aP, aN, aT, aZ, aS]))
            have HB := Aside0.mk hb
            have HDD := Aside0.mk hdd
            clear hb hb' hdd hdd'
            have HC := Aside0.mk (HS.out.pick [3] rfl (by decide))
            refine held_start mixed HC.out (fun HC1 => ?_)
            have HS1 := HS.out.drew
            clear HS HC
            have HS := Aside0.mk HS1
            have HC := Aside0.mk HC1
            clear HS1 HC1
            refine h_val 0 (v := _) (by simp only [aG, aH, aI]; rfl) (by kernel_rfl) (by kernel_rfl) (by kernel_rfl) (by exact fun _ _ _ h => h) HC.out (by kernel_rfl) (fun w hs => by (repeat (rename ∀ (_ : Act) (_ : World), _ => hK9; clear hK9)); go_simp; rfl) ?_
            (try simp only [aP, aN, aT, aZ, aS])
            refine h_loads 2 (by simp only [aG, aH, aI]; rfl) (by kernel_rfl) (by kernel_rfl) (by kernel_rfl) (v := _) (by exact fun _ _ _ h => h) HC.out (by kernel_rfl) rfl rfl 0 rfl ((agT _ (by decide)).trans rfl) (szT _ (by decide)) (lb rfl) rfl ?_
            (try simp only [szL, aP, aN, aT, aZ, aS, aD, aF, aJ, aK, aM, aO])
            (try simp only [aP, aN, aT, aZ, aS])
            refine h_call 1 (by simp only [aG, aH, aI]; rfl) (by kernel_rfl) (by kernel_rfl) rfl (vs := #[]) (by kernel_rfl) (fnT _ (by decide)) (rnew_any _) (fun e w2 hpost => ?_); obtain ⟨gX, rfl, HS9⟩ := hpost; have HS3 := (show SH w w2 [blk gD [.map (some gM), .int .i64 left, .bool false, .bool false] 52, mpF gM m, poolI L S, blk go [.int .i64 dd, .int .i64 on, .string name, .string b, .slice K nk ck] 29, blk gX [.slice none 0 0, .int .i64 (-1), .bool false] 60, row rfK 65 (.slice none 0 0) [] (fun _ => False)] from HS.out.call HS9); have HC1 := HS3.pick [3] rfl (by decide); refine ⟨_, rfl, HC1, ?_⟩; clear HS HC HS9; have HS := Aside0.mk HS3; have HC := Aside0.mk HC1; clear HS3 HC1
            (try simp only [aP, aN, aT, aZ, aS])
            refine h_call 3 (by simp only [aG, aH, aI]; rfl) (by kernel_rfl) (by kernel_rfl) rfl (vs := #[.pointer (some ⟨gD, 0, none⟩), .pointer (some ⟨gX, 0, none⟩), .agg #[.int .i64 dd, .int .i64 on, .string name, .string b, .slice K nk ck]]) (by kernel_rfl) (fnT _ (by decide)) (do_any (G := blk go [.int .i64 dd, .int .i64 on, .string name, .string b, .slice K nk ck] 29) gD gM gX (k * 10000) left false false m L S ⟨[], -1, false⟩ none 0 (fun _ => False) dd on name b K nk ck keep HD.out (XOk.start _) (by omega) HB.out HOW.out.nm HOW.out.n (fun w9 hb9 _ => HOW.out.rd.below hb9) HOW.out.cap (HS.out.pick [0, 1, 2, 4, 5, 3] rfl (by decide))) (fun e w2 hpost => ?_); obtain ⟨gD2, gM2, left2, armed2, off2, m2, L2, S2, x2, r2, A2, c2, SR2, rfl, hd2, hx2, hlk2, hkeep, HS9⟩ := hpost; obtain ⟨rfl, rfl, hk3⟩ := hkeep HDD.out; obtain ⟨rfl, rfl⟩ := hk3 rfl rfl; have HC1 := HS9.pick [5] rfl (by decide); refine ⟨_, rfl, HC1, ?_⟩; clear HS HC HD hlk2 hk3 hkeep hx2; have HS := Aside0.mk HS9; have HC := Aside0.mk HC1; have HD := Aside0.mk hd2; clear HS9 HC1 hd2
            (try simp only [aP, aN, aT, aZ, aS])
            refine wpAnyH_done (by kernel_rfl) ?_ _
            go_wp2
            go_roundw
            case rel => exact ⟨k + 1, left2, m2, L2, S2, by omega, by go_num, ⟨HD.out.up (by omega)⟩, ⟨HS.out.pick [0, 1, 2] rfl (by decide)⟩⟩
            case measure => simp [intOf]; omega
          · have hb' : decide ((b.size : Int) ≤ (10000 : Int)) = false := by rw [decide_eq_false_iff_not]; omega
            go_wp2_with (first | ((with_reducible refine gLd rfl ?_); refine rd_load HRR.out rfl rfl (i := k) rfl hlt default Op1.len ((agT _ (by decide)).trans rfl) (szT _ (by decide)) ?_; intro x hx; obtain rfl := HX.out.symm.trans hx; (try simp only [Op1.enc, aP, aN, aT, aZ, aS])) | ((fail_if_success (have _ := go)); ((with_reducible refine gA rfl ?_); refine sh_alloc HS.out rfl rfl (zeT _ (by decide)) ?_; clear HS; intro go w1 hgo HS1; (simp only [Op1.enc, zeF, segOf, aL, aC, aE] at HS1); have HS := Aside0.mk HS1; clear HS1; try simp only [aP, aN, aT, aZ, aS])) | ((first | ((first | ((with_reducible refine gA rfl ?_); refine sh_alloc HS.out rfl rfl (zeT _ (by decide)) ?_) | ((with_reducible refine gB rfl ?_); refine bx HS.out rfl rfl ?_; first | refine bv (v := .agg (List.toArray _)) rfl ?_ | refine bv (v := .int _ _) rfl ?_ | refine bv (v := .slice _ _ _) rfl ?_ | refine bv (v := .bool _) rfl ?_ | refine bv (v := .pointer _) rfl ?_ | refine bv (v := .string _) rfl ?_ | refine bv (v := .map _) rfl ?_ | refine bv (v := .func _ _ _) rfl ?_) | ((with_reducible refine gL rfl ?_); refine sh_lit HS.out rfl rfl (by go_simp; exact ⟨⟨rfl, rfl⟩, rfl⟩) ?_)); clear HS; intro g w1 hg HS1; (simp only [Op1.enc, zeF, segOf, aL, aC, aE] at HS1); have HS := Aside0.mk HS1; clear HS1) | ((with_reducible refine gLd rfl ?_); refine ld2 HS.out rfl rfl rfl (by repeat (first | exact AtI.here | apply AtI.there)) ?_; (first | refine LdK.one ((agT _ (by decide)).trans rfl) rfl ?_ | (refine LdK.agg ((agT _ (by decide)).trans rfl) (szT _ (by decide)) (lb rfl) ?_; try simp only [szL, aP, aN, aT, aZ, aS, aD, aF, aJ, aK, aM, aO]))) | ((with_reducible refine gSt rfl ?_); refine st2 HS.out rfl rfl rfl rfl (by repeat (first | exact AtI.here | apply AtI.there)) ?_; (first | refine sv (u := .agg (List.toArray _)) rfl ?_ | refine sv (u := .int _ _) rfl ?_ | refine sv (u := .slice _ _ _) rfl ?_ | refine sv (u := .bool _) rfl ?_ | refine sv (u := .pointer _) rfl ?_ | refine sv (u := .string _) rfl ?_ | refine sv (u := .map _) rfl ?_ | refine sv (u := .func _ _ _) rfl ?_); refine sw (szT _ (by decide)) rfl (lb rfl) ?_; clear HS; intro w1 HS1; (simp only [Op1.enc, segOf, aL, aZ, aS, putSeg] at HS1); have HS := Aside0.mk HS1; clear HS1)); try simp only [aP, aN, aT, aZ, aS]))
            go_roundw
            case rel => exact ⟨k + 1, left, m, L, S, by omega, by go_num, ⟨HD.out.up (by omega)⟩, ⟨HS.out.pick [0, 1, 2] rfl (by decide)⟩⟩
            case measure => simp [intOf]; omega
        · have hdd' : decide (dd ≤ 3) = false := decide_eq_false hdd
          go_wp2_with (first | ((with_reducible refine gLd rfl ?_); refine rd_load HRR.out rfl rfl (i := k) rfl hlt default Op1.len ((agT _ (by decide)).trans rfl) (szT _ (by decide)) ?_; intro x hx; obtain rfl := HX.out.symm.trans hx; (try simp only [Op1.enc, aP, aN, aT, aZ, aS])) | ((fail_if_success (have _ := go)); ((with_reducible refine gA rfl ?_); refine sh_alloc HS.out rfl rfl (zeT _ (by decide)) ?_; clear HS; intro go w1 hgo HS1; (simp only [Op1.enc, zeF, segOf, aL, aC, aE] at HS1); have HS := Aside0.mk HS1; clear HS1; try simp only [aP, aN, aT, aZ, aS])) | ((first | ((first | ((with_reducible refine gA rfl ?_); refine sh_alloc HS.out rfl rfl (zeT _ (by decide)) ?_) | ((with_reducible refine gB rfl ?_); refine bx HS.out rfl rfl ?_; first | refine bv (v := .agg (List.toArray _)) rfl ?_ | refine bv (v := .int _ _) rfl ?_ | refine bv (v := .slice _ _ _) rfl ?_ | refine bv (v := .bool _) rfl ?_ | refine bv (v := .pointer _) rfl ?_ | refine bv (v := .string _) rfl ?_ | refine bv (v := .map _) rfl ?_ | refine bv (v := .func _ _ _) rfl ?_) | ((with_reducible refine gL rfl ?_); refine sh_lit HS.out rfl rfl (by go_simp; exact ⟨⟨rfl, rfl⟩, rfl⟩) ?_)); clear HS; intro g w1 hg HS1; (simp only [Op1.enc, zeF, segOf, aL, aC, aE] at HS1); have HS := Aside0.mk HS1; clear HS1) | ((with_reducible refine gLd rfl ?_); refine ld2 HS.out rfl rfl rfl (by repeat (first | exact AtI.here | apply AtI.there)) ?_; (first | refine LdK.one ((agT _ (by decide)).trans rfl) rfl ?_ | (refine LdK.agg ((agT _ (by decide)).trans rfl) (szT _ (by decide)) (lb rfl) ?_; try simp only [szL, aP, aN, aT, aZ, aS, aD, aF, aJ, aK, aM, aO]))) | ((with_reducible refine gSt rfl ?_); refine st2 HS.out rfl rfl rfl rfl (by repeat (first | exact AtI.here | apply AtI.there)) ?_; (first | refine sv (u := .agg (List.toArray _)) rfl ?_ | refine sv (u := .int _ _) rfl ?_ | refine sv (u := .slice _ _ _) rfl ?_ | refine sv (u := .bool _) rfl ?_ | refine sv (u := .pointer _) rfl ?_ | refine sv (u := .string _) rfl ?_ | refine sv (u := .map _) rfl ?_ | refine sv (u := .func _ _ _) rfl ?_); refine sw (szT _ (by decide)) rfl (lb rfl) ?_; clear HS; intro w1 HS1; (simp only [Op1.enc, segOf, aL, aZ, aS, putSeg] at HS1); have HS := Aside0.mk HS1; clear HS1)); try simp only [aP, aN, aT, aZ, aS]))
          go_roundw
          case rel => exact ⟨k + 1, left, m, L, S, by omega, by go_num, ⟨HD.out.up (by omega)⟩, ⟨HS.out.pick [0, 1, 2] rfl (by decide)⟩⟩
          case measure => simp [intOf]; omega
      · obtain rfl : k = l.length := by omega
        clear hlt HR HOKW
        obtain ⟨Bd, hBd, hdB⟩ : ∃ Bd : Nat, Bd ≤ 1000000 ∧ DOk Bd left false m L := ⟨l.length * 10000, by omega, HD.out⟩
        clear HD
        have HD := Aside0.mk hdB
        have HK9 := Aside0.mk hdB.keys
        clear hdB
        obtain ⟨nl, hnl⟩ : ∃ nl, namesOf m = nl := ⟨_, rfl⟩
        obtain ⟨n, hn⟩ : ∃ n, nl.length = n := ⟨_, rfl⟩
        have HNL := Aside0.mk hnl
        have HNN := Aside0.mk hn
        have HNK := Aside0.mk (show ∀ nm, nm ∈ nl ↔ nm ∈ keysOf m from fun nm => by rw [← hnl]; exact namesOf_mem)
        have HND := Aside0.mk (show nl.Nodup by rw [← hnl]; exact namesOf_nodup HD.out.nd)
        have hn64 : n ≤ 64 := by
          rw [← hn, ← hnl]
          unfold namesOf keyL
          rw [List.length_map, List.length_mergeSort, List.length_map]
          exact HD.out.len
        clear hn hnl
        go_upto_region 14 with (first | (go_at_call 14; (have HC := names_any (F := allI [poolI L S]) gD gM (.int .i64 left) (.bool false) (.bool false) m HK9.out (SH.pack (is := [_, _]) [_] HS.out)); (with_reducible refine HC.mono ?_); clear HC; rintro e w2 ⟨v, SN, rfl, HS9⟩; (rw [HNL.out] at HS9); clear HS; have HS := Aside0.mk (show SH w w2 [_, _, _, _] from (SH.unpack (is := [_, _, _]) [_] (HS9.pick [0, 1, 3, 2] rfl (by decide))).pick [0, 1, 3, 2] rfl (by decide)); clear HS9; obtain ⟨AN, cN, rfl, hcN, _⟩ := row_rd HS.out 3 rfl; (rw [HNN.out] at HS hcN ⊢)) | ((fail_if_success (have _ := gq)); ((with_reducible refine gMm rfl ?_); refine sh_makeMap HS.out rfl rfl strV Value.string (fun _ => True) ?_; clear HS; intro gq w1 hgq HS1; (simp only [aC, aE] at HS1); have HS := Aside0.mk HS1; clear HS1; try simp only [aP, aN, aT, aZ, aS])) | ((fail_if_success (have _ := gz)); ((with_reducible refine gMm rfl ?_); refine sh_makeMap HS.out rfl rfl strV (Value.int .i64) (fun _ => True) ?_; clear HS; intro gz w1 hgz HS1; (simp only [aC, aE] at HS1); have HS := Aside0.mk HS1; clear HS1; try simp only [aP, aN, aT, aZ, aS])) | ((first | ((first | ((with_reducible refine gA rfl ?_); refine sh_alloc HS.out rfl rfl (zeT _ (by decide)) ?_) | ((with_reducible refine gB rfl ?_); refine bx HS.out rfl rfl ?_; first | refine bv (v := .agg (List.toArray _)) rfl ?_ | refine bv (v := .int _ _) rfl ?_ | refine bv (v := .slice _ _ _) rfl ?_ | refine bv (v := .bool _) rfl ?_ | refine bv (v := .pointer _) rfl ?_ | refine bv (v := .string _) rfl ?_ | refine bv (v := .map _) rfl ?_ | refine bv (v := .func _ _ _) rfl ?_) | ((with_reducible refine gL rfl ?_); refine sh_lit HS.out rfl rfl (by go_simp; exact ⟨⟨rfl, rfl⟩, rfl⟩) ?_)); clear HS; intro g w1 hg HS1; (simp only [Op1.enc, zeF, segOf, aL, aC, aE] at HS1); have HS := Aside0.mk HS1; clear HS1) | ((with_reducible refine gLd rfl ?_); refine ld2 HS.out rfl rfl rfl (by repeat (first | exact AtI.here | apply AtI.there)) ?_; (first | refine LdK.one ((agT _ (by decide)).trans rfl) rfl ?_ | (refine LdK.agg ((agT _ (by decide)).trans rfl) (szT _ (by decide)) (lb rfl) ?_; try simp only [szL, aP, aN, aT, aZ, aS, aD, aF, aJ, aK, aM, aO]))) | ((with_reducible refine gSt rfl ?_); refine st2 HS.out rfl rfl rfl rfl (by repeat (first | exact AtI.here | apply AtI.there)) ?_; (first | refine sv (u := .agg (List.toArray _)) rfl ?_ | refine sv (u := .int _ _) rfl ?_ | refine sv (u := .slice _ _ _) rfl ?_ | refine sv (u := .bool _) rfl ?_ | refine sv (u := .pointer _) rfl ?_ | refine sv (u := .string _) rfl ?_ | refine sv (u := .map _) rfl ?_ | refine sv (u := .func _ _ _) rfl ?_); refine sw (szT _ (by decide)) rfl (lb rfl) ?_; clear HS; intro w1 HS1; (simp only [Op1.enc, segOf, aL, aZ, aS, putSeg] at HS1); have HS := Aside0.mk HS1; clear HS1)); try simp only [aP, aN, aT, aZ, aS]))
        have HRO := Aside0.mk (show ∀ {nm : ByteArray} f, mget m nm = some f → (f.A, f.xs) ∈ L ∧ f.xs.length ≤ 140737488351232 from fun {nm} f hf => ⟨(HD.out.ok.each _ (mget_mem hf)).mem, by have := (HD.out.ok.each _ (mget_mem hf)).small; simp only at this; omega⟩)
        have HLOK := Aside0.mk (show ∀ {nm : ByteArray} f, mget m nm = some f → f.safe ≤ f.xs.length ∧ f.xs.length ≤ 9223372036854775807 from fun {nm} f hf => ⟨(HD.out.ok.each _ (mget_mem hf)).safe, by have := (HD.out.ok.each _ (mget_mem hf)).small; simp only at this; omega⟩)
        go_wp2_with (first | ((first | ((first | ((with_reducible refine gA rfl ?_); refine sh_alloc HS.out rfl rfl (zeT _ (by decide)) ?_) | ((with_reducible refine gB rfl ?_); refine bx HS.out rfl rfl ?_; first | refine bv (v := .agg (List.toArray _)) rfl ?_ | refine bv (v := .int _ _) rfl ?_ | refine bv (v := .slice _ _ _) rfl ?_ | refine bv (v := .bool _) rfl ?_ | refine bv (v := .pointer _) rfl ?_ | refine bv (v := .string _) rfl ?_ | refine bv (v := .map _) rfl ?_ | refine bv (v := .func _ _ _) rfl ?_) | ((with_reducible refine gL rfl ?_); refine sh_lit HS.out rfl rfl (by go_simp; exact ⟨⟨rfl, rfl⟩, rfl⟩) ?_)); clear HS; intro g w1 hg HS1; (simp only [Op1.enc, zeF, segOf, aL, aC, aE] at HS1); have HS := Aside0.mk HS1; clear HS1) | ((with_reducible refine gLd rfl ?_); refine ld2 HS.out rfl rfl rfl (by repeat (first | exact AtI.here | apply AtI.there)) ?_; (first | refine LdK.one ((agT _ (by decide)).trans rfl) rfl ?_ | (refine LdK.agg ((agT _ (by decide)).trans rfl) (szT _ (by decide)) (lb rfl) ?_; try simp only [szL, aP, aN, aT, aZ, aS, aD, aF, aJ, aK, aM, aO]))) | ((with_reducible refine gSt rfl ?_); refine st2 HS.out rfl rfl rfl rfl (by repeat (first | exact AtI.here | apply AtI.there)) ?_; (first | refine sv (u := .agg (List.toArray _)) rfl ?_ | refine sv (u := .int _ _) rfl ?_ | refine sv (u := .slice _ _ _) rfl ?_ | refine sv (u := .bool _) rfl ?_ | refine sv (u := .pointer _) rfl ?_ | refine sv (u := .string _) rfl ?_ | refine sv (u := .map _) rfl ?_ | refine sv (u := .func _ _ _) rfl ?_); refine sw (szT _ (by decide)) rfl (lb rfl) ?_; clear HS; intro w1 HS1; (simp only [Op1.enc, segOf, aL, aZ, aS, putSeg] at HS1); have HS := Aside0.mk HS1; clear HS1)); try simp only [aP, aN, aT, aZ, aS]))
        go_loopw [62] (fun v62 wr => ∃ (k : Nat) (mw : List (ByteArray × ByteArray)) (mz : List (ByteArray × Int)), k ≤ n ∧ v62 = .int .i64 k ∧ Aside0 ((∀ nm, mget mw nm = if nm ∈ nl.take k then (mget m nm).map (fun f => b8 f.xs) else none) ∧ (keysOf mw).Nodup) ∧ Aside0 (∀ nm, mget mz nm = if nm ∈ nl.take k then (mget m nm).map (fun f => (f.safe : Int)) else none) ∧ Aside0 (SH w wr [blk gD [.map (some gM), .int .i64 left, .bool false, .bool false] 52, mpF gM m, poolI L S, row strK 9 (.slice AN n cN) nl SN, mp gq strV Value.string (fun _ => True) mw, mp gz strV (Value.int .i64) (fun _ => True) mz])) (fun v62 _ => n - (intOf v62).toNat)
        case atStart => exact ⟨0, [], [], Nat.zero_le _, rfl, ⟨(fun nm => by simp [mget]), List.nodup_nil⟩, ⟨fun nm => by simp [mget]⟩, HS⟩
        case round =>
          clear HS
          obtain ⟨k, mw, mz, hk, rfl, HW, HZ, HS⟩ := hrel
          by_cases hkn : k < n
          · have HRN := Aside0.mk (row_rds (hl := strs_len) (h1 := strs_one) 3 rfl _ HS.out)
            obtain ⟨adN, rfl⟩ := HRN.out.addr (by omega)
            obtain ⟨nm, hnm⟩ : ∃ nm, nl.getD k noText = nm := ⟨_, rfl⟩
            have HX := Aside0.mk hnm
            have hkl : k < nl.length := by rw [HNN.out]; exact hkn
            obtain ⟨f, hf⟩ := Option.isSome_iff_exists.1 (key_some ((HNK.out nm).1 (by rw [← hnm, List.getD_eq_getElem?_getD, List.getElem?_eq_getElem hkl, Option.getD_some]; exact List.getElem_mem _)))
            have HW2 := Aside0.mk (keys_wz (f := fun f => b8 f.xs) hkl hnm hf HW.out.1)
            have HZ2 := Aside0.mk (keys_wz (f := fun f => (f.safe : Int)) hkl hnm hf HZ.out)
            obtain ⟨fA, fc, xs9, sf⟩ := f
            have hlo := HLOK.out _ hf
            simp only at hlo
            obtain ⟨n9, hn9⟩ : ∃ n9, xs9.length = n9 := ⟨_, rfl⟩
            rw [hn9] at hlo
            have HN9 := Aside0.mk hn9
            have HFE := Aside0.mk (show findE false (mget m nm) = 0 by rw [hf]; rfl)
            have HFX := Aside0.mk (show (findF false (mget m nm)).xs = xs9 by rw [hf]; rfl)
            obtain ⟨lo, hlo2⟩ : ∃ lo, looseOf (mget m nm) = lo := ⟨_, rfl⟩
            have HLO := Aside0.mk hlo2
            have hlo3 : lo = (n9 : Int) - (sf : Int) := by rw [← hlo2, hf, ← hn9]; rfl
            have hwr : IntKind.i64.wrap ((n9 : Int) - lo) = (sf : Int) := by rw [hlo3]; simp [IntKind.wrap, IntKind.bits, IntKind.signed]; omega
            have HWR := Aside0.mk hwr
            clear hnm hf hkl hn9 hlo2 hlo3 hwr
            go_upto_region 21 with (first | (go_at_call 15; (have HC := read_any (F := allI [row strK 9 (.slice (some adN) n cN) nl SN, mp gq strV Value.string (fun _ => True) mw, mp gz strV (Value.int .i64) (fun _ => True) mz]) gD gM left false false m L S nm _ rfl HRO.out (SH.pack (is := [_, _, _]) [_, _, _] HS.out)); (with_reducible refine HC.mono ?_); clear HC; rintro e w2 ⟨v9, S9, rfl, HS9⟩; (rw [HFX.out] at HS9); (rw [HFE.out]); clear HS; have HS := Aside0.mk (show SH w w2 [_, _, _, _, _, _, _] from (SH.unpack (is := [_, _, _, _]) [_, _, _] (HS9.pick [0, 1, 2, 4, 3] rfl (by decide))).pick [0, 1, 2, 4, 5, 6, 3] rfl (by decide)); clear HS9; obtain ⟨A9, c9, rfl, hc9, _⟩ := row_rd HS.out 6 rfl; (rw [HN9.out] at HS hc9 ⊢)) | ((with_reducible refine gLd rfl ?_); refine rd_load1 (enc := Value.string) HRN.out rfl rfl (i := k) rfl hkn noText ((agT _ (by decide)).trans rfl) ?_; intro x hx; obtain rfl := HX.out.symm.trans hx; (try simp only [aP, aN, aT, aZ, aS])) | ((with_reducible refine gCv rfl ?_); refine sh_ofB rfl rfl rfl (row_rds (hl := ints_len .u8) (h1 := ints_one .u8) 6 rfl _ HS.out) Tryd.underlying32 Tryd.underlying5 Tryd.underlying9 ?_; try simp only [aP, aN, aT, aZ, aS]) | ((with_reducible refine gMu rfl ?_); refine sh_update HS.out rfl rfl rfl rfl 4 rfl nm rfl trivial (b8 xs9) rfl Tryd.underlying42 ownStr ?_; clear HS; intro w1 HS1; (simp only [aZ, aS] at HS1); have HS := Aside0.mk HS1; clear HS1; try simp only [aP, aN, aT, aZ, aS]) | ((first | ((first | ((with_reducible refine gA rfl ?_); refine sh_alloc HS.out rfl rfl (zeT _ (by decide)) ?_) | ((with_reducible refine gB rfl ?_); refine bx HS.out rfl rfl ?_; first | refine bv (v := .agg (List.toArray _)) rfl ?_ | refine bv (v := .int _ _) rfl ?_ | refine bv (v := .slice _ _ _) rfl ?_ | refine bv (v := .bool _) rfl ?_ | refine bv (v := .pointer _) rfl ?_ | refine bv (v := .string _) rfl ?_ | refine bv (v := .map _) rfl ?_ | refine bv (v := .func _ _ _) rfl ?_) | ((with_reducible refine gL rfl ?_); refine sh_lit HS.out rfl rfl (by go_simp; exact ⟨⟨rfl, rfl⟩, rfl⟩) ?_)); clear HS; intro g w1 hg HS1; (simp only [Op1.enc, zeF, segOf, aL, aC, aE] at HS1); have HS := Aside0.mk HS1; clear HS1) | ((with_reducible refine gLd rfl ?_); refine ld2 HS.out rfl rfl rfl (by repeat (first | exact AtI.here | apply AtI.there)) ?_; (first | refine LdK.one ((agT _ (by decide)).trans rfl) rfl ?_ | (refine LdK.agg ((agT _ (by decide)).trans rfl) (szT _ (by decide)) (lb rfl) ?_; try simp only [szL, aP, aN, aT, aZ, aS, aD, aF, aJ, aK, aM, aO]))) | ((with_reducible refine gSt rfl ?_); refine st2 HS.out rfl rfl rfl rfl (by repeat (first | exact AtI.here | apply AtI.there)) ?_; (first | refine sv (u := .agg (List.toArray _)) rfl ?_ | refine sv (u := .int _ _) rfl ?_ | refine sv (u := .slice _ _ _) rfl ?_ | refine sv (u := .bool _) rfl ?_ | refine sv (u := .pointer _) rfl ?_ | refine sv (u := .string _) rfl ?_ | refine sv (u := .map _) rfl ?_ | refine sv (u := .func _ _ _) rfl ?_); refine sw (szT _ (by decide)) rfl (lb rfl) ?_; clear HS; intro w1 HS1; (simp only [Op1.enc, segOf, aL, aZ, aS, putSeg] at HS1); have HS := Aside0.mk HS1; clear HS1)); try simp only [aP, aN, aT, aZ, aS]))
            have hwr := HWR.out
            go_wp2_with (first | (go_at_call 16; (have HC := loose_any (F := allI [poolI L S, row strK 9 (.slice (some adN) n cN) nl SN, mp gq strV Value.string (fun _ => True) (mput mw nm (b8 xs9)), mp gz strV (Value.int .i64) (fun _ => True) mz, row u8K 5 (.slice A9 n9 c9) xs9 S9]) gD gM _ _ _ m nm _ rfl HLOK.out (SH.pack (is := [_, _]) [_, _, _, _, _] HS.out)); (with_reducible refine HC.mono ?_); clear HC; rintro e w2 ⟨rfl, HS9⟩; (rw [HLO.out]); clear HS; have HS := Aside0.mk (SH.unpack (is := [_, _]) [_, _, _, _, _] HS9); clear HS9; simp only [aC, aE] at HS) | ((with_reducible refine gMu rfl ?_); refine sh_update HS.out rfl rfl rfl rfl 5 rfl nm rfl trivial (sf : Int) rfl Tryd.underlying43 ownStr ?_; clear HS; intro w1 HS1; (simp only [aZ, aS] at HS1); have HS := Aside0.mk HS1; clear HS1; try simp only [aP, aN, aT, aZ, aS]) | ((first | ((first | ((with_reducible refine gA rfl ?_); refine sh_alloc HS.out rfl rfl (zeT _ (by decide)) ?_) | ((with_reducible refine gB rfl ?_); refine bx HS.out rfl rfl ?_; first | refine bv (v := .agg (List.toArray _)) rfl ?_ | refine bv (v := .int _ _) rfl ?_ | refine bv (v := .slice _ _ _) rfl ?_ | refine bv (v := .bool _) rfl ?_ | refine bv (v := .pointer _) rfl ?_ | refine bv (v := .string _) rfl ?_ | refine bv (v := .map _) rfl ?_ | refine bv (v := .func _ _ _) rfl ?_) | ((with_reducible refine gL rfl ?_); refine sh_lit HS.out rfl rfl (by go_simp; exact ⟨⟨rfl, rfl⟩, rfl⟩) ?_)); clear HS; intro g w1 hg HS1; (simp only [Op1.enc, zeF, segOf, aL, aC, aE] at HS1); have HS := Aside0.mk HS1; clear HS1) | ((with_reducible refine gLd rfl ?_); refine ld2 HS.out rfl rfl rfl (by repeat (first | exact AtI.here | apply AtI.there)) ?_; (first | refine LdK.one ((agT _ (by decide)).trans rfl) rfl ?_ | (refine LdK.agg ((agT _ (by decide)).trans rfl) (szT _ (by decide)) (lb rfl) ?_; try simp only [szL, aP, aN, aT, aZ, aS, aD, aF, aJ, aK, aM, aO]))) | ((with_reducible refine gSt rfl ?_); refine st2 HS.out rfl rfl rfl rfl (by repeat (first | exact AtI.here | apply AtI.there)) ?_; (first | refine sv (u := .agg (List.toArray _)) rfl ?_ | refine sv (u := .int _ _) rfl ?_ | refine sv (u := .slice _ _ _) rfl ?_ | refine sv (u := .bool _) rfl ?_ | refine sv (u := .pointer _) rfl ?_ | refine sv (u := .string _) rfl ?_ | refine sv (u := .map _) rfl ?_ | refine sv (u := .func _ _ _) rfl ?_); refine sw (szT _ (by decide)) rfl (lb rfl) ?_; clear HS; intro w1 HS1; (simp only [Op1.enc, segOf, aL, aZ, aS, putSeg] at HS1); have HS := Aside0.mk HS1; clear HS1)); try simp only [aP, aN, aT, aZ, aS]))
            go_roundw
            case rel => exact ⟨k + 1, _, _, by omega, by go_num, ⟨HW2.out, Sl.nodup_put _ _ HW.out.2⟩, HZ2, ⟨HS.out.pick [0, 1, 2, 3, 4, 5] rfl (by decide)⟩⟩
            case measure => simp [intOf]; omega
          · obtain rfl : n = k := by omega
            have HW0 := Aside0.mk (show ∀ nm, mget mw nm = (mget m nm).map (fun f => b8 f.xs) from fun nm => by
              rw [HW.out.1 nm, List.take_of_length_le (by rw [HNN.out]; omega)]
              by_cases h : nm ∈ nl
              · rw [if_pos h]
              · rw [if_neg h, mget_none (fun hh => h ((HNK.out nm).2 hh))]
                rfl)
            have HZ0 := Aside0.mk (show ∀ nm, mget mz nm = (mget m nm).map (fun f => (f.safe : Int)) from fun nm => by
              rw [HZ.out nm, List.take_of_length_le (by rw [HNN.out]; omega)]
              by_cases h : nm ∈ nl
              · rw [if_pos h]
              · rw [if_neg h, mget_none (fun hh => h ((HNK.out nm).2 hh))]
                rfl)
            have HWD := Aside0.mk HW.out.2
            clear HW HZ
            obtain ⟨m1, hm1⟩ : ∃ m1, crashM (namesOf m) m ks = m1 := ⟨_, rfl⟩
            obtain ⟨m2, hm2⟩ : ∃ m2, crashM (namesOf m1) m1 [] = m2 := ⟨_, rfl⟩
            have HM1 := Aside0.mk hm1
            have HM2 := Aside0.mk hm2
            clear hm1 hm2
            go_upto_region 25 with (first | (go_at_call 17; (have HC := crash_any (F := allI [row strK 9 (.slice AN n cN) nl SN, mp gq strV Value.string (fun _ => True) mw, mp gz strV (Value.int .i64) (fun _ => True) mz]) gD gM left false false m L S Bd HK9.out HD.out.ok (by omega) K0 nk0 ck0 ks (fun w9 hb9 _ => HRK0.out.below hb9) hck0 (SH.pack (is := [_, _, _]) [_, _, _] HS.out)); (with_reducible refine HC.mono ?_); clear HC; rintro e w2 ⟨rfl, L9, hok9, hL9, HS9⟩; have HD1 := Aside0.mk (show DOk Bd left false m1 L9 by rw [← HM1.out]; exact HD.out.crash ks hok9); (rw [HM1.out] at HS9); clear HS hok9 hL9; have HS := Aside0.mk (SH.unpack (is := [_, _, _]) [_, _, _] HS9); clear HS9; simp only [aC, aE] at HS) | (go_at_call 18; (have HC := power_any (F := allI [row strK 9 (.slice AN n cN) nl SN, mp gq strV Value.string (fun _ => True) mw, mp gz strV (Value.int .i64) (fun _ => True) mz]) gD gM left false true m1 L9 S Bd HD1.out.keys HD1.out.ok (by omega) (SH.pack (is := [_, _, _]) [_, _, _] HS.out)); (with_reducible refine HC.mono ?_); clear HC; rintro e w2 ⟨rfl, L8, hok8, hL8, HS9⟩; (simp only [if_true] at hok8 HS9); have HD2 := Aside0.mk (show DOk Bd left false m2 L8 by rw [← HM2.out]; exact HD1.out.crash [] hok8); (rw [HM2.out] at HS9); clear HS hok8 hL8; have HS := Aside0.mk (SH.unpack (is := [_, _, _]) [_, _, _] HS9); clear HS9; simp only [aC, aE] at HS) | ((first | ((first | ((with_reducible refine gA rfl ?_); refine sh_alloc HS.out rfl rfl (zeT _ (by decide)) ?_) | ((with_reducible refine gB rfl ?_); refine bx HS.out rfl rfl ?_; first | refine bv (v := .agg (List.toArray _)) rfl ?_ | refine bv (v := .int _ _) rfl ?_ | refine bv (v := .slice _ _ _) rfl ?_ | refine bv (v := .bool _) rfl ?_ | refine bv (v := .pointer _) rfl ?_ | refine bv (v := .string _) rfl ?_ | refine bv (v := .map _) rfl ?_ | refine bv (v := .func _ _ _) rfl ?_) | ((with_reducible refine gL rfl ?_); refine sh_lit HS.out rfl rfl (by go_simp; exact ⟨⟨rfl, rfl⟩, rfl⟩) ?_)); clear HS; intro g w1 hg HS1; (simp only [Op1.enc, zeF, segOf, aL, aC, aE] at HS1); have HS := Aside0.mk HS1; clear HS1) | ((with_reducible refine gLd rfl ?_); refine ld2 HS.out rfl rfl rfl (by repeat (first | exact AtI.here | apply AtI.there)) ?_; (first | refine LdK.one ((agT _ (by decide)).trans rfl) rfl ?_ | (refine LdK.agg ((agT _ (by decide)).trans rfl) (szT _ (by decide)) (lb rfl) ?_; try simp only [szL, aP, aN, aT, aZ, aS, aD, aF, aJ, aK, aM, aO]))) | ((with_reducible refine gSt rfl ?_); refine st2 HS.out rfl rfl rfl rfl (by repeat (first | exact AtI.here | apply AtI.there)) ?_; (first | refine sv (u := .agg (List.toArray _)) rfl ?_ | refine sv (u := .int _ _) rfl ?_ | refine sv (u := .slice _ _ _) rfl ?_ | refine sv (u := .bool _) rfl ?_ | refine sv (u := .pointer _) rfl ?_ | refine sv (u := .string _) rfl ?_ | refine sv (u := .map _) rfl ?_ | refine sv (u := .func _ _ _) rfl ?_); refine sw (szT _ (by decide)) rfl (lb rfl) ?_; clear HS; intro w1 HS1; (simp only [Op1.enc, segOf, aL, aZ, aS, putSeg] at HS1); have HS := Aside0.mk HS1; clear HS1)); try simp only [aP, aN, aT, aZ, aS]))
            obtain ⟨nl2, hnl⟩ : ∃ nl2, namesOf m2 = nl2 := ⟨_, rfl⟩
            obtain ⟨n2, hn⟩ : ∃ n2, nl2.length = n2 := ⟨_, rfl⟩
            have HNL2 := Aside0.mk hnl
            have HNN2 := Aside0.mk hn
            have HNK2 := Aside0.mk (show ∀ nm, nm ∈ nl2 ↔ nm ∈ keysOf m2 from fun nm => by rw [← hnl]; exact namesOf_mem)
            have HND2 := Aside0.mk (show nl2.Nodup by rw [← hnl]; exact namesOf_nodup HD2.out.nd)
            have hn264 : n2 ≤ 64 := by
              rw [← hn, ← hnl]
              unfold namesOf keyL
              rw [List.length_map, List.length_mergeSort, List.length_map]
              exact HD2.out.len
            have HAFT := Aside0.mk (show Aft m m2 by
              have h1 := HD1.out
              rw [← HM2.out, ← HM1.out]
              rw [← HM1.out] at h1
              exact aft_two HD.out ks h1)
            clear hn hnl
            have HRO2 := Aside0.mk (show ∀ {nm : ByteArray} f, mget m2 nm = some f → (f.A, f.xs) ∈ L8 ∧ f.xs.length ≤ 140737488351232 from fun {nm} f hf => ⟨(HD2.out.ok.each _ (mget_mem hf)).mem, by have := (HD2.out.ok.each _ (mget_mem hf)).small; simp only at this; omega⟩)
            have HLOK2 := Aside0.mk (show ∀ {nm : ByteArray} f, mget m2 nm = some f → f.safe ≤ f.xs.length ∧ f.xs.length ≤ 9223372036854775807 from fun {nm} f hf => ⟨(HD2.out.ok.each _ (mget_mem hf)).safe, by have := (HD2.out.ok.each _ (mget_mem hf)).small; simp only at this; omega⟩)
            go_wp2_with (first | (go_at_call 14; (have HC := names_any (F := allI [poolI L8 S, row strK 9 (.slice AN n cN) nl SN, mp gq strV Value.string (fun _ => True) mw, mp gz strV (Value.int .i64) (fun _ => True) mz]) gD gM (.int .i64 left) (.bool false) (.bool false) m2 HD2.out.keys (SH.pack (is := [_, _]) [_, _, _, _] HS.out)); (with_reducible refine HC.mono ?_); clear HC; rintro e w2 ⟨v, SN2, rfl, HS9⟩; (rw [HNL2.out] at HS9); clear HS; have HS := Aside0.mk (show SH w w2 [_, _, _, _, _, _, _] from (SH.unpack (is := [_, _, _]) [_, _, _, _] (HS9.pick [0, 1, 3, 2] rfl (by decide))).pick [0, 1, 3, 4, 5, 6, 2] rfl (by decide)); clear HS9; obtain ⟨AN2, cN2, rfl, hcN, _⟩ := row_rd HS.out 6 rfl; (rw [HNN2.out] at HS hcN ⊢)) | ((first | ((first | ((with_reducible refine gA rfl ?_); refine sh_alloc HS.out rfl rfl (zeT _ (by decide)) ?_) | ((with_reducible refine gB rfl ?_); refine bx HS.out rfl rfl ?_; first | refine bv (v := .agg (List.toArray _)) rfl ?_ | refine bv (v := .int _ _) rfl ?_ | refine bv (v := .slice _ _ _) rfl ?_ | refine bv (v := .bool _) rfl ?_ | refine bv (v := .pointer _) rfl ?_ | refine bv (v := .string _) rfl ?_ | refine bv (v := .map _) rfl ?_ | refine bv (v := .func _ _ _) rfl ?_) | ((with_reducible refine gL rfl ?_); refine sh_lit HS.out rfl rfl (by go_simp; exact ⟨⟨rfl, rfl⟩, rfl⟩) ?_)); clear HS; intro g w1 hg HS1; (simp only [Op1.enc, zeF, segOf, aL, aC, aE] at HS1); have HS := Aside0.mk HS1; clear HS1) | ((with_reducible refine gLd rfl ?_); refine ld2 HS.out rfl rfl rfl (by repeat (first | exact AtI.here | apply AtI.there)) ?_; (first | refine LdK.one ((agT _ (by decide)).trans rfl) rfl ?_ | (refine LdK.agg ((agT _ (by decide)).trans rfl) (szT _ (by decide)) (lb rfl) ?_; try simp only [szL, aP, aN, aT, aZ, aS, aD, aF, aJ, aK, aM, aO]))) | ((with_reducible refine gSt rfl ?_); refine st2 HS.out rfl rfl rfl rfl (by repeat (first | exact AtI.here | apply AtI.there)) ?_; (first | refine sv (u := .agg (List.toArray _)) rfl ?_ | refine sv (u := .int _ _) rfl ?_ | refine sv (u := .slice _ _ _) rfl ?_ | refine sv (u := .bool _) rfl ?_ | refine sv (u := .pointer _) rfl ?_ | refine sv (u := .string _) rfl ?_ | refine sv (u := .map _) rfl ?_ | refine sv (u := .func _ _ _) rfl ?_); refine sw (szT _ (by decide)) rfl (lb rfl) ?_; clear HS; intro w1 HS1; (simp only [Op1.enc, segOf, aL, aZ, aS, putSeg] at HS1); have HS := Aside0.mk HS1; clear HS1)); try simp only [aP, aN, aT, aZ, aS]))
            go_loopw [95] (fun v95 wr => ∃ (k : Nat) (mw : List (ByteArray × ByteArray)), k ≤ n2 ∧ v95 = .int .i64 k ∧ Aside0 ((∀ nm, mget mw nm = if nm ∈ nl2.take k then none else (mget m nm).map (fun f => b8 f.xs)) ∧ (keysOf mw).Nodup) ∧ Aside0 (SH w wr [blk gD [.map (some gM), .int .i64 left, .bool false, .bool false] 52, mpF gM m2, poolI L8 S, row strK 9 (.slice AN n cN) nl SN, mp gq strV Value.string (fun _ => True) mw, mp gz strV (Value.int .i64) (fun _ => True) mz, row strK 9 (.slice AN2 n2 cN2) nl2 SN2])) (fun v95 _ => n2 - (intOf v95).toNat)
            case atStart => exact ⟨0, mw, Nat.zero_le _, rfl, ⟨(fun nm => by rw [List.take_zero, if_neg (by simp)]; exact HW0.out nm), HWD.out⟩, HS⟩
            case round =>
              clear HS HW0 HWD
              obtain ⟨k, mw, hk, rfl, HW, HS⟩ := hrel
              by_cases hkn : k < n2
              · have HRN := Aside0.mk (row_rds (hl := strs_len) (h1 := strs_one) 6 rfl _ HS.out)
                obtain ⟨adN, rfl⟩ := HRN.out.addr (by omega)
                obtain ⟨nm, hnm⟩ : ∃ nm, nl2.getD k noText = nm := ⟨_, rfl⟩
                have HX := Aside0.mk hnm
                have hkl : k < nl2.length := by rw [HNN2.out]; exact hkn
                obtain ⟨f2, hf2⟩ := Option.isSome_iff_exists.1 (key_some ((HNK2.out nm).1 (by rw [← hnm, List.getD_eq_getElem?_getD, List.getElem?_eq_getElem hkl, Option.getD_some]; exact List.getElem_mem _)))
                obtain ⟨f, hf, hbeg⟩ := HAFT.out.beg nm f2 hf2
                have HW2 := Aside0.mk (del_w (f := fun f => b8 f.xs) hkl hnm HW.out.2 HW.out.1)
                have hnt := not_take hkl hnm HND2.out
                obtain ⟨s, hs⟩ : ∃ s, b8 f.xs = s := ⟨_, rfl⟩
                obtain ⟨sf, hsf⟩ : ∃ sf, f.safe = sf := ⟨_, rfl⟩
                have HMW := Aside0.mk (show mget mw nm = some s by rw [HW.out.1 nm, if_neg hnt, hf, ← hs]; rfl)
                have HMZ := Aside0.mk (show mget mz nm = some (sf : Int) by rw [HZ0.out nm, hf, ← hsf]; rfl)
                have hstr := hbeg.str
                have hb1 := hbeg.lo
                have hb2 := hbeg.hi
                have hb3 := hbeg.safe
                have hfs := (HD.out.ok.each _ (mget_mem hf)).small
                simp only at hfs
                obtain ⟨fA, fc, xs9, sf2⟩ := f2
                simp only at hstr hb1 hb2 hb3
                obtain ⟨T, hT⟩ : ∃ T, b8 xs9 = T := ⟨_, rfl⟩
                obtain ⟨n9, hn9⟩ : ∃ n9, xs9.length = n9 := ⟨_, rfl⟩
                have hssz : s.size = f.xs.length := by rw [← hs]; exact b8_size _
                rw [hs, hn9, hT] at hstr
                rw [hn9] at hb1 hb2
                rw [hsf] at hb1
                have HT := Aside0.mk hT
                have HN9 := Aside0.mk hn9
                have HFE := Aside0.mk (show findE false (mget m2 nm) = 0 by rw [hf2]; rfl)
                have HFX := Aside0.mk (show (findF false (mget m2 nm)).xs = xs9 by rw [hf2]; rfl)
                have HLO := Aside0.mk (show looseOf (mget m2 nm) = 0 by rw [hf2]; show ((xs9.length : Int) - (sf2 : Int)) = 0; omega)
                have hd8 : decide ((n9 : Int) < (sf : Int)) = false := by rw [decide_eq_false_iff_not]; omega
                have hd15 : decide ((s.size : Int) < (n9 : Int)) = false := by rw [decide_eq_false_iff_not]; omega
                have hd8n : ¬ n9 < sf := by omega
                have hd15n : ¬ s.size < n9 := by omega
                have hle1 : (n9 : Int) ≤ (s.size : Int) := by omega
                have hle2 : n9 ≤ s.size := by omega
                have HSTR := Aside0.mk hstr
                clear hnm hf2 hf hbeg hkl hnt hs hsf hT hn9 hb1 hb2 hb3 hfs hssz hstr
                go_upto_region 30 with (first | (go_at_call 15; (have HC := read_any (F := allI [row strK 9 (.slice AN n cN) nl SN, mp gq strV Value.string (fun _ => True) mw, mp gz strV (Value.int .i64) (fun _ => True) mz, row strK 9 (.slice (some adN) n2 cN2) nl2 SN2]) gD gM left false false m2 L8 S nm _ rfl HRO2.out (SH.pack (is := [_, _, _]) [_, _, _, _] HS.out)); (with_reducible refine HC.mono ?_); clear HC; rintro e w2 ⟨v9, S9, rfl, HS9⟩; (rw [HFX.out] at HS9); (rw [HFE.out]); clear HS; have HS := Aside0.mk (show SH w w2 [_, _, _, _, _, _, _, _] from (SH.unpack (is := [_, _, _, _]) [_, _, _, _] (HS9.pick [0, 1, 2, 4, 3] rfl (by decide))).pick [0, 1, 2, 4, 5, 6, 7, 3] rfl (by decide)); clear HS9; obtain ⟨A9, c9, rfl, hc9, _⟩ := row_rd HS.out 7 rfl; (rw [HN9.out] at HS hc9 ⊢)) | ((with_reducible refine gLd rfl ?_); refine rd_load1 (enc := Value.string) HRN.out rfl rfl (i := k) rfl hkn noText ((agT _ (by decide)).trans rfl) ?_; intro x hx; obtain rfl := HX.out.symm.trans hx; (try simp only [aP, aN, aT, aZ, aS])) | (((with_reducible refine gLk rfl ?_); refine sh_lookup HS.out rfl rfl rfl 4 rfl nm rfl trivial Tryd.underlying42 ownStr (z := (⟨#[]⟩ : ByteArray)) zeroStr ?_; try simp only [aP, aN, aT, aZ, aS]); (rw [HMW.out]); (simp only [Option.getD_some])) | ((first | ((first | ((with_reducible refine gA rfl ?_); refine sh_alloc HS.out rfl rfl (zeT _ (by decide)) ?_) | ((with_reducible refine gB rfl ?_); refine bx HS.out rfl rfl ?_; first | refine bv (v := .agg (List.toArray _)) rfl ?_ | refine bv (v := .int _ _) rfl ?_ | refine bv (v := .slice _ _ _) rfl ?_ | refine bv (v := .bool _) rfl ?_ | refine bv (v := .pointer _) rfl ?_ | refine bv (v := .string _) rfl ?_ | refine bv (v := .map _) rfl ?_ | refine bv (v := .func _ _ _) rfl ?_) | ((with_reducible refine gL rfl ?_); refine sh_lit HS.out rfl rfl (by go_simp; exact ⟨⟨rfl, rfl⟩, rfl⟩) ?_)); clear HS; intro g w1 hg HS1; (simp only [Op1.enc, zeF, segOf, aL, aC, aE] at HS1); have HS := Aside0.mk HS1; clear HS1) | ((with_reducible refine gLd rfl ?_); refine ld2 HS.out rfl rfl rfl (by repeat (first | exact AtI.here | apply AtI.there)) ?_; (first | refine LdK.one ((agT _ (by decide)).trans rfl) rfl ?_ | (refine LdK.agg ((agT _ (by decide)).trans rfl) (szT _ (by decide)) (lb rfl) ?_; try simp only [szL, aP, aN, aT, aZ, aS, aD, aF, aJ, aK, aM, aO]))) | ((with_reducible refine gSt rfl ?_); refine st2 HS.out rfl rfl rfl rfl (by repeat (first | exact AtI.here | apply AtI.there)) ?_; (first | refine sv (u := .agg (List.toArray _)) rfl ?_ | refine sv (u := .int _ _) rfl ?_ | refine sv (u := .slice _ _ _) rfl ?_ | refine sv (u := .bool _) rfl ?_ | refine sv (u := .pointer _) rfl ?_ | refine sv (u := .string _) rfl ?_ | refine sv (u := .map _) rfl ?_ | refine sv (u := .func _ _ _) rfl ?_); refine sw (szT _ (by decide)) rfl (lb rfl) ?_; clear HS; intro w1 HS1; (simp only [Op1.enc, segOf, aL, aZ, aS, putSeg] at HS1); have HS := Aside0.mk HS1; clear HS1)); try simp only [aP, aN, aT, aZ, aS]))
                have hstr := HSTR.out
                refine held_start mixed HS.out (fun HS1 => ?_)
                clear HS
                have HS := Aside0.mk HS1
                clear HS1
                refine h_val 0 (v := _) (by simp only [aG, aH, aI]; rfl) (by kernel_rfl) (by kernel_rfl) (by kernel_rfl) (by exact fun _ _ _ h => h) HS.out (by kernel_rfl) (fun w hs => by (repeat (rename ∀ (_ : Act) (_ : World), _ => hK9; clear hK9)); go_simp; rfl) ?_
                (try simp only [aP, aN, aT, aZ, aS])
                refine h_val 1 (v := _) (by simp only [aG, aH, aI]; rfl) (by kernel_rfl) (by kernel_rfl) (by kernel_rfl) (by exact fun _ _ _ h => h) HS.out (by kernel_rfl) (fun w hs => by (repeat (rename ∀ (_ : Act) (_ : World), _ => hK9; clear hK9)); go_simp; rfl) ?_
                (try simp only [aP, aN, aT, aZ, aS])
                refine h_val 2 (v := _) (by simp only [aG, aH, aI]; rfl) (by kernel_rfl) (by kernel_rfl) (by kernel_rfl) (by exact fun _ _ _ h => h) HS.out (by kernel_rfl) (fun w hs => by (repeat (rename ∀ (_ : Act) (_ : World), _ => hK9; clear hK9)); go_simp; rfl) ?_
                (try simp only [aP, aN, aT, aZ, aS])
                refine h_val 3 (v := _) (by simp only [aG, aH, aI]; rfl) (by kernel_rfl) (by kernel_rfl) (by kernel_rfl) (by exact fun _ _ _ h => h) HS.out (by kernel_rfl) (fun w hs => by (repeat (rename ∀ (_ : Act) (_ : World), _ => hK9; clear hK9)); go_simp; rfl) ?_
                (try simp only [aP, aN, aT, aZ, aS])
                refine h_val 4 (v := _) (by simp only [aG, aH, aI]; rfl) (by kernel_rfl) (by kernel_rfl) (by kernel_rfl) (by exact fun _ _ _ h => h) HS.out (by kernel_rfl) (fun w hs => by (repeat (rename ∀ (_ : Act) (_ : World), _ => hK9; clear hK9)); go_simp; rfl) ?_
                (try simp only [aP, aN, aT, aZ, aS])
                refine h_val 5 (v := _) (by simp only [aG, aH, aI]; rfl) (by kernel_rfl) (by kernel_rfl) (by kernel_rfl) (by exact fun _ _ _ h => h) HS.out (by kernel_rfl) (fun w hs => by (repeat (rename ∀ (_ : Act) (_ : World), _ => hK9; clear hK9)); go_simp; rfl) ?_
                (try simp only [aP, aN, aT, aZ, aS])
                refine h_val 6 (v := _) (by simp only [aG, aH, aI]; rfl) (by kernel_rfl) (by kernel_rfl) (by kernel_rfl) (by exact fun _ _ _ h => h) HS.out (by kernel_rfl) (fun w hs => by (repeat (rename ∀ (_ : Act) (_ : World), _ => hK9; clear hK9)); go_simp; rfl) ?_
                (try simp only [aP, aN, aT, aZ, aS])
                refine h_val 7 (v := .int .i64 (sf : Int)) (by simp only [aG, aH, aI]; rfl) (by kernel_rfl) (by kernel_rfl) (by kernel_rfl) (by exact fun _ _ _ h => h) HS.out (by kernel_rfl) (fun w hs => run_lk1 hs rfl rfl 5 rfl nm rfl trivial Tryd.underlying43 ownStr (z := (0 : Int)) zeroI (by rw [HMZ.out]; rfl)) ?_
                (try simp only [aP, aN, aT, aZ, aS])
                refine h_val 8 (v := _) (by simp only [aG, aH, aI]; rfl) (by kernel_rfl) (by kernel_rfl) (by kernel_rfl) (by exact fun _ _ _ h => h) HS.out (by kernel_rfl) (fun w hs => by (repeat (rename ∀ (_ : Act) (_ : World), _ => hK9; clear hK9)); go_simp; rfl) ?_
                (try simp only [aP, aN, aT, aZ, aS])
                refine h_val 9 (v := _) (by simp only [aG, aH, aI]; rfl) (by kernel_rfl) (by kernel_rfl) (by kernel_rfl) (by exact fun _ _ _ h => h) HS.out (by kernel_rfl) (fun w hs => by (repeat (rename ∀ (_ : Act) (_ : World), _ => hK9; clear hK9)); go_simp; rfl) ?_
                (try simp only [aP, aN, aT, aZ, aS])
                refine h_val 10 (v := _) (by simp only [aG, aH, aI]; rfl) (by kernel_rfl) (by kernel_rfl) (by kernel_rfl) (by exact fun _ _ _ h => h) HS.out (by kernel_rfl) (fun w hs => by (repeat (rename ∀ (_ : Act) (_ : World), _ => hK9; clear hK9)); go_simp; rfl) ?_
                (try simp only [aP, aN, aT, aZ, aS])
                refine h_val 11 (v := _) (by simp only [aG, aH, aI]; rfl) (by kernel_rfl) (by kernel_rfl) (by kernel_rfl) (by exact fun _ _ _ h => h) HS.out (by kernel_rfl) (fun w hs => by (repeat (rename ∀ (_ : Act) (_ : World), _ => hK9; clear hK9)); go_simp; rfl) ?_
                (try simp only [aP, aN, aT, aZ, aS])
                refine h_val 12 (v := _) (by simp only [aG, aH, aI]; rfl) (by kernel_rfl) (by kernel_rfl) (by kernel_rfl) (by exact fun _ _ _ h => h) HS.out (by kernel_rfl) (fun w hs => by (repeat (rename ∀ (_ : Act) (_ : World), _ => hK9; clear hK9)); go_simp; rfl) ?_
                (try simp only [aP, aN, aT, aZ, aS])
                refine h_val 13 (v := _) (by simp only [aG, aH, aI]; rfl) (by kernel_rfl) (by kernel_rfl) (by kernel_rfl) (by exact fun _ _ _ h => h) HS.out (by kernel_rfl) (fun w hs => by (repeat (rename ∀ (_ : Act) (_ : World), _ => hK9; clear hK9)); go_simp; rfl) ?_
                (try simp only [aP, aN, aT, aZ, aS])
                refine h_val 14 (v := _) (by simp only [aG, aH, aI]; rfl) (by kernel_rfl) (by kernel_rfl) (by kernel_rfl) (by exact fun _ _ _ h => h) HS.out (by kernel_rfl) (fun w hs => by (repeat (rename ∀ (_ : Act) (_ : World), _ => hK9; clear hK9)); go_simp; rfl) ?_
                (try simp only [aP, aN, aT, aZ, aS])
                refine h_val 15 (v := _) (by simp only [aG, aH, aI]; rfl) (by kernel_rfl) (by kernel_rfl) (by kernel_rfl) (by exact fun _ _ _ h => h) HS.out (by kernel_rfl) (fun w hs => by (repeat (rename ∀ (_ : Act) (_ : World), _ => hK9; clear hK9)); go_simp; rfl) ?_
                (try simp only [aP, aN, aT, aZ, aS])
                refine h_val 16 (v := _) (by simp only [aG, aH, aI]; rfl) (by kernel_rfl) (by kernel_rfl) (by kernel_rfl) (by exact fun _ _ _ h => h) HS.out (by kernel_rfl) (fun w hs => by (repeat (rename ∀ (_ : Act) (_ : World), _ => hK9; clear hK9)); go_simp; rfl) ?_
                (try simp only [aP, aN, aT, aZ, aS])
                refine h_val 17 (v := _) (by simp only [aG, aH, aI]; rfl) (by kernel_rfl) (by kernel_rfl) (by kernel_rfl) (by exact fun _ _ _ h => h) HS.out (by kernel_rfl) (fun w hs => by (repeat (rename ∀ (_ : Act) (_ : World), _ => hK9; clear hK9)); go_simp; rfl) ?_
                (try simp only [aP, aN, aT, aZ, aS])
                refine h_val 18 (v := _) (by simp only [aG, aH, aI]; rfl) (by kernel_rfl) (by kernel_rfl) (by kernel_rfl) (by exact fun _ _ _ h => h) HS.out (by kernel_rfl) (fun w hs => by (repeat (rename ∀ (_ : Act) (_ : World), _ => hK9; clear hK9)); go_simp; rfl) ?_
                (try simp only [aP, aN, aT, aZ, aS])
                refine h_val 19 (v := .string T) (by simp only [aG, aH, aI]; rfl) (by kernel_rfl) (by kernel_rfl) (by kernel_rfl) (by exact fun _ _ _ h => h) HS.out (by kernel_rfl) (fun w hs => by rw [← HT.out]; exact run_ofB rfl rfl (row_rds (hl := ints_len .u8) (h1 := ints_one .u8) 7 rfl _ hs) Tryd.underlying32 Tryd.underlying5 Tryd.underlying9) ?_
                (try simp only [aP, aN, aT, aZ, aS])
                refine h_val 20 (v := _) (by simp only [aG, aH, aI]; rfl) (by kernel_rfl) (by kernel_rfl) (by kernel_rfl) (by exact fun _ _ _ h => h) HS.out (by kernel_rfl) (fun w hs => by (repeat (rename ∀ (_ : Act) (_ : World), _ => hK9; clear hK9)); go_simp; rfl) ?_
                (try simp only [aP, aN, aT, aZ, aS])
                refine h_val 21 (v := _) (by simp only [aG, aH, aI]; rfl) (by kernel_rfl) (by kernel_rfl) (by kernel_rfl) (by exact fun _ _ _ h => h) HS.out (by kernel_rfl) (fun w hs => by (repeat (rename ∀ (_ : Act) (_ : World), _ => hK9; clear hK9)); go_simp; rfl) ?_
                (try simp only [aP, aN, aT, aZ, aS])
                refine h_val 22 (v := _) (by simp only [aG, aH, aI]; rfl) (by kernel_rfl) (by kernel_rfl) (by kernel_rfl) (by exact fun _ _ _ h => h) HS.out (by kernel_rfl) (fun w hs => by (repeat (rename ∀ (_ : Act) (_ : World), _ => hK9; clear hK9)); go_simp; rfl) ?_
                (try simp only [aP, aN, aT, aZ, aS])
                refine h_val 23 (v := _) (by simp only [aG, aH, aI]; rfl) (by kernel_rfl) (by kernel_rfl) (by kernel_rfl) (by exact fun _ _ _ h => h) HS.out (by kernel_rfl) (fun w hs => by (repeat (rename ∀ (_ : Act) (_ : World), _ => hK9; clear hK9)); go_simp; rfl) ?_
                (try simp only [aP, aN, aT, aZ, aS])
                refine h_val 24 (v := _) (by simp only [aG, aH, aI]; rfl) (by kernel_rfl) (by kernel_rfl) (by kernel_rfl) (by exact fun _ _ _ h => h) HS.out (by kernel_rfl) (fun w hs => by (repeat (rename ∀ (_ : Act) (_ : World), _ => hK9; clear hK9)); go_simp; rfl) ?_
                (try simp only [aP, aN, aT, aZ, aS])
                refine h_val 25 (v := _) (by simp only [aG, aH, aI]; rfl) (by kernel_rfl) (by kernel_rfl) (by kernel_rfl) (by exact fun _ _ _ h => h) HS.out (by kernel_rfl) (fun w hs => by (repeat (rename ∀ (_ : Act) (_ : World), _ => hK9; clear hK9)); go_simp; rfl) ?_
                (try simp only [aP, aN, aT, aZ, aS])
                refine h_val 26 (v := _) (by simp only [aG, aH, aI]; rfl) (by kernel_rfl) (by kernel_rfl) (by kernel_rfl) (by exact fun _ _ _ h => h) HS.out (by kernel_rfl) (fun w hs => by (repeat (rename ∀ (_ : Act) (_ : World), _ => hK9; clear hK9)); go_simp; rfl) ?_
                (try simp only [aP, aN, aT, aZ, aS])
                refine h_val 27 (v := _) (by simp only [aG, aH, aI]; rfl) (by kernel_rfl) (by kernel_rfl) (by kernel_rfl) (by exact fun _ _ _ h => h) HS.out (by kernel_rfl) (fun w hs => by (repeat (rename ∀ (_ : Act) (_ : World), _ => hK9; clear hK9)); go_simp; rfl) ?_
                (try simp only [aP, aN, aT, aZ, aS])
                refine h_val 28 (v := _) (by simp only [aG, aH, aI]; rfl) (by kernel_rfl) (by kernel_rfl) (by kernel_rfl) (by exact fun _ _ _ h => h) HS.out (by kernel_rfl) (fun w hs => by (repeat (rename ∀ (_ : Act) (_ : World), _ => hK9; clear hK9)); go_simp; rfl) ?_
                (try simp only [aP, aN, aT, aZ, aS])
                refine h_call 29 (by simp only [aG, aH, aI]; rfl) (by kernel_rfl) (by kernel_rfl) rfl (vs := #[.pointer (some ⟨gD, 0, none⟩), .string nm]) (by kernel_rfl) (fnT _ (by decide)) (loose_any (F := allI [poolI L8 S, row strK 9 (.slice AN n cN) nl SN, mp gq strV Value.string (fun _ => True) mw, mp gz strV (Value.int .i64) (fun _ => True) mz, row strK 9 (.slice (some adN) n2 cN2) nl2 SN2, row u8K 5 (.slice A9 n9 c9) xs9 S9]) gD gM _ _ _ m2 nm _ rfl HLOK2.out (SH.pack (is := [_, _]) [_, _, _, _, _, _] HS.out)) (fun e w2 hpost => ?_); obtain ⟨rfl, HS9⟩ := hpost; have HS3 := (show SH w w2 [_, _, _, _, _, _, _, _] from SH.unpack (is := [_, _]) [_, _, _, _, _, _] HS9); refine ⟨_, rfl, HS3, ?_⟩; clear HS HS9; have HS := Aside0.mk HS3; clear HS3; rw [HLO.out]
                (try simp only [aP, aN, aT, aZ, aS])
                refine h_val 30 (v := _) (by simp only [aG, aH, aI]; rfl) (by kernel_rfl) (by kernel_rfl) (by kernel_rfl) (by exact fun _ _ _ h => h) HS.out (by kernel_rfl) (fun w hs => by (repeat (rename ∀ (_ : Act) (_ : World), _ => hK9; clear hK9)); go_simp; rfl) ?_
                (try simp only [aP, aN, aT, aZ, aS])
                refine h_val 31 (v := _) (by simp only [aG, aH, aI]; rfl) (by kernel_rfl) (by kernel_rfl) (by kernel_rfl) (by exact fun _ _ _ h => h) HS.out (by kernel_rfl) (fun w hs => by (repeat (rename ∀ (_ : Act) (_ : World), _ => hK9; clear hK9)); go_simp; rfl) ?_
                (try simp only [aP, aN, aT, aZ, aS])
                refine wpAnyH_done (by kernel_rfl) ?_ _
                clear hstr
                go_wp2_with (first | ((with_reducible refine gC (b := .delete) rfl ?_); refine sh_delete HS.out rfl rfl rfl 4 rfl nm rfl trivial Tryd.underlying42 ownStr ?_; clear HS; intro w1 HS1; (simp only [aZ, aS] at HS1); have HS := Aside0.mk HS1; clear HS1; try simp only [aP, aN, aT, aZ, aS]) | ((first | ((first | ((with_reducible refine gA rfl ?_); refine sh_alloc HS.out rfl rfl (zeT _ (by decide)) ?_) | ((with_reducible refine gB rfl ?_); refine bx HS.out rfl rfl ?_; first | refine bv (v := .agg (List.toArray _)) rfl ?_ | refine bv (v := .int _ _) rfl ?_ | refine bv (v := .slice _ _ _) rfl ?_ | refine bv (v := .bool _) rfl ?_ | refine bv (v := .pointer _) rfl ?_ | refine bv (v := .string _) rfl ?_ | refine bv (v := .map _) rfl ?_ | refine bv (v := .func _ _ _) rfl ?_) | ((with_reducible refine gL rfl ?_); refine sh_lit HS.out rfl rfl (by go_simp; exact ⟨⟨rfl, rfl⟩, rfl⟩) ?_)); clear HS; intro g w1 hg HS1; (simp only [Op1.enc, zeF, segOf, aL, aC, aE] at HS1); have HS := Aside0.mk HS1; clear HS1) | ((with_reducible refine gLd rfl ?_); refine ld2 HS.out rfl rfl rfl (by repeat (first | exact AtI.here | apply AtI.there)) ?_; (first | refine LdK.one ((agT _ (by decide)).trans rfl) rfl ?_ | (refine LdK.agg ((agT _ (by decide)).trans rfl) (szT _ (by decide)) (lb rfl) ?_; try simp only [szL, aP, aN, aT, aZ, aS, aD, aF, aJ, aK, aM, aO]))) | ((with_reducible refine gSt rfl ?_); refine st2 HS.out rfl rfl rfl rfl (by repeat (first | exact AtI.here | apply AtI.there)) ?_; (first | refine sv (u := .agg (List.toArray _)) rfl ?_ | refine sv (u := .int _ _) rfl ?_ | refine sv (u := .slice _ _ _) rfl ?_ | refine sv (u := .bool _) rfl ?_ | refine sv (u := .pointer _) rfl ?_ | refine sv (u := .string _) rfl ?_ | refine sv (u := .map _) rfl ?_ | refine sv (u := .func _ _ _) rfl ?_); refine sw (szT _ (by decide)) rfl (lb rfl) ?_; clear HS; intro w1 HS1; (simp only [Op1.enc, segOf, aL, aZ, aS, putSeg] at HS1); have HS := Aside0.mk HS1; clear HS1)); try simp only [aP, aN, aT, aZ, aS]))
                go_roundw
                case rel => exact ⟨k + 1, _, by omega, by go_num, ⟨HW2.out, nodup_del _ HW.out.2⟩, ⟨HS.out.pick [0, 1, 2, 3, 4, 5, 6] rfl (by decide)⟩⟩
                case measure => simp [intOf]; omega
              · obtain rfl : n2 = k := by omega
                have HSTAY := Aside0.mk (show ∀ k1 v1, (k1, v1) ∈ mw → mget mz k1 = some 0 from fun k1 v1 hv => by
                  have h1 := mget_of_mem HW.out.2 hv
                  rw [HW.out.1 k1, List.take_of_length_le (by rw [HNN2.out]; omega)] at h1
                  split at h1
                  · cases h1
                  · rename_i hni
                    obtain ⟨f, hf, _⟩ := Option.map_eq_some_iff.1 h1
                    rw [HZ0.out k1, hf]
                    rcases Nat.eq_zero_or_pos f.safe with h0 | h0
                    · show some ((f.safe : Nat) : Int) = _
                      rw [h0]; rfl
                    · obtain ⟨f', hf'⟩ := HAFT.out.stay k1 f hf h0
                      exact absurd ((HNK2.out k1).2 (List.mem_map.2 ⟨_, mget_mem hf', rfl⟩)) hni)
                clear HW
                go_wp2_with (first | ((with_reducible refine gRg rfl ?_); refine sh_range HS.out rfl rfl rfl 4 rfl Tryd.underlying42 ?_; clear HS; intro r w1 hr1 HS1; (simp only [aZ, aS] at HS1); have HS := Aside0.mk HS1; clear HS1; try simp only [aP, aN, aT, aZ, aS]) | ((first | ((first | ((with_reducible refine gA rfl ?_); refine sh_alloc HS.out rfl rfl (zeT _ (by decide)) ?_) | ((with_reducible refine gB rfl ?_); refine bx HS.out rfl rfl ?_; first | refine bv (v := .agg (List.toArray _)) rfl ?_ | refine bv (v := .int _ _) rfl ?_ | refine bv (v := .slice _ _ _) rfl ?_ | refine bv (v := .bool _) rfl ?_ | refine bv (v := .pointer _) rfl ?_ | refine bv (v := .string _) rfl ?_ | refine bv (v := .map _) rfl ?_ | refine bv (v := .func _ _ _) rfl ?_) | ((with_reducible refine gL rfl ?_); refine sh_lit HS.out rfl rfl (by go_simp; exact ⟨⟨rfl, rfl⟩, rfl⟩) ?_)); clear HS; intro g w1 hg HS1; (simp only [Op1.enc, zeF, segOf, aL, aC, aE] at HS1); have HS := Aside0.mk HS1; clear HS1) | ((with_reducible refine gLd rfl ?_); refine ld2 HS.out rfl rfl rfl (by repeat (first | exact AtI.here | apply AtI.there)) ?_; (first | refine LdK.one ((agT _ (by decide)).trans rfl) rfl ?_ | (refine LdK.agg ((agT _ (by decide)).trans rfl) (szT _ (by decide)) (lb rfl) ?_; try simp only [szL, aP, aN, aT, aZ, aS, aD, aF, aJ, aK, aM, aO]))) | ((with_reducible refine gSt rfl ?_); refine st2 HS.out rfl rfl rfl rfl (by repeat (first | exact AtI.here | apply AtI.there)) ?_; (first | refine sv (u := .agg (List.toArray _)) rfl ?_ | refine sv (u := .int _ _) rfl ?_ | refine sv (u := .slice _ _ _) rfl ?_ | refine sv (u := .bool _) rfl ?_ | refine sv (u := .pointer _) rfl ?_ | refine sv (u := .string _) rfl ?_ | refine sv (u := .map _) rfl ?_ | refine sv (u := .func _ _ _) rfl ?_); refine sw (szT _ (by decide)) rfl (lb rfl) ?_; clear HS; intro w1 HS1; (simp only [Op1.enc, segOf, aL, aZ, aS, putSeg] at HS1); have HS := Aside0.mk HS1; clear HS1)); try simp only [aP, aN, aT, aZ, aS]))
                go_loopw [21] (fun _ wr => ∃ (left1 : List ByteArray), Aside0 (SH w wr [blk gD [.map (some gM), .int .i64 left, .bool false, .bool false] 52, mpF gM m2, poolI L8 S, row strK 9 (.slice AN n cN) nl SN, mpr gq r strV Value.string (fun _ => True) mw left1, mp gz strV (Value.int .i64) (fun _ => True) mz, row strK 9 (.slice AN2 n2 cN2) nl2 SN2])) (fun _ wr => leftNo wr gq r)
                case atStart => exact ⟨_, HS⟩
                case round =>
                  clear HS
                  obtain ⟨left1, HS⟩ := hrel
                  have HLEFT := Aside0.mk (rangeLeft_eq HS.out 4 rfl)
                  go_wp2_with (first | ((with_reducible refine gNx rfl ?_); refine sh_next HS.out rfl rfl rfl 4 rfl strV_inj ?_ ?_))
                  · intro hl0
                    subst hl0
                    go_wp2
                    go_ret
                    exact ⟨rfl, HS.out.below⟩
                  · intro k1 v1 l1 l2 w1 hl hv HS1 hen
                    have HMZ := Aside0.mk (HSTAY.out k1 v1 hv)
                    clear HS hv
                    subst hl
                    have HS := Aside0.mk (show SH w w1 [blk gD [.map (some gM), .int .i64 left, .bool false, .bool false] 52, mpF gM m2, poolI L8 S, row strK 9 (.slice AN n cN) nl SN, mpr gq r strV Value.string (fun _ => True) mw (l1 ++ l2), mp gz strV (Value.int .i64) (fun _ => True) mz, row strK 9 (.slice AN2 n2 cN2) nl2 SN2] from HS1)
                    clear HS1
                    unfold strV at hen ⊢
                    go_wp2_with (first | (((with_reducible refine gLk rfl ?_); refine sh_lookup HS.out rfl rfl rfl 5 rfl k1 rfl trivial Tryd.underlying43 ownStr (z := (0 : Int)) zeroI ?_; try simp only [aP, aN, aT, aZ, aS]); (rw [HMZ.out]); (simp only [Option.getD_some])) | ((first | ((first | ((with_reducible refine gA rfl ?_); refine sh_alloc HS.out rfl rfl (zeT _ (by decide)) ?_) | ((with_reducible refine gB rfl ?_); refine bx HS.out rfl rfl ?_; first | refine bv (v := .agg (List.toArray _)) rfl ?_ | refine bv (v := .int _ _) rfl ?_ | refine bv (v := .slice _ _ _) rfl ?_ | refine bv (v := .bool _) rfl ?_ | refine bv (v := .pointer _) rfl ?_ | refine bv (v := .string _) rfl ?_ | refine bv (v := .map _) rfl ?_ | refine bv (v := .func _ _ _) rfl ?_) | ((with_reducible refine gL rfl ?_); refine sh_lit HS.out rfl rfl (by go_simp; exact ⟨⟨rfl, rfl⟩, rfl⟩) ?_)); clear HS; intro g w1 hg HS1; (simp only [Op1.enc, zeF, segOf, aL, aC, aE] at HS1); have HS := Aside0.mk HS1; clear HS1) | ((with_reducible refine gLd rfl ?_); refine ld2 HS.out rfl rfl rfl (by repeat (first | exact AtI.here | apply AtI.there)) ?_; (first | refine LdK.one ((agT _ (by decide)).trans rfl) rfl ?_ | (refine LdK.agg ((agT _ (by decide)).trans rfl) (szT _ (by decide)) (lb rfl) ?_; try simp only [szL, aP, aN, aT, aZ, aS, aD, aF, aJ, aK, aM, aO]))) | ((with_reducible refine gSt rfl ?_); refine st2 HS.out rfl rfl rfl rfl (by repeat (first | exact AtI.here | apply AtI.there)) ?_; (first | refine sv (u := .agg (List.toArray _)) rfl ?_ | refine sv (u := .int _ _) rfl ?_ | refine sv (u := .slice _ _ _) rfl ?_ | refine sv (u := .bool _) rfl ?_ | refine sv (u := .pointer _) rfl ?_ | refine sv (u := .string _) rfl ?_ | refine sv (u := .map _) rfl ?_ | refine sv (u := .func _ _ _) rfl ?_); refine sw (szT _ (by decide)) rfl (lb rfl) ?_; clear HS; intro w1 HS1; (simp only [Op1.enc, segOf, aL, aZ, aS, putSeg] at HS1); have HS := Aside0.mk HS1; clear HS1)); try simp only [aP, aN, aT, aZ, aS]))
                    go_roundw
                    case rel => exact ⟨_, HS⟩
                    case measure => rw [HLEFT.out, rangeLeft_eq HS.out 4 rfl]; simp
namespace LawSafe
def opsS : Sh := .slice 29 LawArmed.opS
def keepS : Sh := .slice 3 (.int .i64)
theorem walk (W : World) (cs0 : List Value) (x0 : opsS.D) (hk0 : opsS.kd.K W x0 cs0) (hw0 : opsS.wf x0) (hz0 : opsS.sized Tryd.prog x0) (cs1 : List Value) (x1 : keepS.D) (hk1 : keepS.kd.K W x1 cs1) (hw1 : keepS.wf x1) (hz1 : keepS.sized Tryd.prog x1) :
    Calls Tryd.prog 5 #[opsS.val cs0, keepS.val cs1] W fun e W' => e = .returned (.bool true) ∧ Below W.heap.size W W' := by
  obtain ⟨A, c, rfl, hl, hC⟩ := hk0
  obtain ⟨K, ck, rfl, hlk, hCk⟩ := hk1
  obtain ⟨ys, _, hr, hE⟩ := C_mapR hC default (enc := Op1.enc) (sz := 5) rfl (R := fun y => y.okW W) (fun x hx cs h => op_openG x cs h (hw0.2 x hx))
  obtain ⟨ks, _, hrk, _⟩ := C_mapR hCk (0 : Int) (enc := ints .i64) (sz := 1) rfl (R := fun _ => True) (fun x _ cs h => ⟨x, h, trivial⟩)
  exact lawSafe_any A c ys K _ ck ks W hr hE hrk hlk
end LawSafe
end Go.Proofs.YtgcgnhcjjlnloaaDoor.Dk
