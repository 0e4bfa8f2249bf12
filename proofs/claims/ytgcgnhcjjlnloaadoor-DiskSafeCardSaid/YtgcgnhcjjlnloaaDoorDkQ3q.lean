/- Lemmas towards the law: what of the text DkQ3 it needs. -/
import Derived.Test.YtgcgnhcjjlnloaaDoorDkQ0q
namespace Go.Proofs.YtgcgnhcjjlnloaaDoor.Dk
open Go.RowKit Go.Proofs.YtgcgnhcjjlnloaaDoorW.PrintWords Go.Proofs.YtgcgnhcjjlnloaaDoor.Sl
set_option linter.unusedVariables false
set_option linter.unusedSimpArgs false
theorem rsyncF_len (F : List RF) (name : ByteArray) (off : Bool) : (rsyncF F name off).length = F.length := by
  unfold rsyncF
  split
  · rfl
  · split
    · rw [List.length_set]
    · rfl
theorem DOk.sync {Bd : Nat} {left : Int} {armed off : Bool} {m : FM} {L : List (Option Addr × List Int)} (h : DOk Bd left armed m L) (name : ByteArray) : DOk (Bd + 10000) left armed (syncM off m name (mget m name)) L := by
  refine DOk.up ?_ (show Bd ≤ Bd + 10000 by omega)
  unfold syncM
  split
  · exact h
  · cases hg : mget m name with
    | none => exact h
    | some f => exact h.set (h.small _ (mget_mem hg)) (.inl (by rw [hg]; rfl)) (h.ok.sync hg) h.lf
theorem DOk.rem {Bd : Nat} {left : Int} {armed off : Bool} {m : FM} {L : List (Option Addr × List Int)} (h : DOk Bd left armed m L) (name : ByteArray) : DOk (Bd + 10000) left armed (remM off m name (mget m name)) L := by
  refine DOk.up ?_ (show Bd ≤ Bd + 10000 by omega)
  unfold remM
  split
  · exact h
  · cases hg : mget m name with
    | none => exact h
    | some f => exact h.sub (mdel_sub m name) (fun p hp => hp) h.lf
set_option maxHeartbeats 6400000 in
set_option maxRecDepth 100000 in
theorem do_2 {w0 w : World} {G : HP} (gD gM gX Bd : Nat) (left : Int) (armed off : Bool) (m : FM) (L : List (Option Addr × List Int)) (S : Nat → Prop) (x : RDk) (A : Option Addr) (c : Nat) (SR : Nat → Prop) (on : Int) (name b : ByteArray) (K : Option Addr) (nk ck : Nat) (ks : List Int) (hd : DOk Bd left armed m L) (hx : XOk Bd x) (hBd : Bd ≤ 70368744000000) (hb : b.size ≤ 10000) (hnz : name.size ≤ 9223372036854775807) (hon : on ≤ 9223372036854775807) (hK : ∀ w, Below w0.heap.size w0 w → G.ok w → Rd (ints .i64) 1 w K nk ks) (hck : nk ≤ ck) (HS0 : SH w0 w [blk gD [.map (some gM), .int .i64 left, .bool armed, .bool off] 52, mpF gM m, poolI L S, blk gX [.slice A x.F.length c, .int .i64 x.arm, .bool x.off] 60, row rfK 65 (.slice A x.F.length c) x.F SR, G]) :
    Calls Tryd.prog 12 #[.pointer (some ⟨gD, 0, none⟩), .pointer (some ⟨gX, 0, none⟩), .agg #[.int .i64 2, .int .i64 on, .string name, .string b, .slice K nk ck]] w (DoPost w0 gX Bd 2 gD gM left armed off m x G) := by
  obtain ⟨F, arm, xoff⟩ := x
  simp only at HS0
  have hxr := hx.rd (Nat.le_trans hBd (by omega))
  obtain ⟨n, hn⟩ : ∃ n, F.length = n := ⟨_, rfl⟩
  have hn64 : n ≤ 64 := by rw [← hn]; exact hx.len
  have hn1 : n ≤ 1000 := by omega
  rw [hn] at HS0
  have HM := Aside0.mk hn
  have HS := Aside0.mk HS0
  have HD := Aside0.mk hd
  have HX := Aside0.mk hx
  have HXR := Aside0.mk hxr
  have HKA := Aside0.mk hK
  clear HS0 hd hx hxr hn hK
  go_enter Tryd.func12, Tryd.ntmps12
  go_upto_region 16 with (first | ((fail_if_success (have _ := gt)); ((with_reducible refine gB rfl ?_); refine bx HS.out rfl rfl ?_; (first | refine bv (v := .agg (List.toArray _)) rfl ?_ | refine bv (v := .int _ _) rfl ?_ | refine bv (v := .slice _ _ _) rfl ?_ | refine bv (v := .bool _) rfl ?_ | refine bv (v := .pointer _) rfl ?_ | refine bv (v := .string _) rfl ?_ | refine bv (v := .map _) rfl ?_ | refine bv (v := .func _ _ _) rfl ?_); clear HS; intro gt w1 hgt HS1; (simp only [RF.enc, segOf, aL, aC, aE] at HS1); have HS := Aside0.mk HS1; clear HS1; try simp only [aP, aN, aT, aZ, aS])) | ((first | ((first | ((with_reducible refine gA rfl ?_); refine sh_alloc HS.out rfl rfl (zeT _ (by decide)) ?_) | ((with_reducible refine gB rfl ?_); refine bx HS.out rfl rfl ?_; first | refine bv (v := .agg (List.toArray _)) rfl ?_ | refine bv (v := .int _ _) rfl ?_ | refine bv (v := .slice _ _ _) rfl ?_ | refine bv (v := .bool _) rfl ?_ | refine bv (v := .pointer _) rfl ?_ | refine bv (v := .string _) rfl ?_ | refine bv (v := .map _) rfl ?_ | refine bv (v := .func _ _ _) rfl ?_) | ((with_reducible refine gL rfl ?_); refine sh_lit HS.out rfl rfl (by go_simp; exact ⟨⟨rfl, rfl⟩, rfl⟩) ?_)); clear HS; intro g w1 hg HS1; (simp only [RF.enc, zeF, segOf, aL, aC, aE] at HS1); have HS := Aside0.mk HS1; clear HS1) | ((with_reducible refine gLd rfl ?_); refine ld2 HS.out rfl rfl rfl (by repeat (first | exact AtI.here | apply AtI.there)) ?_; (first | refine LdK.one ((agT _ (by decide)).trans rfl) rfl ?_ | (refine LdK.agg ((agT _ (by decide)).trans rfl) (szT _ (by decide)) (lb rfl) ?_; try simp only [szL, aP, aN, aT, aZ, aS, aD, aF, aJ, aK, aM, aO]))) | ((with_reducible refine gSt rfl ?_); refine st2 HS.out rfl rfl rfl rfl (by repeat (first | exact AtI.here | apply AtI.there)) ?_; (first | refine sv (u := .agg (List.toArray _)) rfl ?_ | refine sv (u := .int _ _) rfl ?_ | refine sv (u := .slice _ _ _) rfl ?_ | refine sv (u := .bool _) rfl ?_ | refine sv (u := .pointer _) rfl ?_ | refine sv (u := .string _) rfl ?_ | refine sv (u := .map _) rfl ?_ | refine sv (u := .func _ _ _) rfl ?_); refine sw (szT _ (by decide)) rfl (lb rfl) ?_; clear HS; intro w1 HS1; (simp only [RF.enc, segOf, aL, aZ, aS, putSeg] at HS1); have HS := Aside0.mk HS1; clear HS1)); try simp only [aP, aN, aT, aZ, aS]))
  have HC := Aside0.mk (HS.out.pick [6] rfl (by decide))
  refine held_start mixed HC.out (fun HC1 => ?_)
  have HS1 := HS.out.drew
  clear HS HC
  have HS := Aside0.mk HS1
  have HC := Aside0.mk HC1
  clear HS1 HC1
  refine h_val 0 (v := _) (by simp only [aG, aH, aI]; rfl) (by kernel_rfl) (by kernel_rfl) (by kernel_rfl) (by exact fun _ _ _ h => h) HC.out (by kernel_rfl) (fun w hs => by (repeat (rename ∀ (_ : Act) (_ : World), _ => hK9; clear hK9)); go_simp; rfl) ?_
  (try simp only [aP, aN, aT, aZ, aS])
  refine h_val 1 (v := _) (by simp only [aG, aH, aI]; rfl) (by kernel_rfl) (by kernel_rfl) (by kernel_rfl) (by exact fun _ _ _ h => h) HC.out (by kernel_rfl) (fun w hs => by (repeat (rename ∀ (_ : Act) (_ : World), _ => hK9; clear hK9)); go_simp; rfl) ?_
  (try simp only [aP, aN, aT, aZ, aS])
  refine h_val 2 (v := _) (by simp only [aG, aH, aI]; rfl) (by kernel_rfl) (by kernel_rfl) (by kernel_rfl) (by exact fun _ _ _ h => h) HC.out (by kernel_rfl) (fun w hs => by (repeat (rename ∀ (_ : Act) (_ : World), _ => hK9; clear hK9)); go_simp; rfl) ?_
  (try simp only [aP, aN, aT, aZ, aS])
  refine h_load 3 (by simp only [aG, aH, aI]; rfl) (by kernel_rfl) (by kernel_rfl) (by kernel_rfl) (by exact fun _ _ _ h => h) HC.out (by kernel_rfl) rfl rfl 0 rfl ((agT _ (by decide)).trans rfl) rfl ?_
  (try simp only [aP, aN, aT, aZ, aS])
  refine h_val 5 (v := _) (by simp only [aG, aH, aI]; rfl) (by kernel_rfl) (by kernel_rfl) (by kernel_rfl) (by exact fun _ _ _ h => h) HC.out (by kernel_rfl) (fun w hs => by (repeat (rename ∀ (_ : Act) (_ : World), _ => hK9; clear hK9)); go_simp; rfl) ?_
  (try simp only [aP, aN, aT, aZ, aS])
  refine h_val 6 (v := _) (by simp only [aG, aH, aI]; rfl) (by kernel_rfl) (by kernel_rfl) (by kernel_rfl) (by exact fun _ _ _ h => h) HC.out (by kernel_rfl) (fun w hs => by (repeat (rename ∀ (_ : Act) (_ : World), _ => hK9; clear hK9)); go_simp; rfl) ?_
  (try simp only [aP, aN, aT, aZ, aS])
  refine h_load 7 (by simp only [aG, aH, aI]; rfl) (by kernel_rfl) (by kernel_rfl) (by kernel_rfl) (by exact fun _ _ _ h => h) HC.out (by kernel_rfl) rfl rfl 0 rfl ((agT _ (by decide)).trans rfl) rfl ?_
  (try simp only [aP, aN, aT, aZ, aS])
  refine h_call 4 (by simp only [aG, aH, aI]; rfl) (by kernel_rfl) (by kernel_rfl) rfl (vs := #[.pointer (some ⟨gD, 0, none⟩), .string name]) (by kernel_rfl) (fnT _ (by decide)) (sync_any (F := allI [blk gX [.slice A n c, .int .i64 arm, .bool xoff] 60, row rfK 65 (.slice A n c) F SR, G, blk gt [.int .i64 2, .int .i64 on, .string name, .string b, .slice K nk ck] 29]) gD gM left armed off m L S name _ rfl (SH.pack (is := [_, _, _]) [_, _, _, _] HS.out)) (fun e w2 hpost => ?_); obtain ⟨rfl, HS9⟩ := hpost; have HS3 := (show SH w0 w2 [_, _, _, _, _, _, _] from SH.unpack (is := [_, _, _]) [_, _, _, _] HS9); have HC1 := HS3.pick [6] rfl (by decide); refine ⟨_, rfl, HC1, ?_⟩; clear HS HC HS9; have HS := Aside0.mk HS3; have HC := Aside0.mk HC1; clear HS3 HC1
  (try simp only [aP, aN, aT, aZ, aS])
  refine h_call 8 (by simp only [aG, aH, aI]; rfl) (by kernel_rfl) (by kernel_rfl) rfl (vs := #[.pointer (some ⟨gX, 0, none⟩), .string name]) (by kernel_rfl) (fnT _ (by decide)) (rsync_any (G := allI [blk gD [.map (some gM), .int .i64 left, .bool armed, .bool off] 52, mpF gM (syncM off m name (mget m name)), poolI L S, G, blk gt [.int .i64 2, .int .i64 on, .string name, .string b, .slice K nk ck] 29]) gX A n c (.int .i64 arm) xoff F SR name hn1 (SH.pack (is := [_, _]) [_, _, _, _, _] (HS.out.pick [3, 4, 0, 1, 2, 5, 6] rfl (by decide)))) (fun e w2 hpost => ?_); obtain ⟨S9, rfl, HS9⟩ := hpost; have HS3 := (show SH w0 w2 [_, _, _, _, _, _, _] from (SH.unpack (is := [_, _]) [_, _, _, _, _] HS9).pick [2, 3, 4, 0, 1, 5, 6] rfl (by decide)); have HC1 := HS3.pick [6] rfl (by decide); refine ⟨_, rfl, HC1, ?_⟩; clear HS HC HS9; have HS := Aside0.mk HS3; have HC := Aside0.mk HC1; clear HS3 HC1
  (try simp only [aP, aN, aT, aZ, aS])
  refine h_val 9 (v := _) (by simp only [aG, aH, aI]; rfl) (by kernel_rfl) (by kernel_rfl) (by kernel_rfl) (by exact fun _ _ _ h => h) HC.out (by kernel_rfl) (fun w hs => by (repeat (rename ∀ (_ : Act) (_ : World), _ => hK9; clear hK9)); go_simp; rfl) ?_
  (try simp only [aP, aN, aT, aZ, aS])
  refine h_val 10 (v := _) (by simp only [aG, aH, aI]; rfl) (by kernel_rfl) (by kernel_rfl) (by kernel_rfl) (by exact fun _ _ _ h => h) HC.out (by kernel_rfl) (fun w hs => by (repeat (rename ∀ (_ : Act) (_ : World), _ => hK9; clear hK9)); go_simp; rfl) ?_
  (try simp only [aP, aN, aT, aZ, aS])
  refine h_val 11 (v := _) (by simp only [aG, aH, aI]; rfl) (by kernel_rfl) (by kernel_rfl) (by kernel_rfl) (by exact fun _ _ _ h => h) HC.out (by kernel_rfl) (fun w hs => by (repeat (rename ∀ (_ : Act) (_ : World), _ => hK9; clear hK9)); go_simp; rfl) ?_
  (try simp only [aP, aN, aT, aZ, aS])
  refine wpAnyH_done (by kernel_rfl) ?_ _
  go_wp2
  go_ret2
  have hlen : (rsyncF F name xoff).length = n := by rw [rsyncF_len, HM.out]
  exact ⟨gD, gM, left, armed, off, syncM off m name (mget m name), L, S, ⟨rsyncF F name xoff, arm, xoff⟩, _, A, c, S9, rfl, HD.out.sync name, (HX.out.sync name xoff).up (by omega), fun h => by
    have h1 : xoff = off := h.off
    refine ⟨?_, ?_, h.off, h.arm⟩
    · rw [h1, h.sim.findE name off]; simp
    · show Sim _ (rsyncF F name xoff)
      rw [h1]
      exact h.sim.sync name off, fun _ => ⟨rfl, rfl, fun h1 h2 => ⟨h1, h2⟩⟩, by show SH w0 _ [blk gD [.map (some gM), .int .i64 left, .bool armed, .bool off] 52, mpF gM (syncM off m name (mget m name)), poolI L S, blk gX [.slice A (rsyncF F name xoff).length c, .int .i64 arm, .bool xoff] 60, row rfK 65 (.slice A (rsyncF F name xoff).length c) (rsyncF F name xoff) S9, G]; rw [hlen]; exact HS.out.pick [0, 1, 2, 3, 4, 5] rfl (by decide)⟩
set_option maxHeartbeats 6400000 in
set_option maxRecDepth 100000 in
theorem do_3 {w0 w : World} {G : HP} (gD gM gX Bd : Nat) (left : Int) (armed off : Bool) (m : FM) (L : List (Option Addr × List Int)) (S : Nat → Prop) (x : RDk) (A : Option Addr) (c : Nat) (SR : Nat → Prop) (on : Int) (name b : ByteArray) (K : Option Addr) (nk ck : Nat) (ks : List Int) (hd : DOk Bd left armed m L) (hx : XOk Bd x) (hBd : Bd ≤ 70368744000000) (hb : b.size ≤ 10000) (hnz : name.size ≤ 9223372036854775807) (hon : on ≤ 9223372036854775807) (hK : ∀ w, Below w0.heap.size w0 w → G.ok w → Rd (ints .i64) 1 w K nk ks) (hck : nk ≤ ck) (HS0 : SH w0 w [blk gD [.map (some gM), .int .i64 left, .bool armed, .bool off] 52, mpF gM m, poolI L S, blk gX [.slice A x.F.length c, .int .i64 x.arm, .bool x.off] 60, row rfK 65 (.slice A x.F.length c) x.F SR, G]) :
    Calls Tryd.prog 12 #[.pointer (some ⟨gD, 0, none⟩), .pointer (some ⟨gX, 0, none⟩), .agg #[.int .i64 3, .int .i64 on, .string name, .string b, .slice K nk ck]] w (DoPost w0 gX Bd 3 gD gM left armed off m x G) := by
  obtain ⟨F, arm, xoff⟩ := x
  simp only at HS0
  have hxr := hx.rd (Nat.le_trans hBd (by omega))
  obtain ⟨n, hn⟩ : ∃ n, F.length = n := ⟨_, rfl⟩
  have hn64 : n ≤ 64 := by rw [← hn]; exact hx.len
  have hn1 : n ≤ 1000 := by omega
  rw [hn] at HS0
  have HM := Aside0.mk hn
  have HS := Aside0.mk HS0
  have HD := Aside0.mk hd
  have HX := Aside0.mk hx
  have HXR := Aside0.mk hxr
  have HKA := Aside0.mk hK
  clear HS0 hd hx hxr hn hK
  go_enter Tryd.func12, Tryd.ntmps12
  go_upto_region 18 with (first | ((fail_if_success (have _ := gt)); ((with_reducible refine gB rfl ?_); refine bx HS.out rfl rfl ?_; (first | refine bv (v := .agg (List.toArray _)) rfl ?_ | refine bv (v := .int _ _) rfl ?_ | refine bv (v := .slice _ _ _) rfl ?_ | refine bv (v := .bool _) rfl ?_ | refine bv (v := .pointer _) rfl ?_ | refine bv (v := .string _) rfl ?_ | refine bv (v := .map _) rfl ?_ | refine bv (v := .func _ _ _) rfl ?_); clear HS; intro gt w1 hgt HS1; (simp only [RF.enc, segOf, aL, aC, aE] at HS1); have HS := Aside0.mk HS1; clear HS1; try simp only [aP, aN, aT, aZ, aS])) | ((first | ((first | ((with_reducible refine gA rfl ?_); refine sh_alloc HS.out rfl rfl (zeT _ (by decide)) ?_) | ((with_reducible refine gB rfl ?_); refine bx HS.out rfl rfl ?_; first | refine bv (v := .agg (List.toArray _)) rfl ?_ | refine bv (v := .int _ _) rfl ?_ | refine bv (v := .slice _ _ _) rfl ?_ | refine bv (v := .bool _) rfl ?_ | refine bv (v := .pointer _) rfl ?_ | refine bv (v := .string _) rfl ?_ | refine bv (v := .map _) rfl ?_ | refine bv (v := .func _ _ _) rfl ?_) | ((with_reducible refine gL rfl ?_); refine sh_lit HS.out rfl rfl (by go_simp; exact ⟨⟨rfl, rfl⟩, rfl⟩) ?_)); clear HS; intro g w1 hg HS1; (simp only [RF.enc, zeF, segOf, aL, aC, aE] at HS1); have HS := Aside0.mk HS1; clear HS1) | ((with_reducible refine gLd rfl ?_); refine ld2 HS.out rfl rfl rfl (by repeat (first | exact AtI.here | apply AtI.there)) ?_; (first | refine LdK.one ((agT _ (by decide)).trans rfl) rfl ?_ | (refine LdK.agg ((agT _ (by decide)).trans rfl) (szT _ (by decide)) (lb rfl) ?_; try simp only [szL, aP, aN, aT, aZ, aS, aD, aF, aJ, aK, aM, aO]))) | ((with_reducible refine gSt rfl ?_); refine st2 HS.out rfl rfl rfl rfl (by repeat (first | exact AtI.here | apply AtI.there)) ?_; (first | refine sv (u := .agg (List.toArray _)) rfl ?_ | refine sv (u := .int _ _) rfl ?_ | refine sv (u := .slice _ _ _) rfl ?_ | refine sv (u := .bool _) rfl ?_ | refine sv (u := .pointer _) rfl ?_ | refine sv (u := .string _) rfl ?_ | refine sv (u := .map _) rfl ?_ | refine sv (u := .func _ _ _) rfl ?_); refine sw (szT _ (by decide)) rfl (lb rfl) ?_; clear HS; intro w1 HS1; (simp only [RF.enc, segOf, aL, aZ, aS, putSeg] at HS1); have HS := Aside0.mk HS1; clear HS1)); try simp only [aP, aN, aT, aZ, aS]))
  have HC := Aside0.mk (HS.out.pick [6] rfl (by decide))
  refine held_start mixed HC.out (fun HC1 => ?_)
  have HS1 := HS.out.drew
  clear HS HC
  have HS := Aside0.mk HS1
  have HC := Aside0.mk HC1
  clear HS1 HC1
  refine h_val 0 (v := _) (by simp only [aG, aH, aI]; rfl) (by kernel_rfl) (by kernel_rfl) (by kernel_rfl) (by exact fun _ _ _ h => h) HC.out (by kernel_rfl) (fun w hs => by (repeat (rename ∀ (_ : Act) (_ : World), _ => hK9; clear hK9)); go_simp; rfl) ?_
  (try simp only [aP, aN, aT, aZ, aS])
  refine h_val 1 (v := _) (by simp only [aG, aH, aI]; rfl) (by kernel_rfl) (by kernel_rfl) (by kernel_rfl) (by exact fun _ _ _ h => h) HC.out (by kernel_rfl) (fun w hs => by (repeat (rename ∀ (_ : Act) (_ : World), _ => hK9; clear hK9)); go_simp; rfl) ?_
  (try simp only [aP, aN, aT, aZ, aS])
  refine h_val 2 (v := _) (by simp only [aG, aH, aI]; rfl) (by kernel_rfl) (by kernel_rfl) (by kernel_rfl) (by exact fun _ _ _ h => h) HC.out (by kernel_rfl) (fun w hs => by (repeat (rename ∀ (_ : Act) (_ : World), _ => hK9; clear hK9)); go_simp; rfl) ?_
  (try simp only [aP, aN, aT, aZ, aS])
  refine h_load 3 (by simp only [aG, aH, aI]; rfl) (by kernel_rfl) (by kernel_rfl) (by kernel_rfl) (by exact fun _ _ _ h => h) HC.out (by kernel_rfl) rfl rfl 0 rfl ((agT _ (by decide)).trans rfl) rfl ?_
  (try simp only [aP, aN, aT, aZ, aS])
  refine h_val 5 (v := _) (by simp only [aG, aH, aI]; rfl) (by kernel_rfl) (by kernel_rfl) (by kernel_rfl) (by exact fun _ _ _ h => h) HC.out (by kernel_rfl) (fun w hs => by (repeat (rename ∀ (_ : Act) (_ : World), _ => hK9; clear hK9)); go_simp; rfl) ?_
  (try simp only [aP, aN, aT, aZ, aS])
  refine h_val 6 (v := _) (by simp only [aG, aH, aI]; rfl) (by kernel_rfl) (by kernel_rfl) (by kernel_rfl) (by exact fun _ _ _ h => h) HC.out (by kernel_rfl) (fun w hs => by (repeat (rename ∀ (_ : Act) (_ : World), _ => hK9; clear hK9)); go_simp; rfl) ?_
  (try simp only [aP, aN, aT, aZ, aS])
  refine h_load 7 (by simp only [aG, aH, aI]; rfl) (by kernel_rfl) (by kernel_rfl) (by kernel_rfl) (by exact fun _ _ _ h => h) HC.out (by kernel_rfl) rfl rfl 0 rfl ((agT _ (by decide)).trans rfl) rfl ?_
  (try simp only [aP, aN, aT, aZ, aS])
  refine h_call 4 (by simp only [aG, aH, aI]; rfl) (by kernel_rfl) (by kernel_rfl) rfl (vs := #[.pointer (some ⟨gD, 0, none⟩), .string name]) (by kernel_rfl) (fnT _ (by decide)) (remove_any (F := allI [blk gX [.slice A n c, .int .i64 arm, .bool xoff] 60, row rfK 65 (.slice A n c) F SR, G, blk gt [.int .i64 3, .int .i64 on, .string name, .string b, .slice K nk ck] 29]) gD gM left armed off m L S name _ rfl (SH.pack (is := [_, _, _]) [_, _, _, _] HS.out)) (fun e w2 hpost => ?_); obtain ⟨rfl, HS9⟩ := hpost; have HS3 := (show SH w0 w2 [_, _, _, _, _, _, _] from SH.unpack (is := [_, _, _]) [_, _, _, _] HS9); have HC1 := HS3.pick [6] rfl (by decide); refine ⟨_, rfl, HC1, ?_⟩; clear HS HC HS9; have HS := Aside0.mk HS3; have HC := Aside0.mk HC1; clear HS3 HC1
  (try simp only [aP, aN, aT, aZ, aS])
  refine h_call 8 (by simp only [aG, aH, aI]; rfl) (by kernel_rfl) (by kernel_rfl) rfl (vs := #[.pointer (some ⟨gX, 0, none⟩), .string name]) (by kernel_rfl) (fnT _ (by decide)) (rremove_any (G := allI [blk gD [.map (some gM), .int .i64 left, .bool armed, .bool off] 52, mpF gM (remM off m name (mget m name)), poolI L S, G, blk gt [.int .i64 3, .int .i64 on, .string name, .string b, .slice K nk ck] 29]) gX A n c (.int .i64 arm) xoff F SR name hn1 (SH.pack (is := [_, _]) [_, _, _, _, _] (HS.out.pick [3, 4, 0, 1, 2, 5, 6] rfl (by decide)))) (fun e w2 hpost => ?_); obtain ⟨A9, c9, S9, rfl, HS9⟩ := hpost; have HS3 := (show SH w0 w2 [_, _, _, _, _, _, _] from (SH.unpack (is := [_, _]) [_, _, _, _, _] HS9).pick [2, 3, 4, 0, 1, 5, 6] rfl (by decide)); have HC1 := HS3.pick [6] rfl (by decide); refine ⟨_, rfl, HC1, ?_⟩; clear HS HC HS9; have HS := Aside0.mk HS3; have HC := Aside0.mk HC1; clear HS3 HC1
  (try simp only [aP, aN, aT, aZ, aS])
  refine h_val 9 (v := _) (by simp only [aG, aH, aI]; rfl) (by kernel_rfl) (by kernel_rfl) (by kernel_rfl) (by exact fun _ _ _ h => h) HC.out (by kernel_rfl) (fun w hs => by (repeat (rename ∀ (_ : Act) (_ : World), _ => hK9; clear hK9)); go_simp; rfl) ?_
  (try simp only [aP, aN, aT, aZ, aS])
  refine h_val 10 (v := _) (by simp only [aG, aH, aI]; rfl) (by kernel_rfl) (by kernel_rfl) (by kernel_rfl) (by exact fun _ _ _ h => h) HC.out (by kernel_rfl) (fun w hs => by (repeat (rename ∀ (_ : Act) (_ : World), _ => hK9; clear hK9)); go_simp; rfl) ?_
  (try simp only [aP, aN, aT, aZ, aS])
  refine h_val 11 (v := _) (by simp only [aG, aH, aI]; rfl) (by kernel_rfl) (by kernel_rfl) (by kernel_rfl) (by exact fun _ _ _ h => h) HC.out (by kernel_rfl) (fun w hs => by (repeat (rename ∀ (_ : Act) (_ : World), _ => hK9; clear hK9)); go_simp; rfl) ?_
  (try simp only [aP, aN, aT, aZ, aS])
  refine wpAnyH_done (by kernel_rfl) ?_ _
  go_wp2
  go_ret2
  exact ⟨gD, gM, left, armed, off, remM off m name (mget m name), L, S, ⟨rremF F name xoff, arm, xoff⟩, _, A9, c9, S9, rfl, HD.out.rem name, (HX.out.rem name xoff).up (by omega), fun h => by
    have h1 : xoff = off := h.off
    refine ⟨?_, ?_, h.off, h.arm⟩
    · rw [h1, h.sim.findE name off]; simp
    · show Sim _ (rremF F name xoff)
      rw [h1]
      exact h.sim.rem HD.out.nd name off, fun _ => ⟨rfl, rfl, fun h1 h2 => ⟨h1, h2⟩⟩, HS.out.pick [0, 1, 2, 3, 4, 5] rfl (by decide)⟩
end Go.Proofs.YtgcgnhcjjlnloaaDoor.Dk
