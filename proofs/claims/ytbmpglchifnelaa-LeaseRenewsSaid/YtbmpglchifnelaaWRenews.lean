/- LeaseRenews, walked: a lease that is renewed never ends earlier than it did, and is the same one; one that is over is not renewed: for all devices and times. -/
import Derived.Test.YtbmpglchifnelaaLAwake
import Derived.BigQuiet
import Derived.Deep.QuietTactic
import Derived.Deep.RegionWith
import Derived.Deep.Cut
import Derived.Deep.CutRange
import Derived.Deep.DeepCutAuto
namespace Go.Proofs.Ytbmpglchifnelaa
open Go.RowKit Go.Maps Go.Proofs.YtbmpglchifnelaaW.PrintWords Go.Proofs.YtbmpglchifnelaaW.PrintLast Go.Proofs.YtbmpglchifnelaaW.PrintMore
set_option linter.unusedVariables false
set_option linter.unusedSimpArgs false
attribute [local go_sem] Oper.semAt_some max2_int min2_int max_two min_two max_three min_three max_four min_four
attribute [local go_sem high] eqA3

theorem ren_bad (d u a b : Int) (h : ¬ (okNow a ∧ okLife b)) : renewL [(1, d, u)] 1 a b = ([(1, d, u)], (0, 0, 0), 1) := by
  unfold renewL
  rw [if_pos h]
  rfl
theorem ren_over (d u a b : Int) (h : okNow a ∧ okLife b) (hu : 0 < u) (ho : u ≤ a) : renewL [(1, d, u)] 1 a b = ([(1, d, u)], (0, 0, 0), 9) := by
  unfold renewL
  rw [if_neg (by simpa using h), if_neg (by simp only [Decidable.not_not]; exact ⟨by omega, by simp, hu⟩), if_pos (show (atN [(1, d, u)] 1).2.2 ≤ a from ho)]
  rfl
theorem ren_ok (d u a b : Int) (h : okNow a ∧ okLife b) (hu : 0 < u) (ho : ¬ u ≤ a) : renewL [(1, d, u)] 1 a b = ([(1, d, max u (a + b))], (1, d, max u (a + b)), 0) := by
  unfold renewL
  rw [if_neg (by simpa using h), if_neg (by simp only [Decidable.not_not]; exact ⟨by omega, by simp, hu⟩), if_neg (show ¬ (atN [(1, d, u)] 1).2.2 ≤ a from ho)]
  rfl
theorem ren_of (d u : Int) (hu : 0 < u) : ofD [(1, d, u)] d = ((1, d, u), true) := by
  unfold ofD ofL
  rw [List.find?_cons_of_pos (by simp [isOf, hu])]
/-- A pair of a row. -/
theorem pair_at {w : World} {A : Option Addr} {n : Nat} {L : List (Int × Int)} (h : (Kd.pair (Kd.int .i64) (Kd.int .i64)).C w A n L) (i : Nat) (hi : i < n) : ∃ ad, A = some ad ∧ w.cell? (ad.add (i * 2)) = some (.int .i64 (L.getD i (0, 0)).1) ∧ w.cell? (ad.add (i * 2 + 1)) = some (.int .i64 (L.getD i (0, 0)).2) := by
  obtain ⟨ad, c, hA, hl, hK, hc⟩ := Kd.C_get h (0, 0) (i : Int) (by omega) (by omega)
  obtain ⟨c0, c1, rfl, h0, h1⟩ := hK
  have e0 : c0 = [.int .i64 (L.getD i (0, 0)).1] := h0
  have e1 : c1 = [.int .i64 (L.getD i (0, 0)).2] := h1
  subst e0 e1
  have hs : (Kd.pair (Kd.int .i64) (Kd.int .i64)).sz = 2 := rfl
  simp only [Int.toNat_natCast, hs] at hc
  exact ⟨ad, hA, hc 0 _ rfl, hc 1 _ rfl⟩
theorem five {L M : List L3} {y0 y1 y2 e a b c f : Int} (h : (L, ((y0, y1, y2) : L3), e) = (M, ((a, b, c) : L3), f)) : M = L ∧ a = y0 ∧ b = y1 ∧ c = y2 ∧ f = e := by cases h; exact ⟨rfl, rfl, rfl, rfl, rfl⟩
set_option maxHeartbeats 8000000 in
set_option maxRecDepth 100000 in
theorem leaseRenews_walk (d : Int) (A0 : Option Addr) (c0 : Nat) (l : List (Int × Int)) (w : World) (hd : (Lit.int .i64 d).wf = true) (hC : (Kd.pair (Kd.int .i64) (Kd.int .i64)).C w A0 l.length l) (hwf : ∀ x ∈ l, (Lit.int .i64 x.1).wf = true ∧ (Lit.int .i64 x.2).wf = true) :
    Calls Try.prog 3 #[.int .i64 d, .slice A0 l.length c0] w fun e w' => e = .returned (.bool true) ∧ Below w.heap.size w w' := by
  have HC := Aside0.mk hC
  have HWF := Aside0.mk hwf
  have HDW := Aside0.mk hd
  clear hC hwf hd
  by_cases hdv : okDev d
  · have HG := Aside0.mk (show grantL [] d 100 50 = ([(1, d, 150)], (1, d, 150), 0) by
      unfold grantL
      rw [if_neg (by simp [hdv]; decide), if_neg (by simp [ofL]), if_neg (by simp)]
      rfl)
    clear hdv
    go_enter Try.func3, Try.ntmps3
    go_wp2_with (first
      | (go_at_call 9; refine (awake_true _).mono ?_; rintro e w1 ⟨rfl, hb1⟩; have HB1 := Aside0.mk hb1; clear hb1)
      | (go_at_call 10; refine (new_calls w1).mono ?_; rintro e w2 ⟨g, m, rfl, ht, hb2⟩; have HT2 := Aside0.mk ht; have HB2 := Aside0.mk (HB1.out.trans (hb2.mono HB1.out.size)); have HS2 := Aside0.mk (show w1.heap.size ≤ w2.heap.size from hb2.size); clear ht hb2)
      | (go_at_call 11; refine (grant_flat w1.heap.size g m none [] [(1, d, 150)] d 100 50 1 d 150 0 w2 HT2.out HS2.out HDW.out (by decide) (by decide) HG.out).mono ?_; rintro e w3 ⟨rfl, rb, ht3, han3, hk3⟩; have HT3 := Aside0.mk ht3; have HB3 := Aside0.mk (HB2.out.trans ((tab_low HT2.out hk3 HS2.out).mono HB1.out.size)); have HS3 := Aside0.mk (Nat.le_trans HS2.out hk3.size); clear ht3 han3 hk3))
    go_loopw [9] (fun v9 wr => ∃ (i : Nat) (u : Int), v9 = .int .i64 (i : Int) ∧ i ≤ l.length ∧ 0 < u ∧ u ≤ 1099512676352 ∧ TabAt wr w1.heap.size g rb m [(1, d, u)] ∧ wr.heap[w3.heap.size]? = some (.cells #[.int .i64 1, .int .i64 d, .int .i64 u] 27 (0, 0)) ∧ Below w.heap.size w wr ∧ w1.heap.size ≤ wr.heap.size) (fun v9 wr => l.length - (intOf v9).toNat)
    case atStart => exact ⟨0, 150, rfl, Nat.zero_le _, by decide, by decide, HT3.out.later (below_alloc (Below.refl _ _) _), blk_new _ _, HB3.out.alloc HB3.out.size _, by have := HS3.out; simp; omega⟩
    case round =>
      obtain ⟨i, u, rfl, hi, hu0, hu1, ht, hx, hb, hs⟩ := hrel
      have HT := Aside0.mk ht
      have HX := Aside0.mk hx
      have HB := Aside0.mk hb
      have HS := Aside0.mk hs
      have HNE := Aside0.mk (tabS_ne HT3.out.lt (Nat.le_refl _))
      have hx0 : wr.cell? ⟨w3.heap.size, 0, none⟩ = some (.int .i64 1) := (blk_cell hx 0).trans rfl
      have hx1 : wr.cell? ⟨w3.heap.size, 1, none⟩ = some (.int .i64 d) := (blk_cell hx 1).trans rfl
      have hx2 : wr.cell? ⟨w3.heap.size, 2, none⟩ = some (.int .i64 u) := (blk_cell hx 2).trans rfl
      clear ht hx hb hs
      by_cases hlt : i < l.length
      · by_cases h60 : (i : Int) < 60
        · obtain ⟨ad, e1, hc1, hc2⟩ := pair_at HC.out i hlt
          subst e1
          have hwf := HWF.out (l.getD i (0, 0)) (by rw [List.getD_eq_getElem?_getD, List.getElem?_eq_getElem hlt]; exact List.getElem_mem hlt)
          obtain ⟨x, hx⟩ : ∃ x, l.getD i (0, 0) = x := ⟨_, rfl⟩
          rw [hx] at hc1 hc2 hwf
          obtain ⟨a, b⟩ := x
          dsimp only at hc1 hc2 hwf
          have hca := pw_cell_below HB.out hc1
          have hcb := pw_cell_below HB.out hc2
          have hcb2 : wr.cell? ⟨(ad.add (i * 2)).block, (ad.add (i * 2)).off + 1, none⟩ = some (.int .i64 b) := by rw [← add_field ad (i * 2) 1 (by omega)]; exact hcb
          have hcaz := pw_cell_below (below_alloc (Below.refl wr.heap.size wr) (.cells #[.int .i64 0, .int .i64 0, .int .i64 0] 27)) hca
          have hcbz := pw_cell_below (below_alloc (Below.refl wr.heap.size wr) (.cells #[.int .i64 0, .int .i64 0, .int .i64 0] 27)) hcb2
          have HCA := Aside0.mk hc1
          have HCB := Aside0.mk hc2
          clear hx hc1 hc2
          obtain ⟨L2, y0, y1, y2, e0, hR⟩ : ∃ (L2 : List L3) (y0 y1 y2 e0 : Int), renewL [(1, d, u)] 1 a b = (L2, (y0, y1, y2), e0) := ⟨_, _, _, _, _, rfl⟩
          have HR := Aside0.mk hR
          clear hR
          go_wp2
          go_upto_region 11 with fail
          go_cut [10, 11] (fun v10 v11 wx => ∃ yb : Nat, v10 = .pointer (some ⟨yb, 0, none⟩) ∧ v11 = .int .i64 e0 ∧ TabAt wx w1.heap.size g rb m L2 ∧ wx.heap[yb]? = some (.cells #[.int .i64 y0, .int .i64 y1, .int .i64 y2] 27 (0, 0)) ∧ wx.heap[w3.heap.size]? = some (.cells #[.int .i64 1, .int .i64 d, .int .i64 u] 27 (0, 0)) ∧ yb ≠ w3.heap.size ∧ ¬ tabS g rb m yb ∧ Below w.heap.size w wx ∧ w1.heap.size ≤ wx.heap.size)
          case first =>
            go_region_with (go_at_call 12; refine (renew_flat w1.heap.size g m rb [(1, d, u)] L2 1 a b y0 y1 y2 e0 _ (by first | exact HT.out.later (below_drew (Below.refl _ _)) | exact HT.out.later (below_drew (below_alloc (Below.refl _ _) _))) HR.out).mono ?_; rintro e w4 ⟨rfl, ht4, hk4⟩; have hw4 : Keep wr w4 (tabS g rb m) := (by first | exact (Keep.refl wr (tabS g rb m)).drew.then_ hk4 (fun k h => .inl h) | exact ((Keep.of_below (below_alloc (Below.refl wr.heap.size wr) (.cells #[.int .i64 0, .int .i64 0, .int .i64 0] 27)) (tabS g rb m)).drew).then_ hk4 (fun k h => .inl h)); (try (have hq4 : w4.heap[wr.heap.size]? = some (.cells #[.int .i64 0, .int .i64 0, .int .i64 0] 27 (0, 0)) := hk4.blk (show ((wr.alloc (.cells #[.int .i64 0, .int .i64 0, .int .i64 0] 27)).drew).heap[wr.heap.size]? = _ from blk_new _ _) (tabS_ne HT.out.lt (Nat.le_refl _)); have hz0 : w4.cell? ⟨wr.heap.size, 0, none⟩ = some (.int .i64 0) := (blk_cell hq4 0).trans rfl; have hz1 : w4.cell? ⟨wr.heap.size, 1, none⟩ = some (.int .i64 0) := (blk_cell hq4 1).trans rfl; have hz2 : w4.cell? ⟨wr.heap.size, 2, none⟩ = some (.int .i64 0) := (blk_cell hq4 2).trans rfl; have hf0 := blk_frozen hq4 0; have hf1 := blk_frozen hq4 1; have hf2 := blk_frozen hq4 2; have HQ4 := Aside0.mk hq4; clear hq4)); have HT4 := Aside0.mk ht4; have HW4 := Aside0.mk hw4; clear ht4 hk4 hw4)
            all_goals
              go_wp2_with fail
              go_meet
              have hx4 := HW4.out.blk HX.out HNE.out
              have hb4 := HB.out.trans ((tab_low HT.out HW4.out HS.out).mono HB1.out.size)
              have hs4 := Nat.le_trans HS.out HW4.out.size
              have hlx := blk_lt HX.out
              have hlx4 := blk_lt hx4
              first
                | (have hq4 := HQ4.out
                   have hks := keep_three w4 wr.heap.size (.int .i64 y0) (.int .i64 y1) (.int .i64 y2)
                   exact ⟨wr.heap.size, rfl, rfl, HT4.out.keep hks (fun e => by have := HT.out.lt.1; omega) (fun k hk e => by have := (HT.out.lt.2.2 k hk).1; omega) (fun e => by have := HT.out.lt.2.1; omega), by simpa using blk_set (blk_set (blk_set hq4 0 (.int .i64 y0)) 1 (.int .i64 y1)) 2 (.int .i64 y2), hks.blk hx4 (by omega), by omega, tabS_ne HT.out.lt (Nat.le_refl _), hb4.trans (hks.below (fun k e => by have := HB.out.size; omega) hb4.size), Nat.le_trans hs4 hks.size⟩)
                | exact ⟨w4.heap.size, rfl, rfl, HT4.out.later (below_alloc (Below.refl w4.heap.size w4) (.cells #[.int .i64 y0, .int .i64 y1, .int .i64 y2] 27)), blk_new w4 (.cells #[.int .i64 y0, .int .i64 y1, .int .i64 y2] 27), blk_alloc hx4 _, by omega, tabS_ne HT4.out.lt (Nat.le_refl _), hb4.alloc hb4.size _, by simp; omega⟩
          case rest =>
            obtain ⟨yb, rfl, rfl, htc, hyc, hxc, hyx, hyt, hbc, hsc⟩ := hcut
            have hcx0 : wc.cell? ⟨w3.heap.size, 0, none⟩ = some (.int .i64 1) := (blk_cell hxc 0).trans rfl
            have hcx1 : wc.cell? ⟨w3.heap.size, 1, none⟩ = some (.int .i64 d) := (blk_cell hxc 1).trans rfl
            have hcx2 : wc.cell? ⟨w3.heap.size, 2, none⟩ = some (.int .i64 u) := (blk_cell hxc 2).trans rfl
            have hcy0 : wc.cell? ⟨yb, 0, none⟩ = some (.int .i64 y0) := (blk_cell hyc 0).trans rfl
            have hcy1 : wc.cell? ⟨yb, 1, none⟩ = some (.int .i64 y1) := (blk_cell hyc 1).trans rfl
            have hcy2 : wc.cell? ⟨yb, 2, none⟩ = some (.int .i64 y2) := (blk_cell hyc 2).trans rfl
            have hfx0 := blk_frozen hxc 0
            have hfx1 := blk_frozen hxc 1
            have hfx2 := blk_frozen hxc 2
            have hcca := pw_cell_below hbc HCA.out
            have hccb := pw_cell_below hbc HCB.out
            have hccb2 : wc.cell? ⟨(ad.add (i * 2)).block, (ad.add (i * 2)).off + 1, none⟩ = some (.int .i64 b) := by rw [← add_field ad (i * 2) 1 (by omega)]; exact hccb
            have HTC := Aside0.mk htc
            have HXC := Aside0.mk hxc
            have HBC := Aside0.mk hbc
            have HSC := Aside0.mk hsc
            clear htc hxc hyc hbc hsc hyx hyt
            by_cases hmay : okNow a ∧ okLife b
            · have hm1 := hmay.1.1
              have hm2 := hmay.1.2
              have hm3 := hmay.2.1
              have hm4 := hmay.2.2
              have ha1 : decide (0 ≤ a) = true := by simpa using hm1
              have ha2 : decide (a ≤ 1099511627776) = true := by simpa using hm2
              have hb1 : decide (1 ≤ b) = true := by simpa using hm3
              have hb2 : decide (b ≤ 1048576) = true := by simpa using hm4
              by_cases hov : u ≤ a
              · obtain ⟨rfl, rfl, rfl, rfl, rfl⟩ := five (HR.out.symm.trans (ren_over d u a b hmay hu0 hov))
                have hovd : decide (u ≤ a) = true := by simpa using hov
                have HO := Aside0.mk (fun (W : World) (h : TabAt W w1.heap.size g rb m [(1, d, u)]) => of_flat w1.heap.size g m rb [(1, d, u)] d 1 d u true W h HDW.out (ren_of d u hu0))
                clear hmay hov
                go_wp2
                go_quiet (fail)
                go_wp2
                go_quiet (fail)
                go_wp2_with (go_at_call 13; refine (HO.out _ (HTC.out.later (pw_below_drewN (Below.refl wc.heap.size wc) _))).mono ?_; rintro e w5 ⟨rfl, hb5⟩; have h5 : Below w.heap.size w w5 := (HBC.out.trans ((pw_below_drewN (Below.refl wc.heap.size wc) _).mono HBC.out.size)).trans (hb5.mono (by have := HBC.out.size; simp; omega)); have h6 := blk_below HXC.out ((pw_below_drewN (Below.refl wc.heap.size wc) _).trans (hb5.mono (by simp))); have hx60 : (w5.alloc (.cells #[.int .i64 1, .int .i64 d, .int .i64 u] 27)).cell? ⟨w3.heap.size, 0, none⟩ = some (.int .i64 1) := (blk_cell (blk_alloc h6 _) 0).trans rfl; have hx61 : (w5.alloc (.cells #[.int .i64 1, .int .i64 d, .int .i64 u] 27)).cell? ⟨w3.heap.size, 1, none⟩ = some (.int .i64 d) := (blk_cell (blk_alloc h6 _) 1).trans rfl; have hx62 : (w5.alloc (.cells #[.int .i64 1, .int .i64 d, .int .i64 u] 27)).cell? ⟨w3.heap.size, 2, none⟩ = some (.int .i64 u) := (blk_cell (blk_alloc h6 _) 2).trans rfl; have H5 := Aside0.mk h5; have HB5 := Aside0.mk hb5; have H6 := Aside0.mk (blk_alloc h6 (.cells #[.int .i64 1, .int .i64 d, .int .i64 u] 27)); clear h5 h6 hb5)
                go_roundw
                case rel => exact ⟨i + 1, u, by go_num, by omega, hu0, hu1, HTC.out.later ((pw_below_drewN (Below.refl wc.heap.size wc) _).trans ((HB5.out.mono (by simp)).alloc (by have := HB5.out.size; simp at this; omega) _)), H6.out, H5.out.alloc H5.out.size _, by have := HB5.out.size; have := HSC.out; simp at *; omega⟩
                case measure => simp [intOf]; omega
              · obtain ⟨rfl, rfl, rfl, rfl, rfl⟩ := five (HR.out.symm.trans (ren_ok d u a b hmay hu0 hov))
                have hovd : decide (u ≤ a) = false := by simpa using hov
                obtain ⟨v, hv⟩ : ∃ v, max u (a + b) = v := ⟨_, rfl⟩
                rw [hv] at hcy2 HTC
                have hv1 : decide (v < u) = false := by simp; omega
                have hv2 : decide (v < a + b) = false := by simp; omega
                have hv0 : 0 < v := by omega
                have hvm : v ≤ 1099512676352 := by omega
                have HO := Aside0.mk (fun (W : World) (h : TabAt W w1.heap.size g rb m [(1, d, v)]) => of_flat w1.heap.size g m rb [(1, d, v)] d 1 d v true W h HDW.out (ren_of d v hv0))
                clear hmay hov hv
                go_wp2
                go_quiet (fail)
                go_wp2
                go_quiet (fail)
                go_wp2_with (go_at_call 13; refine (HO.out _ ((HTC.out.later (pw_below_drewN (Below.refl wc.heap.size wc) _)).keep (keep_three (wc.drewN _) w3.heap.size (.int .i64 1) (.int .i64 d) (.int .i64 v)) (fun e => HNE.out (.inl e.symm)) (fun k hk e => HNE.out (.inr (.inl (by rw [hk, e])))) (fun e => HNE.out (.inr (.inr e.symm))))).mono ?_; rintro e w5 ⟨rfl, hb5⟩; have h5 : Below w.heap.size w w5 := ((HBC.out.trans (pw_below_drewN (Below.refl w.heap.size wc) _)).trans ((keep_three (wc.drewN _) w3.heap.size (.int .i64 1) (.int .i64 d) (.int .i64 v)).below (fun k e => by have := HB3.out.size; omega) (by have := HBC.out.size; simp; omega))).trans (hb5.mono (by have := HBC.out.size; simp; omega)); have h6 := (show w5.heap[w3.heap.size]? = some (.cells #[.int .i64 1, .int .i64 d, .int .i64 v] 27 (0, 0)) by simpa using blk_below (blk_set (blk_set (blk_set (blk_below HXC.out (pw_below_drewN (Below.refl wc.heap.size wc) _)) 0 (.int .i64 1)) 1 (.int .i64 d)) 2 (.int .i64 v)) hb5); have hx60 : (w5.alloc (.cells #[.int .i64 1, .int .i64 d, .int .i64 v] 27)).cell? ⟨w3.heap.size, 0, none⟩ = some (.int .i64 1) := (blk_cell (blk_alloc h6 _) 0).trans rfl; have hx61 : (w5.alloc (.cells #[.int .i64 1, .int .i64 d, .int .i64 v] 27)).cell? ⟨w3.heap.size, 1, none⟩ = some (.int .i64 d) := (blk_cell (blk_alloc h6 _) 1).trans rfl; have hx62 : (w5.alloc (.cells #[.int .i64 1, .int .i64 d, .int .i64 v] 27)).cell? ⟨w3.heap.size, 2, none⟩ = some (.int .i64 v) := (blk_cell (blk_alloc h6 _) 2).trans rfl; have HT5 := Aside0.mk (((HTC.out.later (pw_below_drewN (Below.refl wc.heap.size wc) _)).keep (keep_three (wc.drewN _) w3.heap.size (.int .i64 1) (.int .i64 d) (.int .i64 v)) (fun e => HNE.out (.inl e.symm)) (fun k hk e => HNE.out (.inr (.inl (by rw [hk, e])))) (fun e => HNE.out (.inr (.inr e.symm)))).later hb5); have HSZ := Aside0.mk (show w1.heap.size ≤ w5.heap.size by have := HSC.out; have := hb5.size; simp at this; omega); have H5 := Aside0.mk h5; have HB5 := Aside0.mk hb5; have H6 := Aside0.mk (blk_alloc h6 (.cells #[.int .i64 1, .int .i64 d, .int .i64 v] 27)); clear h5 h6 hb5)
                go_roundw
                case rel => exact ⟨i + 1, v, by go_num, by omega, hv0, hvm, HT5.out.later (below_alloc (Below.refl _ _) _), H6.out, H5.out.alloc H5.out.size _, by have := HSZ.out; simp; omega⟩
                case measure => simp [intOf]; omega
            · obtain ⟨rfl, rfl, rfl, rfl, rfl⟩ := five (HR.out.symm.trans (ren_bad d u a b hmay))
              have HO := Aside0.mk (fun (W : World) (h : TabAt W w1.heap.size g rb m [(1, d, u)]) => of_flat w1.heap.size g m rb [(1, d, u)] d 1 d u true W h HDW.out (ren_of d u hu0))
              have hways : decide (0 ≤ a) = false ∨ (decide (0 ≤ a) = true ∧ decide (a ≤ 1099511627776) = false) ∨ (decide (0 ≤ a) = true ∧ decide (a ≤ 1099511627776) = true ∧ decide (1 ≤ b) = false) ∨ (decide (0 ≤ a) = true ∧ decide (a ≤ 1099511627776) = true ∧ decide (1 ≤ b) = true ∧ decide (b ≤ 1048576) = false) := by
                simp only [decide_eq_true_eq, decide_eq_false_iff_not]
                unfold okNow okLife at hmay
                omega
              clear hmay
              rcases hways with h1 | ⟨h1, h2⟩ | ⟨h1, h2, h3⟩ | ⟨h1, h2, h3, h4⟩
              all_goals
                go_wp2
                go_quiet (fail)
                go_wp2
                go_quiet (fail)
                go_wp2_with (go_at_call 13; refine (HO.out _ (HTC.out.later (pw_below_drewN (Below.refl wc.heap.size wc) _))).mono ?_; rintro e w5 ⟨rfl, hb5⟩; have h5 : Below w.heap.size w w5 := (HBC.out.trans ((pw_below_drewN (Below.refl wc.heap.size wc) _).mono HBC.out.size)).trans (hb5.mono (by have := HBC.out.size; simp; omega)); have h6 := blk_below HXC.out ((pw_below_drewN (Below.refl wc.heap.size wc) _).trans (hb5.mono (by simp))); have hx60 : (w5.alloc (.cells #[.int .i64 1, .int .i64 d, .int .i64 u] 27)).cell? ⟨w3.heap.size, 0, none⟩ = some (.int .i64 1) := (blk_cell (blk_alloc h6 _) 0).trans rfl; have hx61 : (w5.alloc (.cells #[.int .i64 1, .int .i64 d, .int .i64 u] 27)).cell? ⟨w3.heap.size, 1, none⟩ = some (.int .i64 d) := (blk_cell (blk_alloc h6 _) 1).trans rfl; have hx62 : (w5.alloc (.cells #[.int .i64 1, .int .i64 d, .int .i64 u] 27)).cell? ⟨w3.heap.size, 2, none⟩ = some (.int .i64 u) := (blk_cell (blk_alloc h6 _) 2).trans rfl; have H5 := Aside0.mk h5; have HB5 := Aside0.mk hb5; have H6 := Aside0.mk (blk_alloc h6 (.cells #[.int .i64 1, .int .i64 d, .int .i64 u] 27)); clear h5 h6 hb5)
                go_roundw
                case rel => exact ⟨i + 1, u, by go_num, by omega, hu0, hu1, HTC.out.later ((pw_below_drewN (Below.refl wc.heap.size wc) _).trans ((HB5.out.mono (by simp)).alloc (by have := HB5.out.size; simp at this; omega) _)), H6.out, H5.out.alloc H5.out.size _, by have := HB5.out.size; have := HSC.out; simp at *; omega⟩
                case measure => simp [intOf]; omega
        · have hd60 : decide ((i : Int) < 60) = false := by simp; omega
          go_wp2
          go_ret
          exact ⟨rfl, HB.out⟩
      · have hd3 : decide (i < l.length) = false := by simp; omega
        go_wp2
        go_ret
        exact ⟨rfl, HB.out⟩
  · have HG := Aside0.mk (show grantL [] d 100 50 = ([], (0, 0, 0), 1) by
      unfold grantL
      rw [if_pos (fun h => hdv h.1)]
      rfl)
    clear hdv
    go_enter Try.func3, Try.ntmps3
    go_wp2_with (first
      | (go_at_call 9; refine (awake_true _).mono ?_; rintro e w1 ⟨rfl, hb1⟩; have HB1 := Aside0.mk hb1; clear hb1)
      | (go_at_call 10; refine (new_calls w1).mono ?_; rintro e w2 ⟨g, m, rfl, ht, hb2⟩; have HT2 := Aside0.mk ht; have HB2 := Aside0.mk (HB1.out.trans (hb2.mono HB1.out.size)); have HS2 := Aside0.mk (show w1.heap.size ≤ w2.heap.size from hb2.size); clear ht hb2)
      | (go_at_call 11; refine (grant_flat w1.heap.size g m none [] [] d 100 50 0 0 0 1 w2 HT2.out HS2.out HDW.out (by decide) (by decide) HG.out).mono ?_; rintro e w3 ⟨rfl, rb, ht3, han3, hk3⟩; have HB3 := Aside0.mk (HB2.out.trans ((tab_low HT2.out hk3 HS2.out).mono HB1.out.size)); clear ht3 han3 hk3))
    go_ret
    exact ⟨rfl, HB3.out.alloc HB3.out.size _⟩
end Go.Proofs.Ytbmpglchifnelaa
