/- The contract of the program's Renew. -/
import Derived.Test.YtbmpglchifnelaaLOps
namespace Go.Proofs.Ytbmpglchifnelaa
open Go.RowKit Go.Maps Go.Proofs.YtbmpglchifnelaaW.PrintWords Go.Proofs.YtbmpglchifnelaaW.PrintLast Go.Proofs.YtbmpglchifnelaaW.PrintMore
set_option linter.unusedVariables false
set_option linter.unusedSimpArgs false
attribute [local go_sem] Oper.semAt_some max2_int min2_int max_two min_two max_three min_three max_four min_four

set_option maxHeartbeats 2000000 in
set_option maxRecDepth 100000 in
theorem renew_calls (base g m : Nat) (rb : Option Nat) (L : List L3) (n now life : Int) (w : World) (h : TabAt w base g rb m L) :
    Calls Try.prog 12 #[.pointer (some ⟨g, 0, none⟩), .int .i64 n, .int .i64 now, .int .i64 life] w fun e w' => e = .returned (.tuple #[agg3 (renewL L n now life).2.1, .int .i64 (renewL L n now life).2.2]) ∧ TabAt w' base g rb m (renewL L n now life).1 ∧ Keep w w' (tabS g rb m) := by
  have hb1 : Below w.heap.size w (w.alloc (.cells #[.int .i64 0, .int .i64 0, .int .i64 0] 27)) := below_alloc (Below.refl _ _) _
  have h1 := h.keep (Keep.of_below hb1 (fun _ => False)) (fun e => e) (fun _ _ e => e) (fun e => e)
  have HT1 := Aside0.mk h1
  have HLT := Aside0.mk h.lt
  by_cases hok : okNow now ∧ okLife life
  · obtain ⟨ok1, ok2⟩ := hok
    have WN := Aside0.mk (fun w => within_true now 0 1099511627776 w ok1)
    have WL := Aside0.mk (fun w => within_true life 1 1048576 w ok2)
    by_cases hn : openN L n
    · have hgood := renewL_good h.good n now life
      unfold renewL at hgood ⊢
      rw [if_neg (by simp [ok1, ok2]), if_neg (by simpa using hn)] at hgood ⊢
      obtain ⟨n1, n2, n3⟩ := hn
      obtain ⟨k, hk⟩ := Int.eq_ofNat_of_zero_le (show 0 ≤ n - 1 by omega)
      obtain rfl : n = (k : Int) + 1 := by omega
      have hkl : k < L.length := by omega
      have hkn : ((k : Int) + 1).toNat - 1 = k := by omega
      have hgd : atN L ((k : Int) + 1) = L.getD k z3 := by unfold atN; rw [hkn]
      rw [hgd] at n3 hgood ⊢
      rw [hkn] at hgood ⊢
      have hF := find_open base g m rb L k _ h1 hkl (by omega)
      obtain ⟨A, c, n0, D, hb, hR, ho, hM, hnl, hD⟩ := h1.ex
      obtain ⟨gb, e, hgb, hy0, hy1, hy2, hfr⟩ := lease_cell hR k hkl
      have hLk : L[k]? = some (L.getD k z3) := by rw [List.getD_eq_getElem?_getD, List.getElem?_eq_getElem hkl]; rfl
      have hent := h.good.ent k _ hLk
      have hR2 := fun u => lease_until (e ▸ hR) k hkl u
      have hD2 := fun u hu => mapIs_renew h.good hD hLk n3 (u := u) hu
      obtain ⟨x, hx⟩ : ∃ x, L.getD k z3 = x := ⟨_, rfl⟩
      rw [hx] at hy0 hy1 hy2 hR2 hent hD2 hgood n3 ⊢
      obtain ⟨x0, x1, x2⟩ := x
      dsimp only at hy0 hy1 hy2 hR2 hent hD2 hgood n3 ⊢
      subst e
      have hrb : rb = some gb := ho.symm
      have HF := Aside0.mk (hrb ▸ hF)
      have hgg : gb ≠ g := fun e => R_ne_blk hR hb (by decide) (by rw [e]; rfl)
      have hgm : gb ≠ m := fun e => R_ne_map hR hM (by rw [e]; rfl)
      have hgl : gb < w.heap.size := (h.lt.2.2 gb hrb).1
      have hr1 := ok1.1
      have hr2 := ok1.2
      have hr3 := ok2.1
      have hr4 := ok2.2
      by_cases hnow : x2 ≤ now
      · rw [if_pos hnow]
        have hnd : decide (x2 ≤ now) = true := by simpa using hnow
        have HH := Aside0.mk h1
        have HB1 := Aside0.mk hb1
        clear hb hR ho hM hD h h1 hgood hF hb1 hR2 hD2 hk n1 n2 hkn hgd hfr hLk hx hy0 hent hgg hgm ok1 ok2 hrb
        go_enter Try.func12, Try.ntmps12
        go_wp2_with (first
          | (go_at_call 24; (with_reducible refine HF.out.mono ?_); rintro e w' ⟨gb2, ⟨e1, rfl⟩, rfl⟩; cases e1)
          | (go_at_call 22; first
              | ((with_reducible refine (WN.out _).mono ?_); rintro e w' ⟨rfl, rfl⟩)
              | ((with_reducible refine (WL.out _).mono ?_); rintro e w' ⟨rfl, rfl⟩)))
        refine bodyPost_ret (results_ct rfl _ _ w.heap.size 27 #[.int .i64 0, .int .i64 0, .int .i64 0] (0, 0) _ rfl ?_ Try.underlying27 rfl (by kernel_rfl)) rfl ?_
        · first | exact blk_new _ _ | (simp; done)
        · exact ⟨rfl, HT1.out, Keep.of_below HB1.out _⟩
      · rw [if_neg hnow] at hgood ⊢
        have hnd : decide (x2 ≤ now) = false := by simpa using hnow
        by_cases hmx : x2 < now + life
        · have hmd : decide (x2 < now + life) = true := by simp; omega
          have hmd2 : decide (now + life ≤ x2) = false := by simp; omega
          have hub : 0 < now + life ∧ now + life ≤ 1099512676352 := by omega
          rw [show max x2 (now + life) = now + life by omega] at hgood ⊢
          obtain ⟨W1, hW1⟩ : ∃ W1, w.alloc (.cells #[.int .i64 0, .int .i64 0, .int .i64 0] 27) = W1 := ⟨_, rfl⟩
          have hq1 : W1.heap[w.heap.size]? = some (.cells #[.int .i64 0, .int .i64 0, .int .i64 0] 27 (0, 0)) := hW1 ▸ blk_new _ _
          have hs1 : W1.heap.size = w.heap.size + 1 := by rw [← hW1]; simp
          have hq2 : (W1.setCell ⟨gb, k * 3 + 2, none⟩ (.int .i64 (now + life))).heap[w.heap.size]? = some (.cells #[.int .i64 0, .int .i64 0, .int .i64 0] 27 (0, 0)) := blk_far hq1 (by simp; omega) _
          rw [hW1] at hb hR hM hb1 h1 HT1 hy0 hy1 hy2 hfr hR2 HF hF
          have hb2 := blk_far (p := ⟨gb, k * 3 + 2, none⟩) hb (by simpa using (Ne.symm hgg)) (.int .i64 (now + life))
          have HB2 := Aside0.mk hb2
          have HM2 := Aside0.mk (hM.setCell (a := ⟨gb, k * 3 + 2, none⟩) (fun e => hgm e.symm) (.int .i64 (now + life)))
          have HR2 := Aside0.mk (hR2 (now + life))
          have HD2 := Aside0.mk (hD2 (now + life) hub)
          have HG := Aside0.mk hgood
          have HQ2 := Aside0.mk hq2
          have HB1 := Aside0.mk hb1
          have HW1 := Aside0.mk hW1
          have hf2 := hfr 2
          have hz0 : (W1.setCell ⟨gb, k * 3 + 2, none⟩ (.int .i64 (now + life))).cell? ⟨w.heap.size, 0, none⟩ = some (.int .i64 0) := (blk_cell hq2 0).trans rfl
          have hz1 : (W1.setCell ⟨gb, k * 3 + 2, none⟩ (.int .i64 (now + life))).cell? ⟨w.heap.size, 1, none⟩ = some (.int .i64 0) := (blk_cell hq2 1).trans rfl
          have hz2 : (W1.setCell ⟨gb, k * 3 + 2, none⟩ (.int .i64 (now + life))).cell? ⟨w.heap.size, 2, none⟩ = some (.int .i64 0) := (blk_cell hq2 2).trans rfl
          have hg0 := blk_frozen hq2 0
          have hg1 := blk_frozen hq2 1
          have hg2 := blk_frozen hq2 2
          have HO := Aside0.mk ho
          have HH := Aside0.mk h
          clear hb hR hM hD h h1 hgood hF hb1 hR2 hD2 hk n1 n2 hkn hgd hfr hLk hx hent hgg hgm ok1 ok2 hrb hq1 hq2 hb2 ho hs1
          go_enter Try.func12, Try.ntmps12
          go_wp2_with (first
            | (go_at_call 24; (with_reducible refine HF.out.mono ?_); rintro e w' ⟨gb2, ⟨e1, rfl⟩, rfl⟩; cases e1)
            | (go_at_call 22; first
                | ((with_reducible refine (WN.out _).mono ?_); rintro e w' ⟨rfl, rfl⟩)
                | ((with_reducible refine (WL.out _).mono ?_); rintro e w' ⟨rfl, rfl⟩)))
          refine bodyPost_ret (results_ct rfl _ _ w.heap.size 27 #[.int .i64 x0, .int .i64 x1, .int .i64 (now + life)] (0, 0) _ rfl (by simpa using blk_set (blk_set (blk_set HQ2.out 0 (.int .i64 x0)) 1 (.int .i64 x1)) 2 (.int .i64 (now + life))) Try.underlying27 rfl (by kernel_rfl)) rfl ?_
          have hks := keep_three (W1.setCell ⟨gb, k * 3 + 2, none⟩ (.int .i64 (now + life))) w.heap.size (.int .i64 x0) (.int .i64 x1) (.int .i64 (now + life))
          refine ⟨rfl, (tabAt_mk HG.out HH.out.bg HH.out.bm HB2.out (by simp) HR2.out HO.out HM2.out (by simp; omega) HD2.out).keep hks (fun e => by have := HLT.out.1; omega) (fun j hj e => by have := (HLT.out.2.2 j hj).1; omega) (fun e => by have := HLT.out.2.1; omega), ?_⟩
          have hkw : Keep W1 (W1.setCell ⟨gb, k * 3 + 2, none⟩ (.int .i64 (now + life))) (tabS g rb m) := (Keep.set W1 ⟨gb, k * 3 + 2, none⟩ _).mono (fun j _ e => .inr (.inl (by rw [← HO.out]; exact congrArg some e)))
          exact (((Keep.of_below HB1.out (tabS g rb m)).then_ hkw (fun j h => .inl h)).then_ hks (fun j e => .inr (by omega)))
        · have hmd : decide (x2 < now + life) = false := by simp; omega
          have hmd2 : now + life ≤ x2 := by omega
          have hub : 0 < x2 ∧ x2 ≤ 1099512676352 := by omega
          rw [show max x2 (now + life) = x2 by omega] at hgood ⊢
          obtain ⟨W1, hW1⟩ : ∃ W1, w.alloc (.cells #[.int .i64 0, .int .i64 0, .int .i64 0] 27) = W1 := ⟨_, rfl⟩
          have hq1 : W1.heap[w.heap.size]? = some (.cells #[.int .i64 0, .int .i64 0, .int .i64 0] 27 (0, 0)) := hW1 ▸ blk_new _ _
          have hs1 : W1.heap.size = w.heap.size + 1 := by rw [← hW1]; simp
          have hq2 : (W1.setCell ⟨gb, k * 3 + 2, none⟩ (.int .i64 (x2))).heap[w.heap.size]? = some (.cells #[.int .i64 0, .int .i64 0, .int .i64 0] 27 (0, 0)) := blk_far hq1 (by simp; omega) _
          rw [hW1] at hb hR hM hb1 h1 HT1 hy0 hy1 hy2 hfr hR2 HF hF
          have hb2 := blk_far (p := ⟨gb, k * 3 + 2, none⟩) hb (by simpa using (Ne.symm hgg)) (.int .i64 (x2))
          have HB2 := Aside0.mk hb2
          have HM2 := Aside0.mk (hM.setCell (a := ⟨gb, k * 3 + 2, none⟩) (fun e => hgm e.symm) (.int .i64 (x2)))
          have HR2 := Aside0.mk (hR2 (x2))
          have HD2 := Aside0.mk (hD2 (x2) hub)
          have HG := Aside0.mk hgood
          have HQ2 := Aside0.mk hq2
          have HB1 := Aside0.mk hb1
          have HW1 := Aside0.mk hW1
          have hf2 := hfr 2
          have hz0 : (W1.setCell ⟨gb, k * 3 + 2, none⟩ (.int .i64 (x2))).cell? ⟨w.heap.size, 0, none⟩ = some (.int .i64 0) := (blk_cell hq2 0).trans rfl
          have hz1 : (W1.setCell ⟨gb, k * 3 + 2, none⟩ (.int .i64 (x2))).cell? ⟨w.heap.size, 1, none⟩ = some (.int .i64 0) := (blk_cell hq2 1).trans rfl
          have hz2 : (W1.setCell ⟨gb, k * 3 + 2, none⟩ (.int .i64 (x2))).cell? ⟨w.heap.size, 2, none⟩ = some (.int .i64 0) := (blk_cell hq2 2).trans rfl
          have hg0 := blk_frozen hq2 0
          have hg1 := blk_frozen hq2 1
          have hg2 := blk_frozen hq2 2
          have HO := Aside0.mk ho
          have HH := Aside0.mk h
          clear hb hR hM hD h h1 hgood hF hb1 hR2 hD2 hk n1 n2 hkn hgd hfr hLk hx hent hgg hgm ok1 ok2 hrb hq1 hq2 hb2 ho hs1
          go_enter Try.func12, Try.ntmps12
          go_wp2_with (first
            | (go_at_call 24; (with_reducible refine HF.out.mono ?_); rintro e w' ⟨gb2, ⟨e1, rfl⟩, rfl⟩; cases e1)
            | (go_at_call 22; first
                | ((with_reducible refine (WN.out _).mono ?_); rintro e w' ⟨rfl, rfl⟩)
                | ((with_reducible refine (WL.out _).mono ?_); rintro e w' ⟨rfl, rfl⟩)))
          refine bodyPost_ret (results_ct rfl _ _ w.heap.size 27 #[.int .i64 x0, .int .i64 x1, .int .i64 (x2)] (0, 0) _ rfl (by simpa using blk_set (blk_set (blk_set HQ2.out 0 (.int .i64 x0)) 1 (.int .i64 x1)) 2 (.int .i64 (x2))) Try.underlying27 rfl (by kernel_rfl)) rfl ?_
          have hks := keep_three (W1.setCell ⟨gb, k * 3 + 2, none⟩ (.int .i64 (x2))) w.heap.size (.int .i64 x0) (.int .i64 x1) (.int .i64 (x2))
          refine ⟨rfl, (tabAt_mk HG.out HH.out.bg HH.out.bm HB2.out (by simp) HR2.out HO.out HM2.out (by simp; omega) HD2.out).keep hks (fun e => by have := HLT.out.1; omega) (fun j hj e => by have := (HLT.out.2.2 j hj).1; omega) (fun e => by have := HLT.out.2.1; omega), ?_⟩
          have hkw : Keep W1 (W1.setCell ⟨gb, k * 3 + 2, none⟩ (.int .i64 (x2))) (tabS g rb m) := (Keep.set W1 ⟨gb, k * 3 + 2, none⟩ _).mono (fun j _ e => .inr (.inl (by rw [← HO.out]; exact congrArg some e)))
          exact (((Keep.of_below HB1.out (tabS g rb m)).then_ hkw (fun j h => .inl h)).then_ hks (fun j e => .inr (by omega)))
    · have hF := findN base g m rb L n _ h1 hn
      unfold renewL
      rw [if_neg (by simp [ok1, ok2]), if_pos hn]
      have HF := Aside0.mk hF
      have HB1 := Aside0.mk hb1
      clear hF h h1 hn hb1 ok1 ok2
      go_enter Try.func12, Try.ntmps12
      go_wp2_with (first
        | (go_at_call 24; (with_reducible refine HF.out.mono ?_); rintro e w' ⟨rfl, rfl⟩)
        | (go_at_call 22; first
            | ((with_reducible refine (WN.out _).mono ?_); rintro e w' ⟨rfl, rfl⟩)
            | ((with_reducible refine (WL.out _).mono ?_); rintro e w' ⟨rfl, rfl⟩)))
      refine bodyPost_ret (results_ct rfl _ _ w.heap.size 27 #[.int .i64 0, .int .i64 0, .int .i64 0] (0, 0) _ rfl ?_ Try.underlying27 rfl (by kernel_rfl)) rfl ?_
      · first | exact blk_new _ _ | (simp; done)
      · exact ⟨rfl, HT1.out, Keep.of_below HB1.out _⟩
  · have HF := Aside0.mk (find_any base g m rb L n _ h1)
    have HB1 := Aside0.mk hb1
    unfold renewL
    rw [if_pos hok]
    clear h h1 hb1
    by_cases ok1 : okNow now
    · have WN := Aside0.mk (fun w => within_true now 0 1099511627776 w ok1)
      have WL := Aside0.mk (fun w => within_false life 1 1048576 w (fun h => hok ⟨ok1, h⟩))
      clear hok ok1
      go_enter Try.func12, Try.ntmps12
      go_wp2_with (first
        | (go_at_call 24; (with_reducible refine HF.out.mono ?_); rintro e w' ⟨p, rfl, rfl⟩)
        | (go_at_call 22; first
            | ((with_reducible refine (WN.out _).mono ?_); rintro e w' ⟨rfl, rfl⟩)
            | ((with_reducible refine (WL.out _).mono ?_); rintro e w' ⟨rfl, rfl⟩)))
      refine bodyPost_ret (results_ct rfl _ _ w.heap.size 27 #[.int .i64 0, .int .i64 0, .int .i64 0] (0, 0) _ rfl ?_ Try.underlying27 rfl (by kernel_rfl)) rfl ?_
      · first | exact blk_new _ _ | (simp; done)
      · exact ⟨rfl, HT1.out, Keep.of_below HB1.out _⟩
    · have WN := Aside0.mk (fun w => within_false now 0 1099511627776 w ok1)
      clear hok ok1
      go_enter Try.func12, Try.ntmps12
      go_wp2_with (first
        | (go_at_call 24; (with_reducible refine HF.out.mono ?_); rintro e w' ⟨p, rfl, rfl⟩)
        | (go_at_call 22; ((with_reducible refine (WN.out _).mono ?_); rintro e w' ⟨rfl, rfl⟩)))
      refine bodyPost_ret (results_ct rfl _ _ w.heap.size 27 #[.int .i64 0, .int .i64 0, .int .i64 0] (0, 0) _ rfl ?_ Try.underlying27 rfl (by kernel_rfl)) rfl ?_
      · first | exact blk_new _ _ | (simp; done)
      · exact ⟨rfl, HT1.out, Keep.of_below HB1.out _⟩
end Go.Proofs.Ytbmpglchifnelaa
