/- The contracts of the reference's table of leases: what writes. -/
import Derived.Test.YtbmpglchifnelaaLRefA
namespace Go.Proofs.Ytbmpglchifnelaa
open Go.RowKit Go.Maps Go.Proofs.YtbmpglchifnelaaW.PrintWords Go.Proofs.YtbmpglchifnelaaW.PrintLast Go.Proofs.YtbmpglchifnelaaW.PrintMore
set_option linter.unusedVariables false
set_option linter.unusedSimpArgs false
attribute [local go_sem] Oper.semAt_some max2_int min2_int max_two min_two max_three min_three max_four min_four

theorem ref_kept {w W : World} {base g : Nat} {rb : Option Nat} {L : List L3} (h : RefAt w base g rb L) (hb : Below w.heap.size w W) : RefAt W base g rb L := h.later hb
theorem refS_ne {w : World} {base g k : Nat} {rb : Option Nat} (h : g < w.heap.size ∧ ∀ k, rb = some k → k < w.heap.size ∧ base ≤ k) (hk : w.heap.size ≤ k) : ¬ refS g rb k := by
  rintro (e | e)
  · omega
  · have := h.2 k e.symm; omega
set_option maxHeartbeats 1000000 in
set_option maxRecDepth 100000 in
theorem rend_calls (base g : Nat) (rb : Option Nat) (L : List L3) (n : Int) (w : World) (h : RefAt w base g rb L) (hw : (Lit.int .i64 n).wf = true) :
    Calls Try.prog 28 #[.pointer (some ⟨g, 0, none⟩), .int .i64 n] w fun e w' => e = .returned (.int .i64 (endL L n).2) ∧ RefAt w' base g rb (endL L n).1 ∧ Keep w w' (refS g rb) := by
  have HO := Aside0.mk (ropen_calls base g rb L n w h hw)
  by_cases hn : openN L n
  · have hgood := endL_good h.good n
    unfold endL at hgood ⊢
    rw [if_neg (by simpa using hn)] at hgood ⊢
    rw [decide_eq_true hn] at HO
    obtain ⟨A, c, hb, hR, ho⟩ := h.ex
    obtain ⟨h1, h2, h3⟩ := hn
    obtain ⟨k, hk⟩ := Int.eq_ofNat_of_zero_le (show 0 ≤ n - 1 by omega)
    obtain rfl : n = (k : Int) + 1 := by omega
    have hlen := h.good.len
    have hkl : k < L.length := by omega
    have hkn : ((k : Int) + 1).toNat - 1 = k := by omega
    have hgd : atN L ((k : Int) + 1) = L.getD k z3 := by unfold atN; rw [hkn]
    rw [hgd] at h3 hgood ⊢
    rw [hkn] at hgood ⊢
    obtain ⟨gb, e, hgb, hy0, hy1, hy2, hfr⟩ := lease_cell hR k hkl
    have hR2 := lease_until (e ▸ hR) k hkl 0
    have hca : w.cell? ⟨g, 0, none⟩ = some (.slice A L.length c) := (blk_cell hb 0).trans rfl
    have hgg : gb ≠ g := fun e2 => R_ne_blk hR hb (by decide) (by rw [e, e2]; rfl)
    subst e
    have hf2 := hfr 2
    have HB := Aside0.mk hb
    have HR2 := Aside0.mk hR2
    have HH := Aside0.mk h
    have HG := Aside0.mk hgood
    have HRB := Aside0.mk ho
    have HGG := Aside0.mk hgg
    clear hb hR ho h hgood hR2 hk h1 h2 hkn hgd hfr hy0 hy1 h3 hgg
    go_enter Try.func28, Try.ntmps28
    go_wp2_with (go_at_call 35; (with_reducible refine HO.out.mono ?_); rintro e w' ⟨rfl, rfl⟩)
    go_ret
    refine ⟨rfl, refAt_mk HG.out HH.out.bg (blk_far HB.out (by simpa using (Ne.symm HGG.out)) _) (by simp) HR2.out HRB.out, (Keep.set w ⟨gb, k * 3 + 2, none⟩ (.int .i64 0)).mono (fun j _ e => .inr (by rw [← HRB.out]; exact congrArg some e))⟩
  · unfold endL
    rw [if_pos hn]
    rw [decide_eq_false hn] at HO
    have HH := Aside0.mk h
    clear h hn
    go_enter Try.func28, Try.ntmps28
    go_wp2_with (go_at_call 35; (with_reducible refine HO.out.mono ?_); rintro e w' ⟨rfl, rfl⟩)
    go_ret
    exact ⟨rfl, HH.out, Keep.refl _ _⟩
set_option maxHeartbeats 2000000 in
set_option maxRecDepth 100000 in
theorem rrenew_calls (base g : Nat) (rb : Option Nat) (L : List L3) (n now life : Int) (w : World) (h : RefAt w base g rb L) (hw : (Lit.int .i64 n).wf = true) :
    Calls Try.prog 27 #[.pointer (some ⟨g, 0, none⟩), .int .i64 n, .int .i64 now, .int .i64 life] w fun e w' => e = .returned (.tuple #[agg3 (renewL L n now life).2.1, .int .i64 (renewL L n now life).2.2]) ∧ RefAt w' base g rb (renewL L n now life).1 ∧ Keep w w' (refS g rb) := by
  have hb1 : Below w.heap.size w (w.alloc (.cells #[.int .i64 0, .int .i64 0, .int .i64 0] 27)) := below_alloc (Below.refl _ _) _
  have h1 := h.later hb1
  have HT1 := Aside0.mk h1
  have HB1 := Aside0.mk hb1
  have HLT := Aside0.mk h.lt
  have HO := Aside0.mk (ropen_calls base g rb L n _ h1 hw)
  have WN := Aside0.mk (fun w => isMoment_calls now w)
  have WL := Aside0.mk (fun w => isLife_calls life w)
  by_cases hok : okNow now ∧ okLife life
  · obtain ⟨ok1, ok2⟩ := hok
    rw [decide_eq_true ok1] at WN
    rw [decide_eq_true ok2] at WL
    by_cases hn : openN L n
    · have hgood := renewL_good h.good n now life
      unfold renewL at hgood ⊢
      rw [if_neg (by simp [ok1, ok2]), if_neg (by simpa using hn)] at hgood ⊢
      rw [decide_eq_true hn] at HO
      obtain ⟨n1, n2, n3⟩ := hn
      obtain ⟨k, hk⟩ := Int.eq_ofNat_of_zero_le (show 0 ≤ n - 1 by omega)
      obtain rfl : n = (k : Int) + 1 := by omega
      have hlen := h.good.len
      have hkl : k < L.length := by omega
      have hkn : ((k : Int) + 1).toNat - 1 = k := by omega
      have hgd : atN L ((k : Int) + 1) = L.getD k z3 := by unfold atN; rw [hkn]
      rw [hgd] at n3 hgood ⊢
      rw [hkn] at hgood ⊢
      obtain ⟨A, c, hb, hR, ho⟩ := h1.ex
      obtain ⟨gb, e, hgb, hy0, hy1, hy2, hfr⟩ := lease_cell hR k hkl
      have hLk : L[k]? = some (L.getD k z3) := by rw [List.getD_eq_getElem?_getD, List.getElem?_eq_getElem hkl]; rfl
      have hent := h.good.ent k _ hLk
      have hR2 := fun u => lease_until (e ▸ hR) k hkl u
      obtain ⟨x, hx⟩ : ∃ x, L.getD k z3 = x := ⟨_, rfl⟩
      rw [hx] at hy0 hy1 hy2 hR2 hent hgood n3 ⊢
      obtain ⟨x0, x1, x2⟩ := x
      dsimp only at hy0 hy1 hy2 hR2 hent hgood n3 ⊢
      have hgg : gb ≠ g := fun e2 => R_ne_blk hR hb (by decide) (by rw [e, e2]; rfl)
      subst e
      have hrb : rb = some gb := ho.symm
      have hgl : gb < w.heap.size := (h.lt.2 gb hrb).1
      have hgl2 : g < w.heap.size := h.lt.1
      have hr1 := ok1.1
      have hr2 := ok1.2
      have hr3 := ok2.1
      have hr4 := ok2.2
      have hca : (w.alloc (.cells #[.int .i64 0, .int .i64 0, .int .i64 0] 27)).cell? ⟨g, 0, none⟩ = some (.slice (some ⟨gb, 0, none⟩) L.length c) := (blk_cell hb 0).trans rfl
      by_cases hnow : x2 ≤ now
      · rw [if_pos hnow]
        have hnd : decide (x2 ≤ now) = true := by simpa using hnow
        clear hb hR ho h h1 hgood hb1 hR2 hk n1 n2 hkn hgd hfr hLk hx hy0 hent hgg ok1 ok2 hrb
        go_enter Try.func27, Try.ntmps27
        go_wp2_with (first
          | (go_at_call 35; (with_reducible refine HO.out.mono ?_); rintro e w' ⟨rfl, rfl⟩)
          | (go_at_call 33; (with_reducible refine (WN.out _).mono ?_); rintro e w' ⟨rfl, rfl⟩)
          | (go_at_call 34; (with_reducible refine (WL.out _).mono ?_); rintro e w' ⟨rfl, rfl⟩))
        refine bodyPost_ret (results_ct rfl _ _ w.heap.size 27 #[.int .i64 0, .int .i64 0, .int .i64 0] (0, 0) _ rfl ?_ Try.underlying27 rfl (by kernel_rfl)) rfl ?_
        · first | exact blk_new _ _ | (simp; done)
        · exact ⟨rfl, HT1.out, Keep.of_below HB1.out _⟩
      · rw [if_neg hnow] at hgood ⊢
        have hnd : decide (x2 ≤ now) = false := by simpa using hnow
        by_cases hmx : x2 < now + life
        · have hmd : decide (x2 < now + life) = true := by simp; omega
          have hmd2 : decide (now + life ≤ x2) = false := by simp; omega
          rw [show max x2 (now + life) = (now + life) by omega] at hgood ⊢
          obtain ⟨W1, hW1⟩ : ∃ W1, w.alloc (.cells #[.int .i64 0, .int .i64 0, .int .i64 0] 27) = W1 := ⟨_, rfl⟩
          have hq1 : W1.heap[w.heap.size]? = some (.cells #[.int .i64 0, .int .i64 0, .int .i64 0] 27 (0, 0)) := hW1 ▸ blk_new _ _
          have hq2 : (W1.setCell ⟨gb, k * 3 + 2, none⟩ (.int .i64 (now + life))).heap[w.heap.size]? = some (.cells #[.int .i64 0, .int .i64 0, .int .i64 0] 27 (0, 0)) := blk_far hq1 (by simp; omega) _
          rw [hW1] at hb hR hb1 h1 HT1 HB1 hy0 hy1 hy2 hfr hR2 HO hca
          have hbd : (W1.setCell ⟨gb, k * 3 + 2, none⟩ (.int .i64 (now + life))).heap[g]? = some (.cells #[.slice (some ⟨gb, 0, none⟩) L.length c] 50 (0, 0)) := blk_far hb (by simpa using (Ne.symm hgg)) _
          have hcd : (W1.setCell ⟨gb, k * 3 + 2, none⟩ (.int .i64 (now + life))).cell? ⟨g, 0, none⟩ = some (.slice (some ⟨gb, 0, none⟩) L.length c) := (blk_cell hbd 0).trans rfl
          have HBD := Aside0.mk hbd
          have HR2 := Aside0.mk (show leaseK.R 27 (W1.setCell ⟨gb, k * 3 + 2, none⟩ (.int .i64 (now + life))) base (fun _ => True) _ _ from hR2 (now + life))
          have HG := Aside0.mk hgood
          have HQ2 := Aside0.mk hq2
          have HW1 := Aside0.mk hW1
          have hf2 := hfr 2
          have hz0 : (W1.setCell ⟨gb, k * 3 + 2, none⟩ (.int .i64 (now + life))).cell? ⟨w.heap.size, 0, none⟩ = some (.int .i64 0) := (blk_cell hq2 0).trans rfl
          have hz1 : (W1.setCell ⟨gb, k * 3 + 2, none⟩ (.int .i64 (now + life))).cell? ⟨w.heap.size, 1, none⟩ = some (.int .i64 0) := (blk_cell hq2 1).trans rfl
          have hz2 : (W1.setCell ⟨gb, k * 3 + 2, none⟩ (.int .i64 (now + life))).cell? ⟨w.heap.size, 2, none⟩ = some (.int .i64 0) := (blk_cell hq2 2).trans rfl
          have hg0 := blk_frozen hq2 0
          have hg1 := blk_frozen hq2 1
          have hg2 := blk_frozen hq2 2
          have HRB := Aside0.mk ho
          have HH := Aside0.mk h
          clear hb hR h h1 hgood hb1 hR2 hk n1 n2 hkn hgd hfr hLk hx hent hgg ok1 ok2 hrb hq1 hq2 hbd ho hw
          go_enter Try.func27, Try.ntmps27
          go_wp2_with (first
            | (go_at_call 35; (with_reducible refine HO.out.mono ?_); rintro e w' ⟨rfl, rfl⟩)
            | (go_at_call 33; (with_reducible refine (WN.out _).mono ?_); rintro e w' ⟨rfl, rfl⟩)
            | (go_at_call 34; (with_reducible refine (WL.out _).mono ?_); rintro e w' ⟨rfl, rfl⟩))
          go_region
          all_goals
            clear hW1
            go_wp2
            have hks := keep_three (W1.setCell ⟨gb, k * 3 + 2, none⟩ (.int .i64 (now + life))) w.heap.size (.int .i64 x0) (.int .i64 x1) (.int .i64 (now + life))
            obtain ⟨W3, hW3⟩ : ∃ W3, (((W1.setCell ⟨gb, k * 3 + 2, none⟩ (.int .i64 (now + life))).setCell ⟨w.heap.size, 0, none⟩ (.int .i64 x0)).setCell ⟨w.heap.size, 1, none⟩ (.int .i64 x1)).setCell ⟨w.heap.size, 2, none⟩ (.int .i64 (now + life)) = W3 := ⟨_, rfl⟩
            have hfin : W3.heap[w.heap.size]? = some (.cells #[.int .i64 x0, .int .i64 x1, .int .i64 (now + life)] 27 (0, 0)) := by rw [← hW3]; simpa using blk_set (blk_set (blk_set HQ2.out 0 (.int .i64 x0)) 1 (.int .i64 x1)) 2 (.int .i64 (now + life))
            rw [hW3] at hks ⊢
            refine bodyPost_ret (results_ct rfl _ _ w.heap.size 27 #[.int .i64 x0, .int .i64 x1, .int .i64 (now + life)] (0, 0) _ rfl (show W3.drew.heap[w.heap.size]? = _ from hfin) Try.underlying27 rfl (by kernel_rfl)) rfl ?_
            have hkw : Keep W1 (W1.setCell ⟨gb, k * 3 + 2, none⟩ (.int .i64 (now + life))) (refS g rb) := (Keep.set W1 ⟨gb, k * 3 + 2, none⟩ _).mono (fun j _ e => .inr (by rw [← HRB.out]; exact congrArg some e))
            exact ⟨rfl, ((refAt_mk HG.out HH.out.bg HBD.out (by simp) HR2.out HRB.out).keep hks (fun e => by have := HLT.out.1; omega) (fun j hj e => by have := (HLT.out.2 j hj).1; omega)).later (below_drew (Below.refl _ _)), (((Keep.of_below HB1.out (refS g rb)).then_ hkw (fun j h => .inl h)).then_ hks (fun j e => .inr (by omega))).drew⟩
        · have hmd : decide (x2 < now + life) = false := by simp; omega
          have hmd2 : now + life ≤ x2 := by omega
          rw [show max x2 (now + life) = x2 by omega] at hgood ⊢
          obtain ⟨W1, hW1⟩ : ∃ W1, w.alloc (.cells #[.int .i64 0, .int .i64 0, .int .i64 0] 27) = W1 := ⟨_, rfl⟩
          have hq1 : W1.heap[w.heap.size]? = some (.cells #[.int .i64 0, .int .i64 0, .int .i64 0] 27 (0, 0)) := hW1 ▸ blk_new _ _
          have hq2 : (W1.setCell ⟨gb, k * 3 + 2, none⟩ (.int .i64 x2)).heap[w.heap.size]? = some (.cells #[.int .i64 0, .int .i64 0, .int .i64 0] 27 (0, 0)) := blk_far hq1 (by simp; omega) _
          rw [hW1] at hb hR hb1 h1 HT1 HB1 hy0 hy1 hy2 hfr hR2 HO hca
          have hbd : (W1.setCell ⟨gb, k * 3 + 2, none⟩ (.int .i64 x2)).heap[g]? = some (.cells #[.slice (some ⟨gb, 0, none⟩) L.length c] 50 (0, 0)) := blk_far hb (by simpa using (Ne.symm hgg)) _
          have hcd : (W1.setCell ⟨gb, k * 3 + 2, none⟩ (.int .i64 x2)).cell? ⟨g, 0, none⟩ = some (.slice (some ⟨gb, 0, none⟩) L.length c) := (blk_cell hbd 0).trans rfl
          have HBD := Aside0.mk hbd
          have HR2 := Aside0.mk (show leaseK.R 27 (W1.setCell ⟨gb, k * 3 + 2, none⟩ (.int .i64 x2)) base (fun _ => True) _ _ from hR2 x2)
          have HG := Aside0.mk hgood
          have HQ2 := Aside0.mk hq2
          have HW1 := Aside0.mk hW1
          have hf2 := hfr 2
          have hz0 : (W1.setCell ⟨gb, k * 3 + 2, none⟩ (.int .i64 x2)).cell? ⟨w.heap.size, 0, none⟩ = some (.int .i64 0) := (blk_cell hq2 0).trans rfl
          have hz1 : (W1.setCell ⟨gb, k * 3 + 2, none⟩ (.int .i64 x2)).cell? ⟨w.heap.size, 1, none⟩ = some (.int .i64 0) := (blk_cell hq2 1).trans rfl
          have hz2 : (W1.setCell ⟨gb, k * 3 + 2, none⟩ (.int .i64 x2)).cell? ⟨w.heap.size, 2, none⟩ = some (.int .i64 0) := (blk_cell hq2 2).trans rfl
          have hg0 := blk_frozen hq2 0
          have hg1 := blk_frozen hq2 1
          have hg2 := blk_frozen hq2 2
          have HRB := Aside0.mk ho
          have HH := Aside0.mk h
          clear hb hR h h1 hgood hb1 hR2 hk n1 n2 hkn hgd hfr hLk hx hent hgg ok1 ok2 hrb hq1 hq2 hbd ho hw
          go_enter Try.func27, Try.ntmps27
          go_wp2_with (first
            | (go_at_call 35; (with_reducible refine HO.out.mono ?_); rintro e w' ⟨rfl, rfl⟩)
            | (go_at_call 33; (with_reducible refine (WN.out _).mono ?_); rintro e w' ⟨rfl, rfl⟩)
            | (go_at_call 34; (with_reducible refine (WL.out _).mono ?_); rintro e w' ⟨rfl, rfl⟩))
          go_region
          all_goals
            clear hW1
            go_wp2
            have hks := keep_three (W1.setCell ⟨gb, k * 3 + 2, none⟩ (.int .i64 x2)) w.heap.size (.int .i64 x0) (.int .i64 x1) (.int .i64 x2)
            obtain ⟨W3, hW3⟩ : ∃ W3, (((W1.setCell ⟨gb, k * 3 + 2, none⟩ (.int .i64 x2)).setCell ⟨w.heap.size, 0, none⟩ (.int .i64 x0)).setCell ⟨w.heap.size, 1, none⟩ (.int .i64 x1)).setCell ⟨w.heap.size, 2, none⟩ (.int .i64 x2) = W3 := ⟨_, rfl⟩
            have hfin : W3.heap[w.heap.size]? = some (.cells #[.int .i64 x0, .int .i64 x1, .int .i64 x2] 27 (0, 0)) := by rw [← hW3]; simpa using blk_set (blk_set (blk_set HQ2.out 0 (.int .i64 x0)) 1 (.int .i64 x1)) 2 (.int .i64 x2)
            rw [hW3] at hks ⊢
            refine bodyPost_ret (results_ct rfl _ _ w.heap.size 27 #[.int .i64 x0, .int .i64 x1, .int .i64 x2] (0, 0) _ rfl (show W3.drew.heap[w.heap.size]? = _ from hfin) Try.underlying27 rfl (by kernel_rfl)) rfl ?_
            have hkw : Keep W1 (W1.setCell ⟨gb, k * 3 + 2, none⟩ (.int .i64 x2)) (refS g rb) := (Keep.set W1 ⟨gb, k * 3 + 2, none⟩ _).mono (fun j _ e => .inr (by rw [← HRB.out]; exact congrArg some e))
            exact ⟨rfl, ((refAt_mk HG.out HH.out.bg HBD.out (by simp) HR2.out HRB.out).keep hks (fun e => by have := HLT.out.1; omega) (fun j hj e => by have := (HLT.out.2 j hj).1; omega)).later (below_drew (Below.refl _ _)), (((Keep.of_below HB1.out (refS g rb)).then_ hkw (fun j h => .inl h)).then_ hks (fun j e => .inr (by omega))).drew⟩
    · unfold renewL
      rw [if_neg (by simp [ok1, ok2]), if_pos hn]
      rw [decide_eq_false hn] at HO
      clear h h1 hb1 ok1 ok2 hn
      go_enter Try.func27, Try.ntmps27
      go_wp2_with (first
        | (go_at_call 35; (with_reducible refine HO.out.mono ?_); rintro e w' ⟨rfl, rfl⟩)
        | (go_at_call 33; (with_reducible refine (WN.out _).mono ?_); rintro e w' ⟨rfl, rfl⟩)
        | (go_at_call 34; (with_reducible refine (WL.out _).mono ?_); rintro e w' ⟨rfl, rfl⟩))
      refine bodyPost_ret (results_ct rfl _ _ w.heap.size 27 #[.int .i64 0, .int .i64 0, .int .i64 0] (0, 0) _ rfl ?_ Try.underlying27 rfl (by kernel_rfl)) rfl ?_
      · first | exact blk_new _ _ | (simp; done)
      · exact ⟨rfl, HT1.out, Keep.of_below HB1.out _⟩
  · unfold renewL
    rw [if_pos hok]
    have hways : (decide (okNow now) = false) ∨ (decide (okNow now) = true ∧ decide (okLife life) = false) := by
      by_cases h1 : okNow now
      · exact .inr ⟨decide_eq_true h1, decide_eq_false (fun h2 => hok ⟨h1, h2⟩)⟩
      · exact .inl (decide_eq_false h1)
    clear h h1 hb1 hok
    cases hop : decide (openN L n)
    all_goals
      rw [hop] at HO
      rcases hways with e1 | ⟨e1, e2⟩
      · rw [e1] at WN
        cases hlf : decide (okLife life)
        all_goals
          rw [hlf] at WL
          go_enter Try.func27, Try.ntmps27
          go_wp2_with (first
            | (go_at_call 35; (with_reducible refine HO.out.mono ?_); rintro e w' ⟨rfl, rfl⟩)
            | (go_at_call 33; (with_reducible refine (WN.out _).mono ?_); rintro e w' ⟨rfl, rfl⟩)
            | (go_at_call 34; (with_reducible refine (WL.out _).mono ?_); rintro e w' ⟨rfl, rfl⟩))
          refine bodyPost_ret (results_ct rfl _ _ w.heap.size 27 #[.int .i64 0, .int .i64 0, .int .i64 0] (0, 0) _ rfl ?_ Try.underlying27 rfl (by kernel_rfl)) rfl ?_
          · first | exact blk_new _ _ | (simp; done)
          · exact ⟨rfl, HT1.out, Keep.of_below HB1.out _⟩
      · rw [e1] at WN
        rw [e2] at WL
        go_enter Try.func27, Try.ntmps27
        go_wp2_with (first
          | (go_at_call 35; (with_reducible refine HO.out.mono ?_); rintro e w' ⟨rfl, rfl⟩)
          | (go_at_call 33; (with_reducible refine (WN.out _).mono ?_); rintro e w' ⟨rfl, rfl⟩)
          | (go_at_call 34; (with_reducible refine (WL.out _).mono ?_); rintro e w' ⟨rfl, rfl⟩))
        refine bodyPost_ret (results_ct rfl _ _ w.heap.size 27 #[.int .i64 0, .int .i64 0, .int .i64 0] (0, 0) _ rfl ?_ Try.underlying27 rfl (by kernel_rfl)) rfl ?_
        · first | exact blk_new _ _ | (simp; done)
        · exact ⟨rfl, HT1.out, Keep.of_below HB1.out _⟩
end Go.Proofs.Ytbmpglchifnelaa
