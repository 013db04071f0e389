/- The contracts of the reference's table of leases: what only reads. -/
import Derived.Test.YtbmpglchifnelaaLAwake
import Derived.Deep.RegionWith
namespace Go.Proofs.Ytbmpglchifnelaa
open Go.RowKit Go.Maps Go.Proofs.YtbmpglchifnelaaW.PrintWords Go.Proofs.YtbmpglchifnelaaW.PrintLast Go.Proofs.YtbmpglchifnelaaW.PrintMore
set_option linter.unusedVariables false
set_option linter.unusedSimpArgs false
attribute [local go_sem] Oper.semAt_some max2_int min2_int max_two min_two max_three min_three max_four min_four
attribute [local go_sem high] eqA3

theorem isDevice_calls (n : Int) (w : World) : Calls Try.prog 32 #[.int .i64 n] w fun e w' => e = .returned (.bool (decide (okDev n))) ∧ w = w' := by
  have e : decide (okDev n) = (decide (1 ≤ n) && decide (n ≤ 4096)) := by rw [Bool.eq_iff_iff, Bool.and_eq_true, decide_eq_true_eq, decide_eq_true_eq, decide_eq_true_eq]; exact Iff.rfl
  rw [e]
  cases h1 : decide (1 ≤ n) <;> cases h2 : decide (n ≤ 4096)
  all_goals
    go_enter Try.func32, Try.ntmps32
    go_wp2
    go_ret
    exact ⟨rfl, rfl⟩
theorem isMoment_calls (n : Int) (w : World) : Calls Try.prog 33 #[.int .i64 n] w fun e w' => e = .returned (.bool (decide (okNow n))) ∧ w = w' := by
  have e : decide (okNow n) = (decide (0 ≤ n) && decide (n ≤ 1099511627776)) := by rw [Bool.eq_iff_iff, Bool.and_eq_true, decide_eq_true_eq, decide_eq_true_eq, decide_eq_true_eq]; exact Iff.rfl
  rw [e]
  cases h1 : decide (0 ≤ n) <;> cases h2 : decide (n ≤ 1099511627776)
  all_goals
    go_enter Try.func33, Try.ntmps33
    go_wp2
    go_ret
    exact ⟨rfl, rfl⟩
theorem isLife_calls (n : Int) (w : World) : Calls Try.prog 34 #[.int .i64 n] w fun e w' => e = .returned (.bool (decide (okLife n))) ∧ w = w' := by
  have e : decide (okLife n) = (decide (1 ≤ n) && decide (n ≤ 1048576)) := by rw [Bool.eq_iff_iff, Bool.and_eq_true, decide_eq_true_eq, decide_eq_true_eq, decide_eq_true_eq]; exact Iff.rfl
  rw [e]
  cases h1 : decide (1 ≤ n) <;> cases h2 : decide (n ≤ 1048576)
  all_goals
    go_enter Try.func34, Try.ntmps34
    go_wp2
    go_ret
    exact ⟨rfl, rfl⟩
set_option maxHeartbeats 1000000 in
set_option maxRecDepth 100000 in
theorem ropen_calls (base g : Nat) (rb : Option Nat) (L : List L3) (n : Int) (w : World) (h : RefAt w base g rb L) (hw : (Lit.int .i64 n).wf = true) :
    Calls Try.prog 35 #[.pointer (some ⟨g, 0, none⟩), .int .i64 n] w fun e w' => e = .returned (.bool (decide (openN L n))) ∧ w = w' := by
  obtain ⟨A, c, hb, hR, ho⟩ := h.ex
  have hca : w.cell? ⟨g, 0, none⟩ = some (.slice A L.length c) := (blk_cell hb 0).trans rfl
  have hlen := h.good.len
  by_cases h1 : 1 ≤ n
  · by_cases h2 : n ≤ L.length
    · obtain ⟨k, hk⟩ := Int.eq_ofNat_of_zero_le (show 0 ≤ n - 1 by omega)
      obtain rfl : n = (k : Int) + 1 := by omega
      obtain ⟨gb, e, hgb, hy0, hy1, hy2, hfr⟩ := lease_cell hR k (by omega)
      subst e
      have e2 : decide (openN L ((k : Int) + 1)) = decide (0 < (L.getD k z3).2.2) := by
        refine decide_eq_decide.2 ?_
        unfold openN atN
        rw [show ((k : Int) + 1).toNat - 1 = k by omega]
        exact ⟨fun h => h.2.2, fun h => ⟨h1, h2, h⟩⟩
      rw [e2]
      obtain ⟨u, hu⟩ : ∃ u, (L.getD k z3).2.2 = u := ⟨_, rfl⟩
      rw [hu] at hy2 ⊢
      have hd1 : decide ((1 : Int) ≤ (k : Int) + 1) = true := by simp; omega
      have hd2 : decide ((k : Int) + 1 ≤ (L.length : Int)) = true := by simpa using h2
      clear hb hR ho h hu e2 hy0 hy1 hfr
      go_enter Try.func35, Try.ntmps35
      go_wp2
      go_ret
      exact ⟨rfl, rfl⟩
    · have hd1 : decide ((1 : Int) ≤ n) = true := by simpa using h1
      have hd2 : decide (n ≤ (L.length : Int)) = false := by simpa using h2
      rw [show decide (openN L n) = false by simp only [decide_eq_false_iff_not]; exact fun h => h2 h.2.1]
      clear hb hR ho h
      go_enter Try.func35, Try.ntmps35
      go_wp2
      go_ret
      exact ⟨rfl, rfl⟩
  · have hd1 : decide ((1 : Int) ≤ n) = false := by simpa using h1
    rw [show decide (openN L n) = false by simp only [decide_eq_false_iff_not]; exact fun h => h1 h.1]
    clear hb hR ho h
    go_enter Try.func35, Try.ntmps35
    go_wp2
    go_ret
    exact ⟨rfl, rfl⟩
set_option maxHeartbeats 1000000 in
set_option maxRecDepth 100000 in
theorem rat_calls (base g : Nat) (rb : Option Nat) (L : List L3) (n : Int) (w : World) (h : RefAt w base g rb L) (hw : (Lit.int .i64 n).wf = true) :
    Calls Try.prog 31 #[.pointer (some ⟨g, 0, none⟩), .int .i64 n] w fun e w' => e = .returned (.tuple #[agg3 (atD L n).1, .int .i64 (atD L n).2]) ∧ Below w.heap.size w w' := by
  obtain ⟨A, c, hb, hR, ho⟩ := h.ex
  have hR1 := Kd.R_alloc hR (.cells #[.int .i64 0, .int .i64 0, .int .i64 0] 27)
  have hca : (w.alloc (.cells #[.int .i64 0, .int .i64 0, .int .i64 0] 27)).cell? ⟨g, 0, none⟩ = some (.slice A L.length c) := (blk_cell (blk_alloc hb _) 0).trans rfl
  have hlen := h.good.len
  clear hb hR ho h
  unfold atD
  by_cases h1 : 1 ≤ n
  · by_cases h2 : n ≤ L.length
    · rw [if_pos ⟨h1, h2⟩]
      obtain ⟨k, hk⟩ := Int.eq_ofNat_of_zero_le (show 0 ≤ n - 1 by omega)
      obtain rfl : n = (k : Int) + 1 := by omega
      have hkl : k < L.length := by omega
      obtain ⟨gb, e, hgb, hy0, hy1, hy2, hfr⟩ := lease_cell hR1 k hkl
      subst e
      have hgd : atN L ((k : Int) + 1) = L.getD k z3 := by unfold atN; rw [show ((k : Int) + 1).toNat - 1 = k by omega]
      rw [hgd]
      obtain ⟨x, hx⟩ : ∃ x, L.getD k z3 = x := ⟨_, rfl⟩
      rw [hx] at hy0 hy1 hy2 ⊢
      obtain ⟨x0, x1, x2⟩ := x
      dsimp only at hy0 hy1 hy2
      have hd1 : decide ((k : Int) + 1 < 1) = false := by simp; omega
      have hd2 : decide ((L.length : Int) < (k : Int) + 1) = false := by simp; omega
      clear hR1 hfr hgd hx
      go_enter Try.func31, Try.ntmps31
      go_wp2
      refine bodyPost_ret (results_ct rfl _ _ w.heap.size 27 #[.int .i64 x0, .int .i64 x1, .int .i64 x2] (0, 0) _ rfl ?_ Try.underlying27 rfl (by kernel_rfl)) rfl ?_
      · first | exact blk_new _ _ | (simp; done)
      · exact ⟨rfl, below_alloc (Below.refl _ _) _⟩
    · rw [if_neg (fun h => h2 h.2)]
      have hd1 : decide (n < 1) = false := by simp; omega
      have hd2 : decide ((L.length : Int) < n) = true := by simp; omega
      clear hR1
      go_enter Try.func31, Try.ntmps31
      go_wp2
      refine bodyPost_ret (results_ct rfl _ _ w.heap.size 27 #[.int .i64 0, .int .i64 0, .int .i64 0] (0, 0) _ rfl ?_ Try.underlying27 rfl (by kernel_rfl)) rfl ?_
      · first | exact blk_new _ _ | (simp; done)
      · exact ⟨rfl, below_alloc (Below.refl _ _) _⟩
  · rw [if_neg (fun h => h1 h.1)]
    have hd1 : decide (n < 1) = true := by simp; omega
    clear hR1
    go_enter Try.func31, Try.ntmps31
    go_wp2
    refine bodyPost_ret (results_ct rfl _ _ w.heap.size 27 #[.int .i64 0, .int .i64 0, .int .i64 0] (0, 0) _ rfl ?_ Try.underlying27 rfl (by kernel_rfl)) rfl ?_
    · first | exact blk_new _ _ | (simp; done)
    · exact ⟨rfl, below_alloc (Below.refl _ _) _⟩
theorem ofL_drop {L : List L3} {d : Int} {i : Nat} (h : i < L.length) : ofL (L.drop i) d = if isOf d (L.getD i z3) then some (L.getD i z3) else ofL (L.drop (i + 1)) d := by
  have e1 : L.getD i z3 = L[i] := by rw [List.getD_eq_getElem?_getD, List.getElem?_eq_getElem h]; rfl
  unfold ofL
  rw [List.drop_eq_getElem_cons h, List.find?_cons, e1]
  cases isOf d L[i] <;> rfl
set_option maxHeartbeats 1000000 in
set_option maxRecDepth 100000 in
theorem rof_calls (base g : Nat) (rb : Option Nat) (L : List L3) (d : Int) (w : World) (h : RefAt w base g rb L) :
    Calls Try.prog 30 #[.pointer (some ⟨g, 0, none⟩), .int .i64 d] w fun e w' => e = .returned (.tuple #[agg3 (ofD L d).1, .bool (ofD L d).2]) ∧ Below w.heap.size w w' := by
  obtain ⟨A, c, hb, hR, ho⟩ := h.ex
  have hR1 := Kd.R_alloc hR (.cells #[.int .i64 0, .int .i64 0, .int .i64 0] 27)
  have hca : (w.alloc (.cells #[.int .i64 0, .int .i64 0, .int .i64 0] 27)).cell? ⟨g, 0, none⟩ = some (.slice A L.length c) := (blk_cell (blk_alloc hb _) 0).trans rfl
  have HR1 := Aside0.mk hR1
  have hlen := h.good.len
  clear hb hR ho h hR1
  go_enter Try.func30, Try.ntmps30
  go_wp2
  go_loopw [6] (fun v6 wr => ∃ i : Nat, v6 = .int .i64 (i : Int) ∧ i ≤ L.length ∧ ofL L d = ofL (L.drop i) d ∧ wr = w.alloc (.cells #[.int .i64 0, .int .i64 0, .int .i64 0] 27)) (fun v6 wr => L.length - (intOf v6).toNat)
  case atStart => exact ⟨0, rfl, Nat.zero_le _, by simp, rfl⟩
  case round =>
    obtain ⟨i, rfl, hi, hof, rfl⟩ := hrel
    by_cases hlt : i < L.length
    · have hstep := ofL_drop (d := d) hlt
      obtain ⟨gb, e, hgb, hy0, hy1, hy2, hfr⟩ := lease_cell HR1.out i hlt
      subst e
      obtain ⟨x, hx⟩ : ∃ x, L.getD i z3 = x := ⟨_, rfl⟩
      rw [hx] at hy0 hy1 hy2 hstep
      obtain ⟨x0, x1, x2⟩ := x
      dsimp only at hy0 hy1 hy2
      by_cases hxd : x1 = d ∧ 0 < x2
      · have hd1 : (x1 == d) = true := by simpa using hxd.1
        have hd2 : decide ((0 : Int) < x2) = true := by simpa using hxd.2
        rw [if_pos ((isOf_iff _ _).2 hxd)] at hstep
        have HOF := Aside0.mk (hof.trans hstep)
        clear hfr hx hof hstep hxd
        go_wp2
        refine bodyPost_ret (results_ct rfl _ _ w.heap.size 27 #[.int .i64 x0, .int .i64 x1, .int .i64 x2] (0, 0) _ rfl ?_ Try.underlying27 rfl (by kernel_rfl)) rfl ?_
        · first | exact blk_new _ _ | (simp; done)
        · unfold ofD
          rw [HOF.out]
          exact ⟨rfl, below_alloc (Below.refl _ _) _⟩
      · rw [if_neg (fun h => hxd ((isOf_iff _ _).1 h))] at hstep
        have HOF := Aside0.mk (hof.trans hstep)
        have hways : (x1 == d) = false ∨ ((x1 == d) = true ∧ decide ((0 : Int) < x2) = false) := by
          by_cases h1 : x1 = d
          · exact .inr ⟨by simpa using h1, by simpa using fun h2 => hxd ⟨h1, h2⟩⟩
          · exact .inl (by simpa using h1)
        clear hfr hx hof hstep hxd
        rcases hways with h1 | ⟨h1, h2⟩
        all_goals
          go_wp2
          go_roundw
          case rel => exact ⟨i + 1, by go_num, by omega, HOF.out, trivial⟩
          case measure => simp [intOf]; omega
    · obtain rfl : i = L.length := by omega
      have hd3 : decide (L.length < L.length) = false := by simp
      rw [List.drop_length] at hof
      have HOF := Aside0.mk hof
      clear hof
      go_wp2
      refine bodyPost_ret (results_ct rfl _ _ w.heap.size 27 #[.int .i64 0, .int .i64 0, .int .i64 0] (0, 0) _ rfl ?_ Try.underlying27 rfl (by kernel_rfl)) rfl ?_
      · first | exact blk_new _ _ | (simp; done)
      · unfold ofD
        rw [HOF.out]
        exact ⟨rfl, below_alloc (Below.refl _ _) _⟩
set_option maxHeartbeats 1000000 in
set_option maxRecDepth 100000 in
theorem same_calls (A1 A2 : Option Addr) (c1 c2 : Nat) (L : List L3) (w : World) (hlen : L.length ≤ 20000) (h1 : leaseK.C w A1 L.length L) (h2 : leaseK.C w A2 L.length L) :
    Calls Try.prog 19 #[.slice A1 L.length c1, .slice A2 L.length c2] w fun e w' => e = .returned (.bool true) ∧ Below w.heap.size w w' := by
  have H1 := Aside0.mk h1
  have H2 := Aside0.mk h2
  clear h1 h2
  go_enter Try.func19, Try.ntmps19
  go_wp2
  go_loopw [5] (fun v5 wr => ∃ i : Nat, v5 = .int .i64 (i : Int) ∧ i ≤ L.length ∧ Below w.heap.size w wr) (fun v5 wr => L.length - (intOf v5).toNat)
  case atStart => exact ⟨0, rfl, Nat.zero_le _, Below.refl _ _⟩
  case round =>
    obtain ⟨i, rfl, hi, hb⟩ := hrel
    have HB := Aside0.mk hb
    clear hb
    by_cases hlt : i < L.length
    · obtain ⟨ad, e, hy0, hy1, hy2⟩ := lease_at H1.out i hlt
      subst e
      obtain ⟨ae, e, hz0, hz1, hz2⟩ := lease_at H2.out i hlt
      subst e
      obtain ⟨x, hx⟩ : ∃ x, L.getD i z3 = x := ⟨_, rfl⟩
      rw [hx] at hy0 hy1 hy2 hz0 hz1 hz2
      obtain ⟨x0, x1, x2⟩ := x
      dsimp only at hy0 hy1 hy2 hz0 hz1 hz2
      rw [add_field ad (i * 3) 1 (by omega)] at hy1
      rw [add_field ad (i * 3) 2 (by omega)] at hy2
      rw [add_field ae (i * 3) 1 (by omega)] at hz1
      rw [add_field ae (i * 3) 2 (by omega)] at hz2
      have hu0 := pw_cell_below HB.out hy0
      have hu1 := pw_cell_below HB.out hy1
      have hu2 := pw_cell_below HB.out hy2
      have hv0 := pw_cell_below HB.out hz0
      have hv1 := pw_cell_below HB.out hz1
      have hv2 := pw_cell_below HB.out hz2
      clear hx hy0 hy1 hy2 hz0 hz1 hz2
      go_wp2
      go_quiet (fail)
      go_wp2
      go_roundw
      case rel => exact ⟨i + 1, by go_num, by omega, pw_below_drewN HB.out _⟩
      case measure => simp [intOf]; omega
    · have hd3 : decide (i < L.length) = false := by simp; omega
      go_wp2
      go_ret
      exact ⟨rfl, HB.out⟩
end Go.Proofs.Ytbmpglchifnelaa
