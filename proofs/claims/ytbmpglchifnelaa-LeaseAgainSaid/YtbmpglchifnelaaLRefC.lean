/- The contract of the reference's Grant. -/
import Derived.Test.YtbmpglchifnelaaLRefB
namespace Go.Proofs.Ytbmpglchifnelaa
open Go.RowKit Go.Maps Go.Proofs.YtbmpglchifnelaaW.PrintWords Go.Proofs.YtbmpglchifnelaaW.PrintLast Go.Proofs.YtbmpglchifnelaaW.PrintMore
set_option linter.unusedVariables false
set_option linter.unusedSimpArgs false
attribute [local go_sem] Oper.semAt_some max2_int min2_int max_two min_two max_three min_three max_four min_four

theorem rof_flat (base g : Nat) (rb : Option Nat) (L : List L3) (d x0 x1 x2 : Int) (b : Bool) (w : World) (h : RefAt w base g rb L) (hg : ofD L d = ((x0, x1, x2), b)) :
    Calls Try.prog 30 #[.pointer (some ⟨g, 0, none⟩), .int .i64 d] w fun e w' => e = .returned (.tuple #[.agg #[.int .i64 x0, .int .i64 x1, .int .i64 x2], .bool b]) ∧ Below w.heap.size w w' := by
  have h1 := rof_calls base g rb L d w h
  rw [hg] at h1
  exact h1
/-- t.L = append(t.L, x), as one step of a region: what it leaves of the reference's table. -/
theorem step_rall {ops : Array Oper} {o : Oper} {a : Act} {K : Act → World → Prop} {Q : Exit → Act → World → Prop} {E : Prop} (wr : World) (base : Nat) (A : Option Addr) (c : Nat) (L : List L3) (x0 x1 x2 : Int)
    (hR : leaseK.R 27 wr base (fun _ => True) (.slice A L.length c) L) (hbase : base ≤ wr.heap.size) (hl : L.length < 20000)
    (hgd : o.guard = none) (ho : o.op = .call { callee := .builtin .append, args := #[.tmp 63, .tmp 65], argTypes := #[38, 38] })
    (hs : a.eval (.tmp 63) = .slice A L.length c) (hx : a.eval (.tmp 65) = .slice (some ⟨wr.heap.size, 0, none⟩) 1 1)
    (h : ∀ Av cv w1, Aside0 (leaseK.R 27 w1 base (fun _ => True) (.slice Av (L.length + 1) cv) (L ++ [(x0, x1, x2)])) → Aside0 (wr.grownBy w1 (Value.slice A L.length c).ownBlock) → Aside0 ((Value.slice Av (L.length + 1) cv).ownBlock = (Value.slice A L.length c).ownBlock ∨ ∀ k, (Value.slice Av (L.length + 1) cv).ownBlock = some k → wr.heap.size ≤ k) →
      K (a.put o.dst (.slice Av (L.length + 1) cv)) w1) :
    if Region.wanted o (yielded ops a.tmps) = true then Oper.wp Try.prog o a ((wr.alloc (.cells #[.int .i64 x0, .int .i64 x1, .int .i64 x2] 27)).drew) K Q else E := by
  have es := size_after wr (.cells #[.int .i64 x0, .int .i64 x1, .int .i64 x2] 27)
  refine step_append_K leaseK base hgd (.tmp 63) (.tmp 65) 38 27 (.agg #[.int .i64 0, .int .i64 0, .int .i64 0]) 24 ho Try.underlying38 leaseInfo rfl (by decide) (by omega) (.slice A L.length c) L (x0, x1, x2) (cells3 (x0, x1, x2)) (fun _ => True) (fun _ => False) ⟨wr.heap.size, 0, none⟩ 1 hs hx (news_new wr (cells3 (x0, x1, x2)) 27) (lease_M _ _ _ _) (fun _ hk => hk.elim) (fun _ _ => trivial) (Kd.R_drew (Kd.R_alloc hR _)) (by omega) (by omega) ?_
  intro v1 w1 ho hgr hat
  obtain ⟨Av1, cv1, ev1⟩ := Kd.R_slice ho
  rw [List.length_append, List.length_singleton] at ev1
  subst ev1
  refine h Av1 cv1 w1 ⟨ho⟩ ⟨grown_after _ hgr⟩ ⟨?_⟩
  rcases hat with hat | ⟨b, hb, hle⟩
  · exact .inl hat
  · exact .inr (fun k hk => by rw [hk] at hb; cases hb; omega)
set_option maxHeartbeats 2000000 in
set_option maxRecDepth 100000 in
theorem rgrant_calls (base g : Nat) (rb : Option Nat) (L : List L3) (d now life : Int) (w : World) (h : RefAt w base g rb L) (hbase : base ≤ w.heap.size) :
    Calls Try.prog 26 #[.pointer (some ⟨g, 0, none⟩), .int .i64 d, .int .i64 now, .int .i64 life] w fun e w' => e = .returned (.tuple #[agg3 (grantL L d now life).2.1, .int .i64 (grantL L d now life).2.2]) ∧ ∃ rb', RefAt w' base g rb' (grantL L d now life).1 ∧ Anew w rb rb' ∧ Keep w w' (refS g rb) := by
  have hb1 : Below w.heap.size w (w.alloc (.cells #[.int .i64 0, .int .i64 0, .int .i64 0] 27)) := below_alloc (Below.refl _ _) _
  have h1 := h.later hb1
  have HH := Aside0.mk h
  have HT1 := Aside0.mk h1
  have HB1 := Aside0.mk hb1
  have HLT := Aside0.mk h.lt
  have HOFF := Aside0.mk (fun x0 x1 x2 b he => rof_flat base g rb L d x0 x1 x2 b _ h1 he)
  have WD := Aside0.mk (fun w => isDevice_calls d w)
  have WN := Aside0.mk (fun w => isMoment_calls now w)
  have WL := Aside0.mk (fun w => isLife_calls life w)
  obtain ⟨A, c, hb, hR, ho⟩ := h1.ex
  have HBG := Aside0.mk hb
  have HRR := Aside0.mk hR
  have HRB := Aside0.mk ho
  have hca : (w.alloc (.cells #[.int .i64 0, .int .i64 0, .int .i64 0] 27)).cell? ⟨g, 0, none⟩ = some (.slice A L.length c) := (blk_cell hb 0).trans rfl
  have hgood := grantL_good h.good d now life
  have hlen := h.good.len
  clear hb hR ho h h1 hb1
  by_cases hok : okDev d ∧ okNow now ∧ okLife life
  · obtain ⟨hd1, hd2, hd3⟩ := hok
    rw [decide_eq_true hd1] at WD
    rw [decide_eq_true hd2] at WN
    rw [decide_eq_true hd3] at WL
    cases hofl : ofL L d with
    | some x =>
      have hgr : grantL L d now life = (L, z3, 5) := by unfold grantL; rw [if_neg (by simp [hd1, hd2, hd3]), if_pos (by rw [hofl]; rfl)]
      have hod : ofD L d = (x, true) := by unfold ofD; rw [hofl]
      obtain ⟨x0, x1, x2⟩ := x
      have HOF := Aside0.mk (HOFF.out x0 x1 x2 true hod)
      rw [hgr]
      clear hofl hgr hd1 hd2 hd3 HOFF hod hgood
      go_enter Try.func26, Try.ntmps26
      go_wp2_with (first
        | (go_at_call 30; (with_reducible refine HOF.out.mono ?_); rintro e w2 ⟨rfl, hb2⟩; have hq2 := blk_below (blk_new w (.cells #[.int .i64 0, .int .i64 0, .int .i64 0] 27)) hb2; have HQ2 := Aside0.mk hq2; have HB2 := Aside0.mk (HB1.out.trans (hb2.mono HB1.out.size)); have hq3 : (w2.alloc (.cells #[.int .i64 x0, .int .i64 x1, .int .i64 x2] 27)).heap[w.heap.size]? = some (.cells #[.int .i64 0, .int .i64 0, .int .i64 0] 27 (0, 0)) := blk_alloc hq2 _; have hz0 : (w2.alloc (.cells #[.int .i64 x0, .int .i64 x1, .int .i64 x2] 27)).cell? ⟨w.heap.size, 0, none⟩ = some (.int .i64 0) := (blk_cell hq3 0).trans rfl; have hz1 : (w2.alloc (.cells #[.int .i64 x0, .int .i64 x1, .int .i64 x2] 27)).cell? ⟨w.heap.size, 1, none⟩ = some (.int .i64 0) := (blk_cell hq3 1).trans rfl; have hz2 : (w2.alloc (.cells #[.int .i64 x0, .int .i64 x1, .int .i64 x2] 27)).cell? ⟨w.heap.size, 2, none⟩ = some (.int .i64 0) := (blk_cell hq3 2).trans rfl; have hg0 := blk_frozen hq3 0; have hg1 := blk_frozen hq3 1; have hg2 := blk_frozen hq3 2; have hb3 := blk_alloc (blk_below HBG.out hb2) (.cells #[.int .i64 x0, .int .i64 x1, .int .i64 x2] 27); have hcb3 : (w2.alloc (.cells #[.int .i64 x0, .int .i64 x1, .int .i64 x2] 27)).cell? ⟨g, 0, none⟩ = some (.slice A L.length c) := (blk_cell hb3 0).trans rfl; clear hq2 hq3 hb2 hb3)
        | (go_at_call 32; (with_reducible refine (WD.out _).mono ?_); rintro e w' ⟨rfl, rfl⟩)
        | (go_at_call 33; (with_reducible refine (WN.out _).mono ?_); rintro e w' ⟨rfl, rfl⟩)
        | (go_at_call 34; (with_reducible refine (WL.out _).mono ?_); rintro e w' ⟨rfl, rfl⟩))
      have hks := keep_three (w2.alloc (.cells #[.int .i64 x0, .int .i64 x1, .int .i64 x2] 27)) w.heap.size (.int .i64 0) (.int .i64 0) (.int .i64 0)
      have hfin : (((((w2.alloc (.cells #[.int .i64 x0, .int .i64 x1, .int .i64 x2] 27))).setCell ⟨w.heap.size, 0, none⟩ (.int .i64 0)).setCell ⟨w.heap.size, 1, none⟩ (.int .i64 0)).setCell ⟨w.heap.size, 2, none⟩ (.int .i64 0)).heap[w.heap.size]? = some (.cells #[.int .i64 0, .int .i64 0, .int .i64 0] 27 (0, 0)) := by simpa using blk_set (blk_set (blk_set (blk_alloc HQ2.out (.cells #[.int .i64 x0, .int .i64 x1, .int .i64 x2] 27)) 0 (.int .i64 0)) 1 (.int .i64 0)) 2 (.int .i64 0)
      refine bodyPost_ret (results_ct rfl _ _ w.heap.size 27 #[.int .i64 0, .int .i64 0, .int .i64 0] (0, 0) _ rfl hfin Try.underlying27 rfl (by kernel_rfl)) rfl ?_
      have hk0 : Keep w (w2.alloc (.cells #[.int .i64 x0, .int .i64 x1, .int .i64 x2] 27)) (refS g rb) := Keep.of_below (HB2.out.alloc HB2.out.size _) _
      have hfr : Below w.heap.size w (((((w2.alloc (.cells #[.int .i64 x0, .int .i64 x1, .int .i64 x2] 27))).setCell ⟨w.heap.size, 0, none⟩ (.int .i64 0)).setCell ⟨w.heap.size, 1, none⟩ (.int .i64 0)).setCell ⟨w.heap.size, 2, none⟩ (.int .i64 0)) := (HB2.out.alloc HB2.out.size _).trans (hks.below (fun k e => by omega) (by have := HB2.out.size; simp; omega))
      exact ⟨rfl, rb, HH.out.later hfr, .inl rfl, Keep.of_below hfr _⟩
    | none =>
      have hod : ofD L d = (z3, false) := by unfold ofD; rw [hofl]
      have HOF := Aside0.mk (HOFF.out 0 0 0 false hod)
      have hgr : grantL L d now life = if 20000 ≤ L.length then (L, z3, 3) else (L ++ [((L.length : Int) + 1, d, now + life)], ((L.length : Int) + 1, d, now + life), 0) := by unfold grantL; rw [if_neg (by simp [hd1, hd2, hd3]), if_neg (by rw [hofl]; simp)]
      by_cases hfull : 20000 ≤ L.length
      · rw [if_pos hfull] at hgr
        rw [hgr]
        have hfd : decide ((20000 : Int) ≤ (L.length : Int)) = true := by simp; omega
        clear hofl hgr hd1 hd2 hd3 HOFF hod hgood
        go_enter Try.func26, Try.ntmps26
        go_wp2_with (first
          | (go_at_call 30; (with_reducible refine HOF.out.mono ?_); rintro e w2 ⟨rfl, hb2⟩; have hq2 := blk_below (blk_new w (.cells #[.int .i64 0, .int .i64 0, .int .i64 0] 27)) hb2; have HQ2 := Aside0.mk hq2; have HB2 := Aside0.mk (HB1.out.trans (hb2.mono HB1.out.size)); have hq3 : (w2.alloc (.cells #[.int .i64 0, .int .i64 0, .int .i64 0] 27)).heap[w.heap.size]? = some (.cells #[.int .i64 0, .int .i64 0, .int .i64 0] 27 (0, 0)) := blk_alloc hq2 _; have hz0 : (w2.alloc (.cells #[.int .i64 0, .int .i64 0, .int .i64 0] 27)).cell? ⟨w.heap.size, 0, none⟩ = some (.int .i64 0) := (blk_cell hq3 0).trans rfl; have hz1 : (w2.alloc (.cells #[.int .i64 0, .int .i64 0, .int .i64 0] 27)).cell? ⟨w.heap.size, 1, none⟩ = some (.int .i64 0) := (blk_cell hq3 1).trans rfl; have hz2 : (w2.alloc (.cells #[.int .i64 0, .int .i64 0, .int .i64 0] 27)).cell? ⟨w.heap.size, 2, none⟩ = some (.int .i64 0) := (blk_cell hq3 2).trans rfl; have hg0 := blk_frozen hq3 0; have hg1 := blk_frozen hq3 1; have hg2 := blk_frozen hq3 2; have hb3 := blk_alloc (blk_below HBG.out hb2) (.cells #[.int .i64 0, .int .i64 0, .int .i64 0] 27); have hcb3 : (w2.alloc (.cells #[.int .i64 0, .int .i64 0, .int .i64 0] 27)).cell? ⟨g, 0, none⟩ = some (.slice A L.length c) := (blk_cell hb3 0).trans rfl; clear hq2 hq3 hb2 hb3)
          | (go_at_call 32; (with_reducible refine (WD.out _).mono ?_); rintro e w' ⟨rfl, rfl⟩)
          | (go_at_call 33; (with_reducible refine (WN.out _).mono ?_); rintro e w' ⟨rfl, rfl⟩)
          | (go_at_call 34; (with_reducible refine (WL.out _).mono ?_); rintro e w' ⟨rfl, rfl⟩))
        have hks := keep_three (w2.alloc (.cells #[.int .i64 0, .int .i64 0, .int .i64 0] 27)) w.heap.size (.int .i64 0) (.int .i64 0) (.int .i64 0)
        have hfin : (((((w2.alloc (.cells #[.int .i64 0, .int .i64 0, .int .i64 0] 27))).setCell ⟨w.heap.size, 0, none⟩ (.int .i64 0)).setCell ⟨w.heap.size, 1, none⟩ (.int .i64 0)).setCell ⟨w.heap.size, 2, none⟩ (.int .i64 0)).heap[w.heap.size]? = some (.cells #[.int .i64 0, .int .i64 0, .int .i64 0] 27 (0, 0)) := by simpa using blk_set (blk_set (blk_set (blk_alloc HQ2.out (.cells #[.int .i64 0, .int .i64 0, .int .i64 0] 27)) 0 (.int .i64 0)) 1 (.int .i64 0)) 2 (.int .i64 0)
        refine bodyPost_ret (results_ct rfl _ _ w.heap.size 27 #[.int .i64 0, .int .i64 0, .int .i64 0] (0, 0) _ rfl hfin Try.underlying27 rfl (by kernel_rfl)) rfl ?_
        have hk0 : Keep w (w2.alloc (.cells #[.int .i64 0, .int .i64 0, .int .i64 0] 27)) (refS g rb) := Keep.of_below (HB2.out.alloc HB2.out.size _) _
        have hfr : Below w.heap.size w (((((w2.alloc (.cells #[.int .i64 0, .int .i64 0, .int .i64 0] 27))).setCell ⟨w.heap.size, 0, none⟩ (.int .i64 0)).setCell ⟨w.heap.size, 1, none⟩ (.int .i64 0)).setCell ⟨w.heap.size, 2, none⟩ (.int .i64 0)) := (HB2.out.alloc HB2.out.size _).trans (hks.below (fun k e => by omega) (by have := HB2.out.size; simp; omega))
        exact ⟨rfl, rb, HH.out.later hfr, .inl rfl, Keep.of_below hfr _⟩
      · rw [if_neg hfull] at hgr
        rw [hgr] at hgood ⊢
        have hfd : decide ((20000 : Int) ≤ (L.length : Int)) = false := by simp; omega
        have hnl2 : 0 ≤ now ∧ now ≤ 1099511627776 := hd2
        have hll2 : 1 ≤ life ∧ life ≤ 1048576 := hd3
        obtain ⟨hn1, hn2⟩ := hnl2
        obtain ⟨hl1, hl2⟩ := hll2
        have hlt : L.length < 20000 := by omega
        have HGOOD := Aside0.mk hgood
        clear hofl hgr hd1 hd2 hd3 HOFF hod hgood hfull
        go_enter Try.func26, Try.ntmps26
        go_wp2_with (first
          | (go_at_call 30; (with_reducible refine HOF.out.mono ?_); rintro e w2 ⟨rfl, hb2⟩; have hq2 := blk_below (blk_new w (.cells #[.int .i64 0, .int .i64 0, .int .i64 0] 27)) hb2; have HQ2 := Aside0.mk hq2; have HB2 := Aside0.mk (HB1.out.trans (hb2.mono HB1.out.size)); have hq3 : (w2.alloc (.cells #[.int .i64 0, .int .i64 0, .int .i64 0] 27)).heap[w.heap.size]? = some (.cells #[.int .i64 0, .int .i64 0, .int .i64 0] 27 (0, 0)) := blk_alloc hq2 _; have hz0 : (w2.alloc (.cells #[.int .i64 0, .int .i64 0, .int .i64 0] 27)).cell? ⟨w.heap.size, 0, none⟩ = some (.int .i64 0) := (blk_cell hq3 0).trans rfl; have hz1 : (w2.alloc (.cells #[.int .i64 0, .int .i64 0, .int .i64 0] 27)).cell? ⟨w.heap.size, 1, none⟩ = some (.int .i64 0) := (blk_cell hq3 1).trans rfl; have hz2 : (w2.alloc (.cells #[.int .i64 0, .int .i64 0, .int .i64 0] 27)).cell? ⟨w.heap.size, 2, none⟩ = some (.int .i64 0) := (blk_cell hq3 2).trans rfl; have hg0 := blk_frozen hq3 0; have hg1 := blk_frozen hq3 1; have hg2 := blk_frozen hq3 2; have hb3 := blk_alloc (blk_below HBG.out hb2) (.cells #[.int .i64 0, .int .i64 0, .int .i64 0] 27); have hcb3 : (w2.alloc (.cells #[.int .i64 0, .int .i64 0, .int .i64 0] 27)).cell? ⟨g, 0, none⟩ = some (.slice A L.length c) := (blk_cell hb3 0).trans rfl; have hb4 := blk_alloc hb3 (.cells #[.int .i64 ((L.length : Int) + 1), .int .i64 d, .int .i64 (now + life)] 27); have HB4 := Aside0.mk hb4; have hq4 := blk_alloc hq3 (.cells #[.int .i64 ((L.length : Int) + 1), .int .i64 d, .int .i64 (now + life)] 27); have HQ4 := Aside0.mk hq4; have hx4 : ((w2.alloc (.cells #[.int .i64 0, .int .i64 0, .int .i64 0] 27)).alloc (.cells #[.int .i64 ((L.length : Int) + 1), .int .i64 d, .int .i64 (now + life)] 27)).heap[w2.heap.size + 1]? = some (.cells #[.int .i64 ((L.length : Int) + 1), .int .i64 d, .int .i64 (now + life)] 27 (0, 0)) := (by rw [← (show (w2.alloc (.cells #[.int .i64 0, .int .i64 0, .int .i64 0] 27)).heap.size = w2.heap.size + 1 by simp)]; exact blk_new _ _); have HX4 := Aside0.mk hx4; have hc4 : ((w2.alloc (.cells #[.int .i64 0, .int .i64 0, .int .i64 0] 27)).alloc (.cells #[.int .i64 ((L.length : Int) + 1), .int .i64 d, .int .i64 (now + life)] 27)).cell? ⟨g, 0, none⟩ = some (.slice A L.length c) := (blk_cell hb4 0).trans rfl; have hc5 : (((w2.alloc (.cells #[.int .i64 0, .int .i64 0, .int .i64 0] 27)).alloc (.cells #[.int .i64 ((L.length : Int) + 1), .int .i64 d, .int .i64 (now + life)] 27)).alloc (.cells #[.int .i64 ((L.length : Int) + 1), .int .i64 d, .int .i64 (now + life)] 27)).cell? ⟨g, 0, none⟩ = some (.slice A L.length c) := (blk_cell (blk_alloc hb4 _) 0).trans rfl; have HR4 := Aside0.mk (Kd.R_below HRR.out ((hb2.alloc hb2.size (.cells #[.int .i64 0, .int .i64 0, .int .i64 0] 27)).alloc (by have := hb2.size; simp at *; omega) (.cells #[.int .i64 ((L.length : Int) + 1), .int .i64 d, .int .i64 (now + life)] 27))); have HS4 := Aside0.mk (show base ≤ ((w2.alloc (.cells #[.int .i64 0, .int .i64 0, .int .i64 0] 27)).alloc (.cells #[.int .i64 ((L.length : Int) + 1), .int .i64 d, .int .i64 (now + life)] 27)).heap.size by have := hb2.size; simp at *; omega); have HW4 := Aside0.mk (show Below w.heap.size w ((w2.alloc (.cells #[.int .i64 0, .int .i64 0, .int .i64 0] 27)).alloc (.cells #[.int .i64 ((L.length : Int) + 1), .int .i64 d, .int .i64 (now + life)] 27)) from (HB2.out.alloc HB2.out.size _).alloc (by have := HB2.out.size; simp; omega) _); clear hb4 hq4 hx4; clear hq2 hq3 hb2 hb3)
          | (go_at_call 32; (with_reducible refine (WD.out _).mono ?_); rintro e w' ⟨rfl, rfl⟩)
          | (go_at_call 33; (with_reducible refine (WN.out _).mono ?_); rintro e w' ⟨rfl, rfl⟩)
          | (go_at_call 34; (with_reducible refine (WL.out _).mono ?_); rintro e w' ⟨rfl, rfl⟩))
        go_region_law (refine step_rall ((w2.alloc (.cells #[.int .i64 0, .int .i64 0, .int .i64 0] 27)).alloc (.cells #[.int .i64 ((L.length : Int) + 1), .int .i64 d, .int .i64 (now + life)] 27)) base A c L ((L.length : Int) + 1) d (now + life) HR4.out HS4.out hlt (by rfl) (by rfl) (by simp [Act.eval, Act.put]) (by simp [Act.eval, Act.put]) ?_; intro Av cv w5 HR5 HG5 HAT5; have hb5 := (HG5.out.block g (blk_lt HB4.out) (fun e => R_ne_blk HR4.out HB4.out (by decide) e.symm)).trans HB4.out; have hc6 : w5.cell? ⟨g, 0, none⟩ = some (.slice A L.length c) := (blk_cell hb5 0).trans rfl; have hf6 : w5.frozen? ⟨g, 0, none⟩ = false := blk_frozen hb5 0; have HB5 := Aside0.mk hb5; clear hb5)
        all_goals
          have hown := fun k (e : some k = (Value.slice A L.length c).ownBlock) => (HLT.out.2 k (HRB.out.symm.trans e.symm)).1
          have hs2 := HB2.out.size
          have hq5 : w5.heap[w.heap.size]? = some (.cells #[.int .i64 0, .int .i64 0, .int .i64 0] 27 (0, 0)) := (HG5.out.block w.heap.size (blk_lt HQ4.out) (fun e => by have := hown _ e; omega)).trans HQ4.out
          have hx5 : w5.heap[w2.heap.size + 1]? = some (.cells #[.int .i64 ((L.length : Int) + 1), .int .i64 d, .int .i64 (now + life)] 27 (0, 0)) := (HG5.out.block (w2.heap.size + 1) (blk_lt HX4.out) (fun e => by have := hown _ e; omega)).trans HX4.out
          have hq6 : (w5.setCell ⟨g, 0, none⟩ (.slice Av (L.length + 1) cv)).heap[w.heap.size]? = some (.cells #[.int .i64 0, .int .i64 0, .int .i64 0] 27 (0, 0)) := blk_far hq5 (by have := HLT.out.1; simp; omega) _
          have hx6 : (w5.setCell ⟨g, 0, none⟩ (.slice Av (L.length + 1) cv)).heap[w2.heap.size + 1]? = some (.cells #[.int .i64 ((L.length : Int) + 1), .int .i64 d, .int .i64 (now + life)] 27 (0, 0)) := blk_far hx5 (by have := HLT.out.1; simp; omega) _
          have hb6 : (w5.setCell ⟨g, 0, none⟩ (.slice Av (L.length + 1) cv)).heap[g]? = some (.cells #[.slice Av (L.length + 1) cv] 50 (0, 0)) := by simpa using blk_set HB5.out 0 (.slice Av (L.length + 1) cv)
          have hR6 : leaseK.R 27 (w5.setCell ⟨g, 0, none⟩ (.slice Av (L.length + 1) cv)) base (fun _ => True) (.slice Av (L.length + 1) cv) (L ++ [((L.length : Int) + 1, d, now + life)]) := lease_keep (Keep.set w5 ⟨g, 0, none⟩ _) HR5.out (fun k hk e => R_ne_blk HR5.out HB5.out (by decide) (by rw [hk]; exact congrArg some e))
          have hy0 : (w5.setCell ⟨g, 0, none⟩ (.slice Av (L.length + 1) cv)).cell? ⟨w2.heap.size + 1, 0, none⟩ = some (.int .i64 ((L.length : Int) + 1)) := (blk_cell hx6 0).trans rfl
          have hy1 : (w5.setCell ⟨g, 0, none⟩ (.slice Av (L.length + 1) cv)).cell? ⟨w2.heap.size + 1, 1, none⟩ = some (.int .i64 d) := (blk_cell hx6 1).trans rfl
          have hy2 : (w5.setCell ⟨g, 0, none⟩ (.slice Av (L.length + 1) cv)).cell? ⟨w2.heap.size + 1, 2, none⟩ = some (.int .i64 (now + life)) := (blk_cell hx6 2).trans rfl
          have hv0 : (w5.setCell ⟨g, 0, none⟩ (.slice Av (L.length + 1) cv)).cell? ⟨w.heap.size, 0, none⟩ = some (.int .i64 0) := (blk_cell hq6 0).trans rfl
          have hv1 : (w5.setCell ⟨g, 0, none⟩ (.slice Av (L.length + 1) cv)).cell? ⟨w.heap.size, 1, none⟩ = some (.int .i64 0) := (blk_cell hq6 1).trans rfl
          have hv2 : (w5.setCell ⟨g, 0, none⟩ (.slice Av (L.length + 1) cv)).cell? ⟨w.heap.size, 2, none⟩ = some (.int .i64 0) := (blk_cell hq6 2).trans rfl
          have hu0 := blk_frozen hq6 0
          have hu1 := blk_frozen hq6 1
          have hu2 := blk_frozen hq6 2
          have HQ6 := Aside0.mk hq6
          have HB6 := Aside0.mk hb6
          have HR6 := Aside0.mk hR6
          have HK6 := Aside0.mk (show Keep w (w5.setCell ⟨g, 0, none⟩ (.slice Av (L.length + 1) cv)) (refS g rb) from ((Keep.of_below HW4.out (refS g rb)).then_ (Keep.of_grown HG5.out) (fun k e => .inl (.inr (e.trans HRB.out)))).then_ (Keep.set w5 ⟨g, 0, none⟩ _) (fun k e => .inl (.inl e)))
          have HAN := Aside0.mk (show Anew w rb (Value.slice Av (L.length + 1) cv).ownBlock from by
            rcases HAT5.out with e | e
            · exact .inl (e.trans HRB.out)
            · exact .inr (fun k hk => by have h1 := e k hk; have h2 := HW4.out.size; omega))
          clear hq5 hx5 hq6 hx6 hb6 hR6 hown hs2
          go_wp2
          have hks := keep_three (w5.setCell ⟨g, 0, none⟩ (.slice Av (L.length + 1) cv)) w.heap.size (.int .i64 ((L.length : Int) + 1)) (.int .i64 d) (.int .i64 (now + life))
          obtain ⟨W7, hW7⟩ : ∃ W7, ((((w5.setCell ⟨g, 0, none⟩ (.slice Av (L.length + 1) cv))).setCell ⟨w.heap.size, 0, none⟩ (.int .i64 ((L.length : Int) + 1))).setCell ⟨w.heap.size, 1, none⟩ (.int .i64 d)).setCell ⟨w.heap.size, 2, none⟩ (.int .i64 (now + life)) = W7 := ⟨_, rfl⟩
          have hfin : W7.heap[w.heap.size]? = some (.cells #[.int .i64 ((L.length : Int) + 1), .int .i64 d, .int .i64 (now + life)] 27 (0, 0)) := by rw [← hW7]; simpa using blk_set (blk_set (blk_set HQ6.out 0 (.int .i64 ((L.length : Int) + 1))) 1 (.int .i64 d)) 2 (.int .i64 (now + life))
          rw [hW7] at hks ⊢
          refine bodyPost_ret (results_ct rfl _ _ w.heap.size 27 #[.int .i64 ((L.length : Int) + 1), .int .i64 d, .int .i64 (now + life)] (0, 0) _ rfl hfin Try.underlying27 rfl (by kernel_rfl)) rfl ?_
          exact ⟨rfl, _, (refAt_mk HGOOD.out HH.out.bg HB6.out (by simp) HR6.out rfl).keep hks (fun e => by have := HLT.out.1; omega) (fun k hk e => by
            rcases HAT5.out with h5 | h5
            · have := (HLT.out.2 k (HRB.out.symm.trans (h5.symm.trans hk))).1; omega
            · have h1 := h5 k hk; have h2 := HW4.out.size; simp at h1; have := HB2.out.size; omega), HAN.out, HK6.out.then_ hks (fun k e => .inr (by omega))⟩
  · have hgr : grantL L d now life = (L, z3, 1) := by unfold grantL; rw [if_pos hok]
    rw [hgr]
    have hways : (decide (okDev d) = false) ∨ (decide (okDev d) = true ∧ decide (okNow now) = false) ∨ (decide (okDev d) = true ∧ decide (okNow now) = true ∧ decide (okLife life) = false) := by
      by_cases h1 : okDev d
      · by_cases h2 : okNow now
        · exact .inr (.inr ⟨decide_eq_true h1, decide_eq_true h2, decide_eq_false (fun h3 => hok ⟨h1, h2, h3⟩)⟩)
        · exact .inr (.inl ⟨decide_eq_true h1, decide_eq_false h2⟩)
      · exact .inl (decide_eq_false h1)
    clear hok hgr hgood HOFF
    rcases hways with e1 | ⟨e1, e2⟩ | ⟨e1, e2, e3⟩
    · rw [e1] at WD
      cases e2 : decide (okNow now) <;> cases e3 : decide (okLife life)
      all_goals
        rw [e2] at WN
        rw [e3] at WL
        go_enter Try.func26, Try.ntmps26
        go_wp2_with (first
          | (go_at_call 32; (with_reducible refine (WD.out _).mono ?_); rintro e w' ⟨rfl, rfl⟩)
          | (go_at_call 33; (with_reducible refine (WN.out _).mono ?_); rintro e w' ⟨rfl, rfl⟩)
          | (go_at_call 34; (with_reducible refine (WL.out _).mono ?_); rintro e w' ⟨rfl, rfl⟩))
        refine bodyPost_ret (results_ct rfl _ _ w.heap.size 27 #[.int .i64 0, .int .i64 0, .int .i64 0] (0, 0) _ rfl ?_ Try.underlying27 rfl (by kernel_rfl)) rfl ?_
        · first | exact blk_new _ _ | (simp; done)
        · exact ⟨rfl, rb, HT1.out, .inl rfl, Keep.of_below HB1.out _⟩
    · rw [e1] at WD
      rw [e2] at WN
      cases e3 : decide (okLife life)
      all_goals
        rw [e3] at WL
        go_enter Try.func26, Try.ntmps26
        go_wp2_with (first
          | (go_at_call 32; (with_reducible refine (WD.out _).mono ?_); rintro e w' ⟨rfl, rfl⟩)
          | (go_at_call 33; (with_reducible refine (WN.out _).mono ?_); rintro e w' ⟨rfl, rfl⟩)
          | (go_at_call 34; (with_reducible refine (WL.out _).mono ?_); rintro e w' ⟨rfl, rfl⟩))
        refine bodyPost_ret (results_ct rfl _ _ w.heap.size 27 #[.int .i64 0, .int .i64 0, .int .i64 0] (0, 0) _ rfl ?_ Try.underlying27 rfl (by kernel_rfl)) rfl ?_
        · first | exact blk_new _ _ | (simp; done)
        · exact ⟨rfl, rb, HT1.out, .inl rfl, Keep.of_below HB1.out _⟩
    · rw [e1] at WD
      rw [e2] at WN
      rw [e3] at WL
      go_enter Try.func26, Try.ntmps26
      go_wp2_with (first
        | (go_at_call 32; (with_reducible refine (WD.out _).mono ?_); rintro e w' ⟨rfl, rfl⟩)
        | (go_at_call 33; (with_reducible refine (WN.out _).mono ?_); rintro e w' ⟨rfl, rfl⟩)
        | (go_at_call 34; (with_reducible refine (WL.out _).mono ?_); rintro e w' ⟨rfl, rfl⟩))
      refine bodyPost_ret (results_ct rfl _ _ w.heap.size 27 #[.int .i64 0, .int .i64 0, .int .i64 0] (0, 0) _ rfl ?_ Try.underlying27 rfl (by kernel_rfl)) rfl ?_
      · first | exact blk_new _ _ | (simp; done)
      · exact ⟨rfl, rb, HT1.out, .inl rfl, Keep.of_below HB1.out _⟩
end Go.Proofs.Ytbmpglchifnelaa
