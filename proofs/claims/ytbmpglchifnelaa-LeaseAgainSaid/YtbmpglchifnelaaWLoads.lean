/- LeaseLoads, walked: of which leases there is a table, and how it goes on. -/
import Derived.Test.YtbmpglchifnelaaLRLoad
import Derived.Test.YtbmpglchifnelaaWScripts
namespace Go.Proofs.Ytbmpglchifnelaa
open Go.RowKit Go.Maps Go.Proofs.YtbmpglchifnelaaW.PrintWords Go.Proofs.YtbmpglchifnelaaW.PrintLast Go.Proofs.YtbmpglchifnelaaW.PrintMore
set_option linter.unusedVariables false
set_option linter.unusedSimpArgs false
attribute [local go_sem] Oper.semAt_some max2_int min2_int max_two min_two max_three min_three max_four min_four

def leaseWf (x : L3) : Prop := (Lit.int .i64 x.1).wf = true ∧ (Lit.int .i64 x.2.1).wf = true ∧ (Lit.int .i64 x.2.2).wf = true
theorem load_good (A0 : Option Addr) (c0 : Nat) (l : List L3) (w : World) (hC : leaseK.C w A0 l.length l) (hwf : ∀ x ∈ l, leaseWf x) (hlen : l.length ≤ 100000) (hg : Good l) :
    Calls Try.prog 20 #[.slice A0 l.length c0] w fun e w' => ∃ g rb m, e = .returned (.tuple #[.pointer (some ⟨g, 0, none⟩), .int .i64 0]) ∧ TabAt w' w.heap.size g rb m l ∧ Below w.heap.size w w' :=
  (load_calls A0 c0 l w hC hwf hlen).mono (fun e w' h => by
    obtain ⟨h1 | h1, h2⟩ := h
    · obtain ⟨_, g, rb, m, he, ht⟩ := h1
      exact ⟨g, rb, m, he, ht, h2⟩
    · exact absurd hg h1.1)
theorem load_bad (A0 : Option Addr) (c0 : Nat) (l : List L3) (w : World) (hC : leaseK.C w A0 l.length l) (hwf : ∀ x ∈ l, leaseWf x) (hlen : l.length ≤ 100000) (hg : ¬ Good l) :
    Calls Try.prog 20 #[.slice A0 l.length c0] w fun e w' => e = .returned (.tuple #[.pointer none, .int .i64 1]) ∧ Below w.heap.size w w' :=
  (load_calls A0 c0 l w hC hwf hlen).mono (fun e w' h => by
    obtain ⟨h1 | h1, h2⟩ := h
    · exact absurd h1.1 hg
    · exact ⟨h1.2, h2⟩)
theorem rload_good (A0 : Option Addr) (c0 : Nat) (l : List L3) (w : World) (hC : leaseK.C w A0 l.length l) (hg : Good l) :
    Calls Try.prog 21 #[.slice A0 l.length c0] w fun e w' => ∃ g rb, e = .returned (.tuple #[.pointer (some ⟨g, 0, none⟩), .int .i64 0]) ∧ RefAt w' w.heap.size g rb l ∧ Below w.heap.size w w' :=
  (rload_calls A0 c0 l w hC).mono (fun e w' h => by
    obtain ⟨h1 | h1, h2⟩ := h
    · obtain ⟨_, g, rb, he, ht⟩ := h1
      exact ⟨g, rb, he, ht, h2⟩
    · exact absurd hg h1.1)
theorem rload_bad (A0 : Option Addr) (c0 : Nat) (l : List L3) (w : World) (hC : leaseK.C w A0 l.length l) (hg : ¬ Good l) :
    Calls Try.prog 21 #[.slice A0 l.length c0] w fun e w' => e = .returned (.tuple #[.pointer none, .int .i64 1]) ∧ Below w.heap.size w w' :=
  (rload_calls A0 c0 l w hC).mono (fun e w' h => by
    obtain ⟨h1 | h1, h2⟩ := h
    · exact absurd h1.1 hg
    · exact ⟨h1.2, h2⟩)
theorem RefAt.lower {w : World} {base base' g : Nat} {rb : Option Nat} {L : List L3} (h : RefAt w base g rb L) (hb : base' ≤ base) : RefAt w base' g rb L := by
  obtain ⟨A, c, h1, hR, ho⟩ := h.ex
  exact ⟨h.good, Nat.le_trans hb h.bg, A, c, h1, Kd.R_lower hR hb, ho⟩
/-- A reference's table that is younger than the program's. -/
theorem apart_young {w1 w2 : World} {base1 base2 gt m g : Nat} {rbt rbr : Option Nat} {L M : List L3} (ht : TabAt w1 base1 gt rbt m L) (hr : RefAt w2 base2 g rbr M) (hs : w1.heap.size ≤ base2) : Apart gt rbt m g rbr := by
  intro k hk hs2
  have h1 : k < w1.heap.size := by
    rcases hk with e | e | e
    · exact e ▸ ht.lt.1
    · exact (ht.lt.2.2 k e.symm).1
    · exact e ▸ ht.lt.2.1
  have h2 : base2 ≤ k := by
    rcases hs2 with e | e
    · exact e ▸ hr.bg
    · exact (hr.lt.2 k e.symm).2
  omega
set_option maxHeartbeats 4000000 in
set_option maxRecDepth 100000 in
theorem leaseLoads_walk (A0 : Option Addr) (c0 : Nat) (l : List L3) (A1 : Option Addr) (c1 : Nat) (s : List Stp) (w : World) (hC0 : leaseK.C w A0 l.length l) (hwf0 : ∀ x ∈ l, leaseWf x) (hC1 : Kd.C stepK w A1 s.length s) (hwf1 : ∀ x ∈ s, stepWf x) :
    Calls Try.prog 7 #[.slice A0 l.length c0, .slice A1 s.length c1] w fun e w' => e = .returned (.bool true) ∧ Below w.heap.size w w' := by
  have HC0 := Aside0.mk hC0
  have HWF0 := Aside0.mk hwf0
  have HC := Aside0.mk hC1
  have HWF := Aside0.mk hwf1
  clear hC0 hwf0 hC1 hwf1
  by_cases h500 : 500 < l.length
  · have hd1 : decide ((500 : Int) < (l.length : Int)) = true := by simp; omega
    go_enter Try.func7, Try.ntmps7
    go_wp2_with (go_at_call 9; refine (awake_true _).mono ?_; rintro e w1 ⟨rfl, hb1⟩; have HB1 := Aside0.mk hb1; clear hb1)
    go_ret
    exact ⟨rfl, HB1.out⟩
  have hd1 : decide ((500 : Int) < (l.length : Int)) = false := by simp; omega
  by_cases hg : Good l
  · have HG := Aside0.mk hg
    clear hg
    go_enter Try.func7, Try.ntmps7
    go_wp2_with (first
      | (go_at_call 9; refine (awake_true _).mono ?_; rintro e w1 ⟨rfl, hb1⟩; have HB1 := Aside0.mk hb1; clear hb1)
      | (go_at_call 20; refine (load_good A0 c0 l w1 (Kd.C_below HC0.out HB1.out) HWF0.out (by omega) HG.out).mono ?_; rintro e w2 ⟨g, rb, m, rfl, ht, hb2⟩; have HT2 := Aside0.mk ht; have HB2 := Aside0.mk (HB1.out.trans (hb2.mono HB1.out.size)); have HS2 := Aside0.mk (show w1.heap.size ≤ w2.heap.size from hb2.size); clear ht hb2)
      | (go_at_call 21; refine (rload_good A0 c0 l w2 (Kd.C_below HC0.out HB2.out) HG.out).mono ?_; rintro e w3 ⟨gr, rbr, rfl, hr, hb3⟩; have HT3 := Aside0.mk (HT2.out.later hb3); have HR3 := Aside0.mk (hr.lower HS2.out); have HAP3 := Aside0.mk (apart_young HT2.out hr (Nat.le_refl _)); have HB3 := Aside0.mk (HB2.out.trans (hb3.mono HB2.out.size)); have HS3 := Aside0.mk (Nat.le_trans HS2.out hb3.size); clear hr hb3))
    go_loopw [10] (fun v10 wr => ∃ (i : Nat) (L : List L3) (rbt rbr : Option Nat), v10 = .int .i64 (i : Int) ∧ i ≤ s.length ∧ TabAt wr w1.heap.size g rbt m L ∧ RefAt wr w1.heap.size gr rbr L ∧ Apart g rbt m gr rbr ∧ Below w.heap.size w wr ∧ w1.heap.size ≤ wr.heap.size) (fun v10 wr => s.length - (intOf v10).toNat)
    case atStart => exact ⟨0, l, rb, rbr, rfl, Nat.zero_le _, HT3.out, HR3.out, HAP3.out, HB3.out, HS3.out⟩
    case round =>
      obtain ⟨i, L, rbt, rbr, rfl, hi, ht, hr, hap, hb, hs⟩ := hrel
      have HT := Aside0.mk ht
      have HR := Aside0.mk hr
      have HAP := Aside0.mk hap
      have HB := Aside0.mk hb
      have HS := Aside0.mk hs
      obtain ⟨Ar, cr, hbr, hRr, _⟩ := hr.ex
      have hcr : wr.cell? ⟨gr, 0, none⟩ = some (.slice Ar L.length cr) := (blk_cell hbr 0).trans rfl
      have HBR := Aside0.mk hbr
      have HRR := Aside0.mk hRr
      have HLEN := Aside0.mk ht.good.len
      clear ht hr hap hb hs hbr hRr
      by_cases hrun : i < s.length ∧ (i : Int) < 60
      · obtain ⟨hlt, h60⟩ := hrun
        have hd60 : decide ((i : Int) < 60) = true := by simpa using h60
        obtain ⟨ad, e1, hc0, hc1, hc2, hc3⟩ := step_at4 HC.out i hlt
        subst e1
        have HX := Aside0.mk (stepWf_at HWF.out hlt)
        obtain ⟨x, hx⟩ : ∃ x, s.getD i z4 = x := ⟨_, rfl⟩
        rw [hx] at hc0 hc1 hc2 hc3 HX
        obtain ⟨q, n, now, life⟩ := x
        dsimp only at hc0 hc1 hc2 hc3
        have hq0 := pw_cell_below HB.out hc0
        have hq1 := pw_cell_below HB.out hc1
        have hq2 := pw_cell_below HB.out hc2
        have hq3 := pw_cell_below HB.out hc3
        clear hx hc0 hc1 hc2 hc3 hcr
        go_wp2_with (go_at_call 18; refine (step_calls w1.heap.size g m gr rbt rbr L (q, n, now, life) wr HT.out HR.out HAP.out HS.out HX.out.2.1 HX.out.2.2.1 HX.out.2.2.2).mono ?_; rintro e w4 ⟨rfl, hok⟩; have HOK := Aside0.mk hok; clear hok)
        go_roundw
        case rel =>
          have hlow := (HOK.out.low HT.out HR.out HS.out).mono HB1.out.size
          obtain ⟨rbt', rbr', h1, h2, h3, _, _, hk⟩ := HOK.out
          exact ⟨i + 1, _, rbt', rbr', by go_num, by omega, h1, h2, h3, HB.out.trans hlow, Nat.le_trans HS.out hk.size⟩
        case measure => simp [intOf]; omega
      · have hways : decide (i < s.length) = false ∨ (decide (i < s.length) = true ∧ decide ((i : Int) < 60) = false) := by
          by_cases h1 : i < s.length
          · exact .inr ⟨decide_eq_true h1, decide_eq_false (fun h2 => hrun ⟨h1, h2⟩)⟩
          · exact .inl (decide_eq_false h1)
        have HAL := Aside0.mk (all_calls w1.heap.size g m rbt L wr.drew (HT.out.later (below_drew (Below.refl _ _))))
        clear hrun
        rcases hways with h1 | ⟨h1, h2⟩
        all_goals
          go_wp2
          go_region_with (first
            | (go_at_call 16; refine HAL.out.mono ?_; rintro e w4 ⟨v, rfl, hv, hb4⟩; obtain ⟨Av, cv, ev⟩ := Kd.R_slice hv; subst ev; have hcr4 : w4.cell? ⟨gr, 0, none⟩ = some (.slice Ar L.length cr) := (blk_cell (blk_below (show wr.drew.heap[gr]? = _ from HBR.out) hb4) 0).trans rfl; have HV := Aside0.mk hv; have HB4 := Aside0.mk ((below_drew HB.out).trans (Below.mono hb4 HB.out.size)); have HRR4 := Aside0.mk (Kd.R_below (Kd.R_drew HRR.out) hb4); clear hv hb4)
            | (go_at_call 19; refine (same_calls Av Ar cv cr L w4 HLEN.out (Kd.R_reads' HV.out).2.2 (Kd.R_reads' HRR4.out).2.2).mono ?_; rintro e w5 ⟨rfl, hb5⟩; have HB5 := Aside0.mk (HB4.out.trans (Below.mono hb5 HB4.out.size)); clear hb5))
          all_goals
            go_wp2
            go_ret
            exact ⟨rfl, HB5.out⟩
  · have HG := Aside0.mk hg
    clear hg
    go_enter Try.func7, Try.ntmps7
    go_wp2_with (first
      | (go_at_call 9; refine (awake_true _).mono ?_; rintro e w1 ⟨rfl, hb1⟩; have HB1 := Aside0.mk hb1; clear hb1)
      | (go_at_call 20; refine (load_bad A0 c0 l w1 (Kd.C_below HC0.out HB1.out) HWF0.out (by omega) HG.out).mono ?_; rintro e w2 ⟨rfl, hb2⟩; have HB2 := Aside0.mk (HB1.out.trans (hb2.mono HB1.out.size)); clear hb2)
      | (go_at_call 21; refine (rload_bad A0 c0 l w2 (Kd.C_below HC0.out HB2.out) HG.out).mono ?_; rintro e w3 ⟨rfl, hb3⟩; have HB3 := Aside0.mk (HB2.out.trans (hb3.mono HB2.out.size)); clear hb3))
    go_loopw [10] (fun v10 wr => v10 = .int .i64 0 ∧ Below w.heap.size w wr) (fun v10 wr => 0)
    case atStart => exact ⟨rfl, HB3.out⟩
    case round =>
      obtain ⟨rfl, hb⟩ := hrel
      have HB := Aside0.mk hb
      clear hb
      have hways : decide (0 < s.length) = false ∨ decide (0 < s.length) = true := by
        cases decide (0 < s.length)
        · exact .inl rfl
        · exact .inr rfl
      rcases hways with h1 | h1
      all_goals
        go_wp2
        go_quiet (fail)
        go_wp2
        go_ret
        exact ⟨rfl, pw_below_drewN HB.out _⟩
end Go.Proofs.Ytbmpglchifnelaa
