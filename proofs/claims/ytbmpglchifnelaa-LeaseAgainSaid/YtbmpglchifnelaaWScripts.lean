/- LeaseScripts, walked: a table does any steps, as the document says. -/
import Derived.Test.YtbmpglchifnelaaLStep
import Derived.BigQuiet
import Derived.Deep.QuietTactic
import Derived.Deep.RegionWith
namespace Go.Proofs.Ytbmpglchifnelaa
open Go.RowKit Go.Maps Go.Proofs.YtbmpglchifnelaaW.PrintWords Go.Proofs.YtbmpglchifnelaaW.PrintLast Go.Proofs.YtbmpglchifnelaaW.PrintMore
set_option linter.unusedVariables false
set_option linter.unusedSimpArgs false
attribute [local go_sem] Oper.semAt_some max2_int min2_int max_two min_two max_three min_three max_four min_four

abbrev stepK : Kd Stp := Kd.pair (Kd.int .i64) (Kd.pair (Kd.int .i64) (Kd.pair (Kd.int .i64) (Kd.int .i64)))
def z4 : Stp := (0, 0, 0, 0)
def cells4 (x : Stp) : List Value := [.int .i64 x.1, .int .i64 x.2.1, .int .i64 x.2.2.1, .int .i64 x.2.2.2]
theorem step_K {w : World} {x : Stp} {cs : List Value} (h : stepK.K w x cs) : cs = cells4 x := by
  obtain ⟨c0, c1, rfl, h0, c2, c3, rfl, h1, c4, c5, rfl, h2, h3⟩ := h
  have e0 : c0 = [.int .i64 x.1] := h0
  have e1 : c2 = [.int .i64 x.2.1] := h1
  have e2 : c4 = [.int .i64 x.2.2.1] := h2
  have e3 : c5 = [.int .i64 x.2.2.2] := h3
  subst e0 e1 e2 e3
  rfl
/-- The cells of a row's step. -/
theorem step_at4 {w : World} {A : Option Addr} {n : Nat} {L : List Stp} (h : stepK.C w A n L) (i : Nat) (hi : i < n) : ∃ ad, A = some ad ∧ w.cell? (ad.add (i * 4)) = some (.int .i64 (L.getD i z4).1) ∧ w.cell? ⟨(ad.add (i * 4)).block, (ad.add (i * 4)).off + 1, none⟩ = some (.int .i64 (L.getD i z4).2.1) ∧ w.cell? ⟨(ad.add (i * 4)).block, (ad.add (i * 4)).off + 2, none⟩ = some (.int .i64 (L.getD i z4).2.2.1) ∧ w.cell? ⟨(ad.add (i * 4)).block, (ad.add (i * 4)).off + 3, none⟩ = some (.int .i64 (L.getD i z4).2.2.2) := by
  obtain ⟨ad, c, hA, hl, hK, hc⟩ := Kd.C_get h z4 (i : Int) (by omega) (by omega)
  have hs : stepK.sz = 4 := rfl
  have e := step_K hK
  simp only [Int.toNat_natCast, hs] at hc e
  subst e
  refine ⟨ad, hA, hc 0 _ rfl, ?_, ?_, ?_⟩
  · rw [← add_field ad (i * 4) 1 (by omega)]; exact hc 1 _ rfl
  · rw [← add_field ad (i * 4) 2 (by omega)]; exact hc 2 _ rfl
  · rw [← add_field ad (i * 4) 3 (by omega)]; exact hc 3 _ rfl
def stepWf (x : Stp) : Prop := (Lit.int .i64 x.1).wf = true ∧ (Lit.int .i64 x.2.1).wf = true ∧ (Lit.int .i64 x.2.2.1).wf = true ∧ (Lit.int .i64 x.2.2.2).wf = true
theorem stepWf_at {l : List Stp} (h : ∀ x ∈ l, stepWf x) {i : Nat} (hi : i < l.length) : stepWf (l.getD i z4) := by
  rw [List.getD_eq_getElem?_getD, List.getElem?_eq_getElem hi]
  exact h _ (List.getElem_mem hi)
/-- A reference's table without leases. -/
theorem ref_new (w : World) (base : Nat) (hb : base ≤ w.heap.size) : RefAt (w.alloc (.cells #[.slice none 0 0] 50)) base w.heap.size none [] :=
  ⟨Good.nil, hb, none, 0, blk_new _ _, Kd.R_nil _ _ _ _ _, rfl⟩
set_option maxHeartbeats 4000000 in
set_option maxRecDepth 100000 in
theorem leaseScripts_walk (A0 : Option Addr) (c0 : Nat) (l : List Stp) (w : World) (hC : Kd.C stepK w A0 l.length l) (hwf : ∀ x ∈ l, stepWf x) :
    Calls Try.prog 6 #[.slice A0 l.length c0] w fun e w' => e = .returned (.bool true) ∧ Below w.heap.size w w' := by
  have HC := Aside0.mk hC
  have HWF := Aside0.mk hwf
  clear hC hwf
  go_enter Try.func6, Try.ntmps6
  go_wp2_with (first
    | (go_at_call 9; refine (awake_true _).mono ?_; rintro e w1 ⟨rfl, hb1⟩; have HB1 := Aside0.mk hb1; clear hb1)
    | (go_at_call 10; refine (new_calls w1).mono ?_; rintro e w2 ⟨g, m, rfl, ht, hb2⟩; have HT2 := Aside0.mk ht; have HB2 := Aside0.mk (HB1.out.trans (hb2.mono HB1.out.size)); have HS2 := Aside0.mk (show w1.heap.size ≤ w2.heap.size from hb2.size); clear ht hb2))
  go_loopw [6] (fun v6 wr => ∃ (i : Nat) (L : List L3) (rbt rbr : Option Nat), v6 = .int .i64 (i : Int) ∧ i ≤ l.length ∧ TabAt wr w1.heap.size g rbt m L ∧ RefAt wr w1.heap.size w2.heap.size rbr L ∧ Apart g rbt m w2.heap.size rbr ∧ Below w.heap.size w wr ∧ w1.heap.size ≤ wr.heap.size) (fun v6 wr => l.length - (intOf v6).toNat)
  case atStart =>
    refine ⟨0, [], none, none, rfl, Nat.zero_le _, HT2.out.later (below_alloc (Below.refl _ _) _), ref_new w2 w1.heap.size HS2.out, ?_, HB2.out.alloc HB2.out.size _, by have := HS2.out; simp; omega⟩
    intro k hk hs
    have h1 := tabS_ne HT2.out.lt (Nat.le_refl _)
    rcases hs with e | e
    · exact h1 (e ▸ hk)
    · cases e
  case round =>
    obtain ⟨i, L, rbt, rbr, rfl, hi, ht, hr, hap, hb, hs⟩ := hrel
    have HT := Aside0.mk ht
    have HR := Aside0.mk hr
    have HAP := Aside0.mk hap
    have HB := Aside0.mk hb
    have HS := Aside0.mk hs
    obtain ⟨Ar, cr, hbr, hRr, _⟩ := hr.ex
    have hcr : wr.cell? ⟨w2.heap.size, 0, none⟩ = some (.slice Ar L.length cr) := (blk_cell hbr 0).trans rfl
    have HBR := Aside0.mk hbr
    have HRR := Aside0.mk hRr
    have HLEN := Aside0.mk ht.good.len
    clear ht hr hap hb hs hbr hRr
    by_cases hrun : i < l.length ∧ (i : Int) < 200
    · obtain ⟨hlt, h200⟩ := hrun
      have hd200 : decide ((i : Int) < 200) = true := by simpa using h200
      obtain ⟨ad, e1, hc0, hc1, hc2, hc3⟩ := step_at4 HC.out i hlt
      subst e1
      have HX := Aside0.mk (stepWf_at HWF.out hlt)
      obtain ⟨x, hx⟩ : ∃ x, l.getD i z4 = x := ⟨_, rfl⟩
      rw [hx] at hc0 hc1 hc2 hc3 HX
      obtain ⟨q, n, now, life⟩ := x
      dsimp only at hc0 hc1 hc2 hc3
      have hd0 := pw_cell_below HB.out hc0
      have hd1 := pw_cell_below HB.out hc1
      have hd2 := pw_cell_below HB.out hc2
      have hd3 := pw_cell_below HB.out hc3
      clear hx hc0 hc1 hc2 hc3 hcr
      go_wp2_with (go_at_call 18; refine (step_calls w1.heap.size g m w2.heap.size rbt rbr L (q, n, now, life) wr HT.out HR.out HAP.out HS.out HX.out.2.1 HX.out.2.2.1 HX.out.2.2.2).mono ?_; rintro e w3 ⟨rfl, hok⟩; have HOK := Aside0.mk hok; clear hok)
      go_roundw
      case rel =>
        have hlow := (HOK.out.low HT.out HR.out HS.out).mono HB1.out.size
        obtain ⟨rbt', rbr', h1, h2, h3, _, _, hk⟩ := HOK.out
        exact ⟨i + 1, _, rbt', rbr', by go_num, by omega, h1, h2, h3, HB.out.trans hlow, Nat.le_trans HS.out hk.size⟩
      case measure => simp [intOf]; omega
    · have hways : decide (i < l.length) = false ∨ (decide (i < l.length) = true ∧ decide ((i : Int) < 200) = false) := by
        by_cases h1 : i < l.length
        · exact .inr ⟨decide_eq_true h1, decide_eq_false (fun h2 => hrun ⟨h1, h2⟩)⟩
        · exact .inl (decide_eq_false h1)
      have HAL := Aside0.mk (all_calls w1.heap.size g m rbt L wr.drew (HT.out.later (below_drew (Below.refl _ _))))
      clear hrun
      rcases hways with h1 | ⟨h1, h2⟩
      all_goals
        go_wp2
        go_region_with (first
          | (go_at_call 16; refine HAL.out.mono ?_; rintro e w3 ⟨v, rfl, hv, hb3⟩; obtain ⟨Av, cv, ev⟩ := Kd.R_slice hv; subst ev; have hcr3 : w3.cell? ⟨w2.heap.size, 0, none⟩ = some (.slice Ar L.length cr) := (blk_cell (blk_below (show wr.drew.heap[w2.heap.size]? = _ from HBR.out) hb3) 0).trans rfl; have HV := Aside0.mk hv; have HB3 := Aside0.mk ((below_drew HB.out).trans (Below.mono hb3 HB.out.size)); have HRR3 := Aside0.mk (Kd.R_below (Kd.R_drew HRR.out) hb3); clear hv hb3)
          | (go_at_call 19; refine (same_calls Av Ar cv cr L w3 HLEN.out (Kd.R_reads' HV.out).2.2 (Kd.R_reads' HRR3.out).2.2).mono ?_; rintro e w4 ⟨rfl, hb4⟩; have HB4 := Aside0.mk (HB3.out.trans (Below.mono hb4 HB3.out.size)); clear hb4))
        all_goals
          go_wp2
          go_ret
          exact ⟨rfl, HB4.out⟩
end Go.Proofs.Ytbmpglchifnelaa
