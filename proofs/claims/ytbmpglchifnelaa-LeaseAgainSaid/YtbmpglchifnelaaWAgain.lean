/- LeaseAgain, walked: a table that is loaded of all leases goes on as the old one. -/
import Derived.Test.YtbmpglchifnelaaLStepX
import Derived.Test.YtbmpglchifnelaaWLoads
namespace Go.Proofs.Ytbmpglchifnelaa
open Go.RowKit Go.Maps Go.Proofs.YtbmpglchifnelaaW.PrintWords Go.Proofs.YtbmpglchifnelaaW.PrintLast Go.Proofs.YtbmpglchifnelaaW.PrintMore
set_option linter.unusedVariables false
set_option linter.unusedSimpArgs false
attribute [local go_sem] Oper.semAt_some max2_int min2_int max_two min_two max_three min_three max_four min_four

theorem good_wf {L : List L3} (hg : Good L) : ∀ x ∈ L, leaseWf x := by
  intro x hx
  obtain ⟨i, hi, he⟩ := List.getElem_of_mem hx
  have h1 := hg.ent i x (by rw [List.getElem?_eq_getElem hi, he])
  have h2 := hg.len
  refine ⟨?_, ?_, ?_⟩
  · simp [Lit.wf, IntKind.min, IntKind.max, IntKind.bits, IntKind.signed]; omega
  · simp [Lit.wf, IntKind.min, IntKind.max, IntKind.bits, IntKind.signed]; omega
  · simp [Lit.wf, IntKind.min, IntKind.max, IntKind.bits, IntKind.signed]; omega
/-- The two tables of the program have no block in common. -/
def Twain (g : Nat) (rbt : Option Nat) (m gx : Nat) (rbx : Option Nat) (mx : Nat) : Prop := ∀ k, tabS g rbt m k → ¬ tabS gx rbx mx k
section
variable {w w4 w5 : World} {base g m gx mx gr : Nat} {rbt rbx rbr : Option Nat} {K K' M' : List L3}
theorem tabS_lt (ht : TabAt w base g rbt m K) {k : Nat} (hk : tabS g rbt m k) : k < w.heap.size := by
  rcases hk with e | e | e
  · exact e ▸ ht.lt.1
  · exact (ht.lt.2.2 k e.symm).1
  · exact e ▸ ht.lt.2.1
theorem refS_lt (hr : RefAt w base gr rbr K) {k : Nat} (hk : refS gr rbr k) : k < w.heap.size := by
  rcases hk with e | e
  · exact e ▸ hr.lt.1
  · exact (hr.lt.2 k e.symm).1
theorem tabS_new {rbx' : Option Nat} (hn : Anew w rbx rbx') {k : Nat} (hk : tabS gx rbx' mx k) (hl : k < w.heap.size) : tabS gx rbx mx k := by
  rcases hk with e | e | e
  · exact .inl e
  · rcases hn with h | h
    · exact .inr (.inl (e.trans h))
    · have := h k e.symm; omega
  · exact .inr (.inr e)
theorem TabAt.keepS {S : Nat → Prop} (h : TabAt w base g rbt m K) (hk : Keep w w4 S) (hs : ∀ k, tabS g rbt m k → ¬ S k) : TabAt w4 base g rbt m K :=
  h.keep hk (hs g (.inl rfl)) (fun k e => hs k (.inr (.inl e.symm))) (hs m (.inr (.inr rfl)))
theorem RefAt.keepS {S : Nat → Prop} (h : RefAt w base gr rbr K) (hk : Keep w w4 S) (hs : ∀ k, refS gr rbr k → ¬ S k) : RefAt w4 base gr rbr K :=
  h.keep hk (hs gr (.inl rfl)) (fun k e => hs k (.inr e.symm))
/-- The loaded table and the reference do a step; the old table stays. -/
theorem trio_one (ht : TabAt w base g rbt m K) (hx : TabAt w base gx rbx mx K) (hr : RefAt w base gr rbr K) (a1 : Apart g rbt m gr rbr) (tt : Twain g rbt m gx rbx mx) (hs : StepOk w w4 base gx mx gr rbx rbr K' K') :
    TabAt w4 base g rbt m K ∧ ∃ rbx' rbr', TabAt w4 base gx rbx' mx K' ∧ RefAt w4 base gr rbr' K' ∧ Apart g rbt m gr rbr' ∧ Apart gx rbx' mx gr rbr' ∧ Twain g rbt m gx rbx' mx := by
  obtain ⟨rbx', rbr', h1, h2, h3, h4, h5, hk⟩ := hs
  refine ⟨ht.keepS hk (fun k e1 e2 => ?_), rbx', rbr', h1, h2, a1.ref h5 ht, h3, fun k e1 e2 => tt k e1 (tabS_new h4 e2 (tabS_lt ht e1))⟩
  rcases e2 with e2 | e2
  · exact tt k e1 e2
  · exact a1 k e1 e2
/-- Three tables, apart, that say the same. -/
def Trio (w : World) (base g m gx mx gr : Nat) (K : List L3) : Prop := ∃ rbt rbx rbr, TabAt w base g rbt m K ∧ TabAt w base gx rbx mx K ∧ RefAt w base gr rbr K ∧ Apart g rbt m gr rbr ∧ Apart gx rbx mx gr rbr ∧ Twain g rbt m gx rbx mx
theorem trio_two {o : Obj} (ht : TabAt w4 base g rbt m K) (hx : TabAt w4 base gx rbx mx K') (hr : RefAt w4 base gr rbr K') (a1 : Apart g rbt m gr rbr) (a2 : Apart gx rbx mx gr rbr) (tt : Twain g rbt m gx rbx mx) (hs : StepOk (w4.alloc o) w5 base g m w4.heap.size rbt none K' M') : Trio w5 base g m gx mx gr K' := by
  obtain ⟨rbt', rbn, h1, h2, h3, h4, h5, hk⟩ := hs
  have b0 : Below w4.heap.size w4 (w4.alloc o) := below_alloc (Below.refl _ _) _
  have hx4 := hx.later b0
  have hr4 := hr.later b0
  have ht4 := ht.later b0
  have hsz : ∀ k, refS w4.heap.size none k → k = w4.heap.size := by
    intro k e
    rcases e with e | e
    · exact e
    · cases e
  refine ⟨rbt', rbx, rbr, h1, hx4.keepS hk (fun k e1 e2 => ?_), hr4.keepS hk (fun k e1 e2 => ?_), a1.tab h4 hr4, a2, fun k e1 e2 => ?_⟩
  · rcases e2 with e2 | e2
    · exact tt k e2 e1
    · have := tabS_lt hx e1; have := hsz k e2; omega
  · rcases e2 with e2 | e2
    · exact a1 k e2 e1
    · have := refS_lt hr e1; have := hsz k e2; omega
  · exact tt k (tabS_new h4 e1 (Nat.lt_of_lt_of_le (tabS_lt hx e2) b0.size)) e2
end
theorem step_q (base gt m g : Nat) (rbt rbr : Option Nat) (L : List L3) (q n now life : Int) (w : World) (ht : TabAt w base gt rbt m L) (hr : RefAt w base g rbr L) (ha : Apart gt rbt m g rbr) (hbase : base ≤ w.heap.size) (hwn : (Lit.int .i64 n).wf = true) (hww : (Lit.int .i64 now).wf = true) (hwl : (Lit.int .i64 life).wf = true) :
    Calls Try.prog 18 #[.pointer (some ⟨gt, 0, none⟩), .pointer (some ⟨g, 0, none⟩), .agg #[.int .i64 q, .int .i64 n, .int .i64 now, .int .i64 life]] w fun e w' => e = .returned (.bool true) ∧ StepOk w w' base gt m g rbt rbr (stepL L (q, n, now, life)) (stepL L (q, n, now, life)) :=
  step_calls base gt m g rbt rbr L (q, n, now, life) w ht hr ha hbase hwn hww hwl
theorem stepx_q (base gt m g : Nat) (rbt rbr : Option Nat) (L M : List L3) (q n now life : Int) (w : World) (ht : TabAt w base gt rbt m L) (hr : RefAt w base g rbr M) (ha : Apart gt rbt m g rbr) (hbase : base ≤ w.heap.size) (hwn : (Lit.int .i64 n).wf = true) (hww : (Lit.int .i64 now).wf = true) (hwl : (Lit.int .i64 life).wf = true) :
    Calls Try.prog 18 #[.pointer (some ⟨gt, 0, none⟩), .pointer (some ⟨g, 0, none⟩), .agg #[.int .i64 q, .int .i64 n, .int .i64 now, .int .i64 life]] w fun e w' => ∃ v : Value, e = .returned v ∧ StepOk w w' base gt m g rbt rbr (stepL L (q, n, now, life)) (stepL M (q, n, now, life)) :=
  stepx_calls base gt m g rbt rbr L M (q, n, now, life) w ht hr ha hbase hwn hww hwl
set_option maxHeartbeats 4000000 in
set_option maxRecDepth 100000 in
theorem leaseAgain_walk (A0 : Option Addr) (c0 : Nat) (l : List Stp) (A1 : Option Addr) (c1 : Nat) (s : List Stp) (w : World) (hC0 : Kd.C stepK w A0 l.length l) (hwf0 : ∀ x ∈ l, stepWf x) (hC1 : Kd.C stepK w A1 s.length s) (hwf1 : ∀ x ∈ s, stepWf x) :
    Calls Try.prog 8 #[.slice A0 l.length c0, .slice A1 s.length c1] w fun e w' => e = .returned (.bool true) ∧ Below w.heap.size w w' := by
  have HC := Aside0.mk hC0
  have HWF := Aside0.mk hwf0
  have HCM := Aside0.mk hC1
  have HWM := Aside0.mk hwf1
  clear hC0 hwf0 hC1 hwf1
  go_enter Try.func8, Try.ntmps8
  go_wp2_with (first
    | (go_at_call 9; refine (awake_true _).mono ?_; rintro e w1 ⟨rfl, hb1⟩; have HB1 := Aside0.mk hb1; clear hb1)
    | (go_at_call 10; refine (new_calls w1).mono ?_; rintro e w2 ⟨g, m, rfl, ht, hb2⟩; have HT2 := Aside0.mk ht; have HB2 := Aside0.mk (HB1.out.trans (hb2.mono HB1.out.size)); have HS2 := Aside0.mk (show w1.heap.size ≤ w2.heap.size from hb2.size); clear ht hb2))
  go_loopw [8] (fun v8 wr => ∃ (i : Nat) (L : List L3) (rbt rbr : Option Nat), v8 = .int .i64 (i : Int) ∧ i ≤ l.length ∧ TabAt wr w1.heap.size g rbt m L ∧ RefAt wr w1.heap.size w2.heap.size rbr L ∧ Apart g rbt m w2.heap.size rbr ∧ Below w.heap.size w wr ∧ w1.heap.size ≤ wr.heap.size) (fun v8 wr => l.length - (intOf v8).toNat)
  case atStart =>
    refine ⟨0, [], none, none, rfl, Nat.zero_le _, HT2.out.later (below_alloc (Below.refl _ _) _), ref_new w2 w1.heap.size HS2.out, ?_, HB2.out.alloc HB2.out.size _, by have := HS2.out; simp; omega⟩
    intro k hk hs
    have h1 := tabS_ne HT2.out.lt (Nat.le_refl _)
    rcases hs with e | e
    · exact h1 (e ▸ hk)
    · cases e
  case round =>
    obtain ⟨i, L, rbt, rbr, rfl, hi, ht, hr, hap, hb, hs⟩ := hrel
    have HT := Aside0.mk ht
    have HR := Aside0.mk hr
    have HAP := Aside0.mk hap
    have HB := Aside0.mk hb
    have HS := Aside0.mk hs
    clear ht hr hap hb hs
    by_cases hrun : i < l.length ∧ (i : Int) < 100
    · obtain ⟨hlt, h100⟩ := hrun
      have hd100 : decide ((i : Int) < 100) = true := by simpa using h100
      obtain ⟨ad, e1, hc0, hc1, hc2, hc3⟩ := step_at4 HC.out i hlt
      subst e1
      have HX := Aside0.mk (stepWf_at HWF.out hlt)
      obtain ⟨x, hx⟩ : ∃ x, l.getD i z4 = x := ⟨_, rfl⟩
      rw [hx] at hc0 hc1 hc2 hc3 HX
      obtain ⟨q, n, now, life⟩ := x
      dsimp only at hc0 hc1 hc2 hc3
      have hq0 := pw_cell_below HB.out hc0
      have hq1 := pw_cell_below HB.out hc1
      have hq2 := pw_cell_below HB.out hc2
      have hq3 := pw_cell_below HB.out hc3
      clear hx hc0 hc1 hc2 hc3
      go_wp2_with (go_at_call 18; refine (step_calls w1.heap.size g m w2.heap.size rbt rbr L (q, n, now, life) wr HT.out HR.out HAP.out HS.out HX.out.2.1 HX.out.2.2.1 HX.out.2.2.2).mono ?_; rintro e w3 ⟨rfl, hok⟩; have HOK := Aside0.mk hok; clear hok)
      go_roundw
      case rel =>
        have hlow := (HOK.out.low HT.out HR.out HS.out).mono HB1.out.size
        obtain ⟨rbt', rbr', h1, h2, h3, _, _, hk⟩ := HOK.out
        exact ⟨i + 1, _, rbt', rbr', by go_num, by omega, h1, h2, h3, HB.out.trans hlow, Nat.le_trans HS.out hk.size⟩
      case measure => simp [intOf]; omega
    · have hways : decide (i < l.length) = false ∨ (decide (i < l.length) = true ∧ decide ((i : Int) < 100) = false) := by
        by_cases h1 : i < l.length
        · exact .inr ⟨decide_eq_true h1, decide_eq_false (fun h2 => hrun ⟨h1, h2⟩)⟩
        · exact .inl (decide_eq_false h1)
      have hlL := HT.out.good.len
      obtain ⟨wo, rfl⟩ : ∃ wo, wo = wr := ⟨_, rfl⟩
      have HAL := Aside0.mk (all_calls w1.heap.size g m rbt L wo HT.out)
      clear hrun
      rcases hways with h1 | ⟨h1, h2⟩
      all_goals
        go_wp2_with (first
          | (go_at_call 16; refine HAL.out.mono ?_; rintro e w4 ⟨v, rfl, hv, hb4⟩; obtain ⟨Av, cv, ev⟩ := Kd.R_slice hv; subst ev; have HV := Aside0.mk hv; have HT4 := Aside0.mk (HT.out.later hb4); have HR4 := Aside0.mk (HR.out.later hb4); have HB4 := Aside0.mk (HB.out.trans (Below.mono hb4 HB.out.size)); have HS4 := Aside0.mk (Nat.le_trans HS.out hb4.size); clear hv hb4)
          | (go_at_call 20; refine (load_good Av cv L w4 (Kd.R_reads' HV.out).2.2 (good_wf HT.out.good) (by omega) HT.out.good).mono ?_; rintro e w5 ⟨gx, rbx, mx, rfl, hx, hb5⟩; have HT5 := Aside0.mk (HT4.out.later hb5); have HR5 := Aside0.mk (HR4.out.later hb5); have HX5 := Aside0.mk (show TabAt w5 w1.heap.size gx rbx mx L from by
              obtain ⟨A', c', n', D', k1, k2, k3, k4, k5, k6⟩ := hx.ex
              exact ⟨hx.good, Nat.le_trans HS4.out hx.bg, Nat.le_trans HS4.out hx.bm, A', c', n', D', k1, Kd.R_lower k2 HS4.out, k3, k4, k5, k6⟩); have HYO := Aside0.mk (show ∀ k, tabS gx rbx mx k → w4.heap.size ≤ k from by
              intro k hk
              rcases hk with e | e | e
              · exact e ▸ hx.bg
              · exact (hx.lt.2.2 k e.symm).2
              · exact e ▸ hx.bm); have HB5 := Aside0.mk (HB4.out.trans (Below.mono hb5 HB4.out.size)); have HS5 := Aside0.mk (Nat.le_trans HS4.out hb5.size); clear hx hb5))
        go_loopw [11] (fun v11 wr => ∃ (j : Nat) (K : List L3), v11 = .int .i64 (j : Int) ∧ j ≤ s.length ∧ Trio wr w1.heap.size g m gx mx w2.heap.size K ∧ Below w.heap.size w wr ∧ w1.heap.size ≤ wr.heap.size) (fun v11 wr => s.length - (intOf v11).toNat)
        case atStart => exact ⟨0, L, rfl, Nat.zero_le _, ⟨rbt, rbx, rbr, HT5.out, HX5.out, HR5.out, HAP.out, fun k e1 e2 => by have h1 := HYO.out k e1; have h2 := refS_lt HR4.out e2; omega, fun k e1 e2 => by have h1 := HYO.out k e2; have h2 := tabS_lt HT4.out e1; omega⟩, HB5.out, HS5.out⟩
        case round =>
          obtain ⟨j, K, rfl, hj, ⟨rbt', rbx', rbr', kt, kx, kr, ka1, ka2, ktt⟩, kb, ks⟩ := hrel
          have KT := Aside0.mk kt
          have KX := Aside0.mk kx
          have KR := Aside0.mk kr
          have KA1 := Aside0.mk ka1
          have KA2 := Aside0.mk ka2
          have KTT := Aside0.mk ktt
          have KB := Aside0.mk kb
          have KS := Aside0.mk ks
          clear kt kx kr ka1 ka2 ktt kb ks
          by_cases hrun : j < s.length ∧ (j : Int) < 100
          · obtain ⟨hlt, h100⟩ := hrun
            have hd100 : decide ((j : Int) < 100) = true := by simpa using h100
            obtain ⟨ad, e1, hc0, hc1, hc2, hc3⟩ := step_at4 HCM.out j hlt
            subst e1
            have HX := Aside0.mk (stepWf_at HWM.out hlt)
            obtain ⟨x, hx⟩ : ∃ x, s.getD j z4 = x := ⟨_, rfl⟩
            rw [hx] at hc0 hc1 hc2 hc3 HX
            obtain ⟨q, n, now, life⟩ := x
            dsimp only at hc0 hc1 hc2 hc3
            have hq0 := pw_cell_below KB.out hc0
            have hq1 := pw_cell_below KB.out hc1
            have hq2 := pw_cell_below KB.out hc2
            have hq3 := pw_cell_below KB.out hc3
            have HN1 := Aside0.mk (show (Lit.int .i64 n).wf = true from HX.out.2.1)
            have HN2 := Aside0.mk (show (Lit.int .i64 now).wf = true from HX.out.2.2.1)
            have HN3 := Aside0.mk (show (Lit.int .i64 life).wf = true from HX.out.2.2.2)
            have HC0 := Aside0.mk hc0
            have HC1 := Aside0.mk hc1
            have HC2 := Aside0.mk hc2
            have HC3 := Aside0.mk hc3
            clear hx hc0 hc1 hc2 hc3
            go_wp2_with (go_at_call 18; first
              | ((with_reducible refine (step_q w1.heap.size gx mx w2.heap.size rbx' rbr' K q n now life wr KX.out KR.out KA2.out KS.out HN1.out HN2.out HN3.out).mono ?_); rintro e w6 ⟨rfl, hok⟩; have KB6 := Aside0.mk (KB.out.trans ((hok.low KX.out KR.out KS.out).mono HB1.out.size)); have KS6 := Aside0.mk (show w1.heap.size ≤ w6.heap.size from by obtain ⟨_, _, _, _, _, _, _, hk⟩ := hok; exact Nat.le_trans KS.out hk.size); obtain ⟨kt6, rbx6, rbr6, kx6, kr6, ka6, kb6, kc6⟩ := trio_one KT.out KX.out KR.out KA1.out KTT.out hok; have KT6 := Aside0.mk kt6; have KX6 := Aside0.mk kx6; have KR6 := Aside0.mk kr6; have KA6 := Aside0.mk ka6; have KC6 := Aside0.mk kb6; have KTT6 := Aside0.mk kc6; have hbz := KB6.out.alloc KB6.out.size (.cells #[.slice none 0 0] 50); have hz0 := pw_cell_below hbz HC0.out; have hz1 := pw_cell_below hbz HC1.out; have hz2 := pw_cell_below hbz HC2.out; have hz3 := pw_cell_below hbz HC3.out; clear hok kt6 kx6 kr6 ka6 kb6 kc6 hbz)
              | (refine (stepx_q w1.heap.size g m w6.heap.size rbt' none K [] q n now life (w6.alloc (.cells #[.slice none 0 0] 50)) (KT6.out.later (below_alloc (Below.refl _ _) _)) (ref_new w6 w1.heap.size KS6.out) (by
                  intro k hk hs
                  have h1 := tabS_lt KT6.out hk
                  rcases hs with e | e
                  · omega
                  · cases e) (by have := KS6.out; simp; omega) HN1.out HN2.out HN3.out).mono ?_; rintro e w7 ⟨v7, rfl, hok⟩; have KB7 := Aside0.mk ((KB6.out.alloc KB6.out.size _).trans ((hok.low (KT6.out.later (below_alloc (Below.refl _ _) _)) (ref_new w6 w1.heap.size KS6.out) (by have := KS6.out; simp; omega)).mono HB1.out.size)); have KS7 := Aside0.mk (show w1.heap.size ≤ w7.heap.size from by obtain ⟨_, _, _, _, _, _, _, hk⟩ := hok; have h1 := hk.size; have h2 := KS6.out; simp at h1; omega); have KTR7 := Aside0.mk (trio_two KT6.out KX6.out KR6.out KA6.out KC6.out KTT6.out hok); clear hok))
            go_roundw
            case rel => exact ⟨j + 1, _, by go_num, by omega, KTR7.out, KB7.out, KS7.out⟩
            case measure => simp [intOf]; omega
          · have hways : decide (j < s.length) = false ∨ (decide (j < s.length) = true ∧ decide ((j : Int) < 100) = false) := by
              by_cases h1 : j < s.length
              · exact .inr ⟨decide_eq_true h1, decide_eq_false (fun h2 => hrun ⟨h1, h2⟩)⟩
              · exact .inl (decide_eq_false h1)
            have HAX := Aside0.mk (all_calls w1.heap.size gx mx rbx' K wr KX.out)
            have HLEN := Aside0.mk KX.out.good.len
            clear hrun
            rcases hways with k1 | ⟨k1, k2⟩
            all_goals
              go_wp2_with (first
                | (go_at_call 16; first
                    | ((with_reducible refine HAX.out.mono ?_); rintro e w8 ⟨v, rfl, hv, hb8⟩; obtain ⟨Ax, cx, ev⟩ := Kd.R_slice hv; subst ev; have HV8 := Aside0.mk hv; have KT8 := Aside0.mk (KT.out.later hb8); have KB8 := Aside0.mk (KB.out.trans (Below.mono hb8 KB.out.size)); clear hv hb8)
                    | (refine (all_calls w1.heap.size g m rbt' K w8 KT8.out).mono ?_; rintro e w9 ⟨v, rfl, hv, hb9⟩; obtain ⟨Ay, cy, ev⟩ := Kd.R_slice hv; subst ev; have HV9 := Aside0.mk hv; have HVX := Aside0.mk (Kd.R_below HV8.out hb9); have KB9 := Aside0.mk (KB8.out.trans (Below.mono hb9 KB8.out.size)); clear hv hb9))
                | (go_at_call 19; refine (same_calls Ax Ay cx cy K w9 HLEN.out (Kd.R_reads' HVX.out).2.2 (Kd.R_reads' HV9.out).2.2).mono ?_; rintro e w10 ⟨rfl, hb10⟩; have KB10 := Aside0.mk (KB9.out.trans (Below.mono hb10 KB9.out.size)); clear hb10))
              go_ret
              exact ⟨rfl, KB10.out⟩
end Go.Proofs.Ytbmpglchifnelaa
