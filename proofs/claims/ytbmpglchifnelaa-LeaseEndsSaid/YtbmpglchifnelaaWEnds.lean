/- LeaseEnds, walked: an ended lease is told by its number yet, but is nobody's; the device may have the next one at once: for all devices. -/
import Derived.Test.YtbmpglchifnelaaLAwake
import Derived.BigQuiet
import Derived.Deep.QuietTactic
namespace Go.Proofs.Ytbmpglchifnelaa
open Go.RowKit Go.Maps Go.Proofs.YtbmpglchifnelaaW.PrintWords Go.Proofs.YtbmpglchifnelaaW.PrintLast Go.Proofs.YtbmpglchifnelaaW.PrintMore
set_option linter.unusedVariables false
set_option linter.unusedSimpArgs false
attribute [local go_sem] Oper.semAt_some max2_int min2_int max_two min_two max_three min_three max_four min_four

def Ended (L : List L3) : Prop := ∀ x ∈ L, x.2.2 = 0
theorem ended_of {L : List L3} (h : Ended L) (d : Int) : ofL L d = none := ofL_none.2 (fun i x hi h0 => by have := h x (List.mem_of_getElem? hi); omega)
theorem ended_snoc {L : List L3} (h : Ended L) (n d : Int) : Ended (L ++ [(n, d, 0)]) := by
  intro x hx
  rcases List.mem_append.1 hx with h1 | h1
  · exact h x h1
  · rw [List.mem_singleton.1 h1]
theorem atN_snoc (L : List L3) (x : L3) : atN (L ++ [x]) ((L.length : Int) + 1) = x := by
  unfold atN
  rw [show ((L.length : Int) + 1).toNat - 1 = L.length by omega, List.getD_eq_getElem?_getD]
  simp
theorem ends_grant {L : List L3} (h : Ended L) (hl : L.length < 20000) {d now : Int} (hd : okDev d) (hn : okNow now) : grantL L d now 5 = (L ++ [((L.length : Int) + 1, d, now + 5)], ((L.length : Int) + 1, d, now + 5), 0) := by
  unfold grantL
  rw [if_neg (by simp [hd, hn]; decide), if_neg (by rw [ended_of h]; simp), if_neg (by omega)]
theorem ends_bad (L : List L3) {d now : Int} (hd : ¬ okDev d) : grantL L d now 5 = (L, (0, 0, 0), 1) := by
  unfold grantL
  rw [if_pos (fun h => hd h.1)]
  rfl
theorem ends_end (L : List L3) (d u : Int) (hu : 0 < u) : endL (L ++ [((L.length : Int) + 1, d, u)]) ((L.length : Int) + 1) = (L ++ [((L.length : Int) + 1, d, 0)], 0) := by
  unfold endL
  rw [if_neg (by simp only [Decidable.not_not]; exact ⟨by omega, by simp, by rw [atN_snoc]; exact hu⟩), atN_snoc, show ((L.length : Int) + 1).toNat - 1 = L.length by omega, List.set_append_right _ _ (Nat.le_refl _), Nat.sub_self, List.set_cons_zero]
theorem ends_closed (L : List L3) (d : Int) : ¬ openN (L ++ [((L.length : Int) + 1, d, 0)]) ((L.length : Int) + 1) := fun h => by
  have := h.2.2
  rw [atN_snoc] at this
  exact absurd this (by simp)
theorem ends_again (L : List L3) (d : Int) : endL (L ++ [((L.length : Int) + 1, d, 0)]) ((L.length : Int) + 1) = (L ++ [((L.length : Int) + 1, d, 0)], 4) := by
  unfold endL
  rw [if_pos (ends_closed L d)]
theorem ends_renew (L : List L3) (d : Int) {now : Int} (hn : okNow now) : renewL (L ++ [((L.length : Int) + 1, d, 0)]) ((L.length : Int) + 1) now 5 = (L ++ [((L.length : Int) + 1, d, 0)], (0, 0, 0), 4) := by
  unfold renewL
  rw [if_neg (by simp [hn]; decide), if_pos (ends_closed L d)]
  rfl
theorem ends_at (L : List L3) (d : Int) : atD (L ++ [((L.length : Int) + 1, d, 0)]) ((L.length : Int) + 1) = (((L.length : Int) + 1, d, 0), 0) := by
  unfold atD
  rw [if_pos ⟨by omega, by simp⟩, atN_snoc]
theorem ends_none {L : List L3} (h : Ended L) (n d : Int) : ofD (L ++ [(n, d, 0)]) d = ((0, 0, 0), false) := by
  unfold ofD
  rw [ended_of (ended_snoc h n d)]
  rfl
theorem box_past {w W : World} {base g m bx : Nat} {rb : Option Nat} {L : List L3} {o : Obj} (h : TabAt w base g rb m L) (hs : w.heap.size ≤ bx) {W0 : World} (hk : Keep W0 W (tabS g rb m)) (hb : W0.heap[bx]? = some o) : W.heap[bx]? = some o := hk.blk hb (tabS_ne h.lt hs)
set_option maxHeartbeats 2000000 in
set_option maxRecDepth 100000 in
theorem leaseEnds_walk (A0 : Option Addr) (c0 : Nat) (l : List Int) (w : World) (hC : Kd.C (Kd.int .i64) w A0 l.length l) (hwf : ∀ x ∈ l, (Lit.int .i64 x).wf = true) :
    Calls Try.prog 4 #[.slice A0 l.length c0] w fun e w' => e = .returned (.bool true) ∧ Below w.heap.size w w' := by
  have HC := Aside0.mk hC
  have HWF := Aside0.mk hwf
  clear hC hwf
  go_enter Try.func4, Try.ntmps4
  go_wp2_with (first
    | (go_at_call 9; refine (awake_true _).mono ?_; rintro e w1 ⟨rfl, hb1⟩; have HB1 := Aside0.mk hb1; clear hb1)
    | (go_at_call 10; refine (new_calls w1).mono ?_; rintro e w2 ⟨g, m, rfl, ht, hb2⟩; have HT2 := Aside0.mk ht; have HB2 := Aside0.mk (HB1.out.trans (hb2.mono HB1.out.size)); have HS1 := Aside0.mk HB1.out.size; clear ht hb2))
  go_loopw [5, 6] (fun v5 v6 wr => ∃ (i : Nat) (L : List L3) (rb : Option Nat), v6 = .int .i64 (i : Int) ∧ v5 = .int .i64 (i : Int) ∧ i ≤ l.length ∧ i ≤ 100 ∧ L.length = i ∧ Ended L ∧ TabAt wr w1.heap.size g rb m L ∧ Below w.heap.size w wr ∧ w1.heap.size ≤ wr.heap.size) (fun v5 v6 wr => l.length - (intOf v6).toNat)
  case atStart => exact ⟨0, [], none, rfl, rfl, Nat.zero_le _, Nat.zero_le _, rfl, by intro x hx; simp at hx, HT2.out, HB2.out, by have := HT2.out.lt; have := HT2.out.bg; omega⟩
  case round =>
    obtain ⟨i, L, rb, rfl, rfl, hi, hi1, hLi, hend, ht, hb, hs⟩ := hrel
    have HT := Aside0.mk ht
    have HB := Aside0.mk hb
    have HS := Aside0.mk hs
    have HEND := Aside0.mk hend
    clear ht hb hs hend
    by_cases hlt : i < l.length
    · by_cases h100 : (i : Int) < 100
      · obtain ⟨ad, e1, hcells⟩ := (Kd.reads_of_C (enc := Value.int .i64) (d := (0 : Int)) (h1 := fun _ => rfl) HC.out).2.2 (by omega)
        subst e1
        have hcw := hcells i hlt
        obtain ⟨d, hd⟩ : ∃ d, l.getD i 0 = d := ⟨_, rfl⟩
        rw [hd] at hcw
        have HCW := Aside0.mk hcw
        have hcr := pw_cell_below HB.out hcw
        have HDW := Aside0.mk (show (Lit.int .i64 d).wf = true by
          rw [← hd, List.getD_eq_getElem?_getD, List.getElem?_eq_getElem hlt]
          exact HWF.out _ (List.getElem_mem hlt))
        have hNow : okNow (i : Int) := ⟨by omega, by omega⟩
        have HNW := Aside0.mk (show (Lit.int .i64 (i : Int)).wf = true by simp [Lit.wf, IntKind.min, IntKind.max, IntKind.bits, IntKind.signed]; omega)
        clear hcells hcw hd
        by_cases hdv : okDev d
        · have hG := ends_grant HEND.out (by omega) hdv hNow
          have hE := ends_end L d ((i : Int) + 5) (by omega)
          have hEA := ends_again L d
          have hRN := ends_renew L d hNow
          have hAT := ends_at L d
          have hOF := ends_none HEND.out ((L.length : Int) + 1) d
          have hES := ended_snoc HEND.out ((L.length : Int) + 1) d
          obtain ⟨La, hLa⟩ : ∃ La, L ++ [((L.length : Int) + 1, d, (i : Int) + 5)] = La := ⟨_, rfl⟩
          obtain ⟨Lb, hLb⟩ : ∃ Lb, L ++ [((L.length : Int) + 1, d, 0)] = Lb := ⟨_, rfl⟩
          have HLB := Aside0.mk (show Lb.length = i + 1 by rw [← hLb]; simp; omega)
          rw [hLa] at hG hE
          rw [hLb] at hE hEA hRN hAT hOF hES
          rw [show (L.length : Int) = (i : Int) by omega] at hG hE hEA hRN hAT
          have HG := Aside0.mk hG
          have HE := Aside0.mk hE
          have HEA := Aside0.mk hEA
          have HRN := Aside0.mk hRN
          have HAT := Aside0.mk hAT
          have HOF := Aside0.mk hOF
          have HES := Aside0.mk hES
          clear hG hE hEA hRN hAT hOF hES hLa hLb hNow hdv hLi
          go_wp2_with (first
            | (go_at_call 11; refine (grant_flat w1.heap.size g m rb L La d (i : Int) 5 _ _ _ _ wr HT.out HS.out HDW.out HNW.out (by decide) HG.out).mono ?_; rintro e w3 ⟨rfl, rb3, ht3, han3, hk3⟩; have HB3 := Aside0.mk (HB.out.trans ((tab_low HT.out hk3 HS.out).mono HB1.out.size)); have HT3 := Aside0.mk ht3; have HS3 := Aside0.mk (Nat.le_trans HS.out hk3.size); clear ht3 han3 hk3)
            | (go_at_call 14; ((with_reducible refine (end_flat w1.heap.size g m rb3 La Lb ((i : Int) + 1) 0 (w3.alloc (.cells #[.int .i64 ((i : Int) + 1), .int .i64 d, .int .i64 ((i : Int) + 5)] 27)) (HT3.out.later (below_alloc (Below.refl _ _) _)) HE.out).mono ?_); rintro e w4 ⟨rfl, ht4, hk4⟩; have hb7 := hk4.blk (blk_new w3 (.cells #[.int .i64 ((i : Int) + 1), .int .i64 d, .int .i64 ((i : Int) + 5)] 27)) (tabS_ne HT3.out.lt (Nat.le_refl _)); have hk34 : Keep w3 w4 (tabS g rb3 m) := (Keep.of_below (below_alloc (Below.refl _ _) _) _).then_ hk4 (fun k h => .inl h); have HB4 := Aside0.mk (HB3.out.trans ((tab_low HT3.out hk34 HS3.out).mono HB1.out.size)); have hcr4 := pw_cell_below HB4.out HCW.out; have HB7 := Aside0.mk hb7; have HT4 := Aside0.mk ht4; have HS4 := Aside0.mk (Nat.le_trans HS3.out hk34.size); have HL7 := Aside0.mk (show w3.heap.size < w4.heap.size from blk_lt hb7); clear ht4 hk4 hk34 hb7))
            | (go_at_call 13; (with_reducible refine (of_flat w1.heap.size g m rb3 Lb d 0 0 0 false w4 HT4.out HDW.out HOF.out).mono ?_); rintro e w5 ⟨rfl, hb5⟩; have HT5 := Aside0.mk (HT4.out.later hb5); have HB5 := Aside0.mk (HB4.out.trans (hb5.mono HB4.out.size)); have h7 := blk_below HB7.out hb5; have hx5 : (w5.alloc (.cells #[.int .i64 0, .int .i64 0, .int .i64 0] 27)).cell? ⟨w3.heap.size, 0, none⟩ = some (.int .i64 ((i : Int) + 1)) := (blk_cell (blk_alloc h7 _) 0).trans rfl; have HB75 := Aside0.mk h7; have HS5 := Aside0.mk (Nat.le_trans HS4.out hb5.size); clear hb5 h7)
            | (go_at_call 15; (with_reducible refine (at_flat w1.heap.size g m rb3 Lb ((i : Int) + 1) ((i : Int) + 1) d 0 0 (w5.alloc (.cells #[.int .i64 0, .int .i64 0, .int .i64 0] 27)) (HT5.out.later (below_alloc (Below.refl _ _) _)) HAT.out).mono ?_); rintro e w6 ⟨rfl, hb6⟩; have hb56 := (below_alloc (Below.refl w5.heap.size w5) (.cells #[.int .i64 0, .int .i64 0, .int .i64 0] 27)).trans (hb6.mono (by simp)); have HT6 := Aside0.mk (HT5.out.later hb56); have HB6 := Aside0.mk (HB5.out.trans (hb56.mono HB5.out.size)); have h7 := blk_below HB75.out hb56; have hx6 : (w6.alloc (.cells #[.int .i64 ((i : Int) + 1), .int .i64 d, .int .i64 0] 27)).cell? ⟨w3.heap.size, 0, none⟩ = some (.int .i64 ((i : Int) + 1)) := (blk_cell (blk_alloc h7 _) 0).trans rfl; have HB76 := Aside0.mk h7; have HS6 := Aside0.mk (Nat.le_trans HS5.out hb56.size); clear hb6 hb56 h7)
            | (go_at_call 14; ((with_reducible refine (end_flat w1.heap.size g m rb3 Lb Lb ((i : Int) + 1) 4 (w6.alloc (.cells #[.int .i64 ((i : Int) + 1), .int .i64 d, .int .i64 0] 27)) (HT6.out.later (below_alloc (Below.refl _ _) _)) HEA.out).mono ?_); rintro e w7 ⟨rfl, ht7, hk7⟩; have h12 := hk7.blk (blk_new w6 (.cells #[.int .i64 ((i : Int) + 1), .int .i64 d, .int .i64 0] 27)) (tabS_ne HT6.out.lt (Nat.le_refl _)); have h7 := hk7.blk (blk_alloc HB76.out _) (tabS_ne HT3.out.lt (Nat.le_refl _)); have hk67 : Keep w6 w7 (tabS g rb3 m) := (Keep.of_below (below_alloc (Below.refl _ _) _) _).then_ hk7 (fun k h => .inl h); have HB7B := Aside0.mk (HB6.out.trans ((tab_low HT6.out hk67 HS6.out).mono HB1.out.size)); have hx7 : w7.cell? ⟨w3.heap.size, 0, none⟩ = some (.int .i64 ((i : Int) + 1)) := (blk_cell h7 0).trans rfl; have HB77 := Aside0.mk h7; have H12 := Aside0.mk h12; have HT7 := Aside0.mk ht7; have HS7 := Aside0.mk (Nat.le_trans HS6.out hk67.size); clear ht7 hk7 hk67 h7 h12))
            | (go_at_call 12; (with_reducible refine (renew_flat w1.heap.size g m rb3 Lb Lb ((i : Int) + 1) (i : Int) 5 0 0 0 4 w7 HT7.out HRN.out).mono ?_); rintro e w8 ⟨rfl, ht8, hk8⟩; have h7 := hk8.blk HB77.out (tabS_ne HT3.out.lt (Nat.le_refl _)); have h12 := hk8.blk H12.out (tabS_ne HT6.out.lt (Nat.le_refl _)); have HB8 := Aside0.mk (HB7B.out.trans ((tab_low HT7.out hk8 HS7.out).mono HB1.out.size)); have hx8 : (w8.alloc (.cells #[.int .i64 0, .int .i64 0, .int .i64 0] 27)).cell? ⟨w3.heap.size, 0, none⟩ = some (.int .i64 ((i : Int) + 1)) := (blk_cell (blk_alloc h7 _) 0).trans rfl; have hy1 : (w8.alloc (.cells #[.int .i64 0, .int .i64 0, .int .i64 0] 27)).cell? ⟨w6.heap.size, 1, none⟩ = some (.int .i64 d) := (blk_cell (blk_alloc h12 _) 1).trans rfl; have hy2 : (w8.alloc (.cells #[.int .i64 0, .int .i64 0, .int .i64 0] 27)).cell? ⟨w6.heap.size, 2, none⟩ = some (.int .i64 0) := (blk_cell (blk_alloc h12 _) 2).trans rfl; have hcr8 := pw_cell_below (HB8.out.alloc HB8.out.size (.cells #[.int .i64 0, .int .i64 0, .int .i64 0] 27)) HCW.out; have HT8 := Aside0.mk ht8; have HS8 := Aside0.mk (Nat.le_trans HS7.out hk8.size); clear ht8 hk8 h7 h12))
          go_quiet (fail)
          go_wp2
          go_roundw
          case rel =>
            have hbz := pw_below_drewN (below_alloc (Below.refl w8.heap.size w8) (.cells #[.int .i64 0, .int .i64 0, .int .i64 0] 27)) nq
            exact ⟨i + 1, Lb, rb3, by go_num, by go_num, by omega, by omega, HLB.out, HES.out, HT8.out.later hbz, HB8.out.trans (hbz.mono HB8.out.size), Nat.le_trans HS8.out hbz.size⟩
          case measure => simp [intOf]; omega
        · have HG := Aside0.mk (ends_bad L (d := d) (now := (i : Int)) hdv)
          clear hdv hNow
          go_wp2_with (first
            | (go_at_call 11; refine (grant_flat w1.heap.size g m rb L L d (i : Int) 5 _ _ _ _ wr HT.out HS.out HDW.out HNW.out (by decide) HG.out).mono ?_; rintro e w3 ⟨rfl, rb3, ht3, han3, hk3⟩; have HB3 := Aside0.mk (HB.out.trans ((tab_low HT.out hk3 HS.out).mono HB1.out.size)); clear ht3 han3 hk3))
          go_ret
          exact ⟨rfl, HB3.out.alloc HB3.out.size _⟩
      · have hd100 : decide ((i : Int) < 100) = false := by simp; omega
        have HAL := Aside0.mk (all_calls w1.heap.size g m rb L wr HT.out)
        go_wp2_with (go_at_call 16; refine HAL.out.mono ?_; rintro e w3 ⟨v, rfl, hr, hb3⟩; have HB3 := Aside0.mk (HB.out.trans (hb3.mono HB.out.size)); obtain ⟨Av, cv, ev⟩ := Kd.R_slice hr; subst ev; clear hr hb3)
        go_ret
        exact ⟨by simp [hLi], HB3.out⟩
    · have hd3 : decide (i < l.length) = false := by simp; omega
      have HAL := Aside0.mk (all_calls w1.heap.size g m rb L wr HT.out)
      go_wp2_with (go_at_call 16; refine HAL.out.mono ?_; rintro e w3 ⟨v, rfl, hr, hb3⟩; have HB3 := Aside0.mk (HB.out.trans (hb3.mono HB.out.size)); obtain ⟨Av, cv, ev⟩ := Kd.R_slice hr; subst ev; clear hr hb3)
      go_ret
      exact ⟨by simp [hLi], HB3.out⟩
end Go.Proofs.Ytbmpglchifnelaa
