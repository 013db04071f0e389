/- The contracts of the program's find, Of, At. -/
import Derived.Test.YtbmpglchifnelaaLGrant
namespace Go.Proofs.Ytbmpglchifnelaa
open Go.RowKit Go.Maps Go.Proofs.YtbmpglchifnelaaW.PrintWords Go.Proofs.YtbmpglchifnelaaW.PrintLast Go.Proofs.YtbmpglchifnelaaW.PrintMore
set_option linter.unusedVariables false
set_option linter.unusedSimpArgs false
attribute [local go_sem] Oper.semAt_some max2_int min2_int max_two min_two max_three min_three max_four min_four

theorem find_out (base g m : Nat) (rb : Option Nat) (L : List L3) (n : Int) (w : World) (h : TabAt w base g rb m L) (hn : ¬ (1 ≤ n ∧ n ≤ L.length)) :
    Calls Try.prog 24 #[.pointer (some ⟨g, 0, none⟩), .int .i64 n] w fun e w' => e = .returned (.pointer none) ∧ w = w' := by
  obtain ⟨A, c, n0, D, hb, hR, ho, hM, hnl, hD⟩ := h.ex
  have hca : w.cell? ⟨g, 0, none⟩ = some (.slice A L.length c) := (blk_cell hb 0).trans rfl
  have W1 := Aside0.mk (fun w => within_false n 1 L.length w hn)
  clear hb hR ho hM hnl hD hn h
  go_enter Try.func24, Try.ntmps24
  go_wp2_with (go_at_call 22; (with_reducible refine (W1.out _).mono ?_); rintro e w' ⟨rfl, rfl⟩)
  go_ret
  exact ⟨rfl, rfl⟩
theorem find_ended (base g m : Nat) (rb : Option Nat) (L : List L3) (k : Nat) (w : World) (h : TabAt w base g rb m L) (hk : k < L.length) (hz : (L.getD k z3).2.2 = 0) :
    Calls Try.prog 24 #[.pointer (some ⟨g, 0, none⟩), .int .i64 ((k : Int) + 1)] w fun e w' => e = .returned (.pointer none) ∧ w = w' := by
  obtain ⟨A, c, n0, D, hb, hR, ho, hM, hnl, hD⟩ := h.ex
  have hca : w.cell? ⟨g, 0, none⟩ = some (.slice A L.length c) := (blk_cell hb 0).trans rfl
  obtain ⟨gb, e, hgb, hx0, hx1, hx2, hfr⟩ := lease_cell hR k hk
  subst e
  have W1 := Aside0.mk (fun w => within_true ((k : Int) + 1) 1 L.length w ⟨by omega, by omega⟩)
  have hlen : L.length ≤ 20000 := h.good.len
  have HO := Aside0.mk ho
  clear hb hR ho hM hnl hD h hx0 hx1 hfr
  rw [hz] at hx2
  clear hz
  go_enter Try.func24, Try.ntmps24
  go_wp2_with (go_at_call 22; (with_reducible refine (W1.out _).mono ?_); rintro e w' ⟨rfl, rfl⟩)
  go_ret
  exact ⟨rfl, rfl⟩
theorem find_open (base g m : Nat) (rb : Option Nat) (L : List L3) (k : Nat) (w : World) (h : TabAt w base g rb m L) (hk : k < L.length) (hz : (L.getD k z3).2.2 ≠ 0) :
    Calls Try.prog 24 #[.pointer (some ⟨g, 0, none⟩), .int .i64 ((k : Int) + 1)] w fun e w' => ∃ gb, (rb = some gb ∧ e = .returned (.pointer (some ⟨gb, k * 3, none⟩))) ∧ w = w' := by
  obtain ⟨A, c, n0, D, hb, hR, ho, hM, hnl, hD⟩ := h.ex
  have hca : w.cell? ⟨g, 0, none⟩ = some (.slice A L.length c) := (blk_cell hb 0).trans rfl
  obtain ⟨gb, e, hgb, hx0, hx1, hx2, hfr⟩ := lease_cell hR k hk
  subst e
  have W1 := Aside0.mk (fun w => within_true ((k : Int) + 1) 1 L.length w ⟨by omega, by omega⟩)
  have hlen : L.length ≤ 20000 := h.good.len
  have HO := Aside0.mk ho
  clear hb hR ho hM hnl hD h hx0 hx1 hfr
  obtain ⟨u, hu⟩ : ∃ u, (L.getD k z3).2.2 = u := ⟨_, rfl⟩
  rw [hu] at hx2 hz
  have hzd : (u == 0) = false := by simpa using hz
  clear hu
  go_enter Try.func24, Try.ntmps24
  go_wp2_with (go_at_call 22; (with_reducible refine (W1.out _).mono ?_); rintro e w' ⟨rfl, rfl⟩)
  go_ret
  exact ⟨gb, ⟨HO.out.symm, rfl⟩, rfl⟩
theorem findN (base g m : Nat) (rb : Option Nat) (L : List L3) (n : Int) (w : World) (h : TabAt w base g rb m L) (hn : ¬ openN L n) :
    Calls Try.prog 24 #[.pointer (some ⟨g, 0, none⟩), .int .i64 n] w fun e w' => e = .returned (.pointer none) ∧ w = w' := by
  by_cases h1 : 1 ≤ n ∧ n ≤ L.length
  · obtain ⟨k, hk⟩ := Int.eq_ofNat_of_zero_le (show 0 ≤ n - 1 by omega)
    obtain rfl : n = (k : Int) + 1 := by omega
    refine find_ended base g m rb L k w h (by omega) ?_
    have h2 := h.good.ent k (L.getD k z3) (by rw [List.getD_eq_getElem?_getD, List.getElem?_eq_getElem (by omega)]; rfl)
    have h3 : ¬ 0 < (L.getD k z3).2.2 := fun h0 => hn ⟨h1.1, h1.2, by unfold atN; rw [show ((k : Int) + 1).toNat - 1 = k by omega]; exact h0⟩
    omega
  · exact find_out base g m rb L n w h h1
theorem findO (base g m : Nat) (rb : Option Nat) (L : List L3) (n : Int) (w : World) (h : TabAt w base g rb m L) (hn : openN L n) :
    Calls Try.prog 24 #[.pointer (some ⟨g, 0, none⟩), .int .i64 n] w fun e w' => ∃ gb, (rb = some gb ∧ e = .returned (.pointer (some ⟨gb, (n.toNat - 1) * 3, none⟩))) ∧ w = w' := by
  obtain ⟨h1, h2, h3⟩ := hn
  obtain ⟨k, hk⟩ := Int.eq_ofNat_of_zero_le (show 0 ≤ n - 1 by omega)
  obtain rfl : n = (k : Int) + 1 := by omega
  have e : ((k : Int) + 1).toNat - 1 = k := by omega
  unfold atN at h3
  rw [e] at h3
  rw [e]
  exact find_open base g m rb L k w h (by omega) (by omega)
end Go.Proofs.Ytbmpglchifnelaa
