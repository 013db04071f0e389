-- WRITTEN BY A TURNED COPY of the print tool, with hand-written blocks: a text of this seat
import Derived.Test.YtlbmfbbdfmmfnaaPFramesx0
namespace Go.Proofs.Ytlbmfbbdfmmfnaa.PFrames
open Go.RowKit Go.Proofs.YtlbmfbbdfmmfnaaW.PrintWords Go.Proofs.YtlbmfbbdfmmfnaaW.PrintLast Go.Proofs.YtlbmfbbdfmmfnaaW.PrintMore
attribute [local go_sem] max2_int min2_int max_two min_two max_three min_three max_four min_four   -- for this text's walks alone
set_option linter.unusedVariables false
set_option linter.unusedSimpArgs false

/-! ### pennantref04_Stuff: function 9 -/
-- BY HAND: pennantref04.Stuff, from the text RefStuff
def pennantref04_Stuff.f (k : Nat) (l0 : List Int) : Option (List Int) := if l0.length < 400000 ∧ (∀ c ∈ l0, 0 ≤ c ∧ c ≤ 255) then some (stuffed l0) else none
theorem pennantref04_Stuff.mono : ∀ a0 k, LeO (pennantref04_Stuff.f k a0) (pennantref04_Stuff.f (k + 1) a0) := fun _ _ => LeO.refl _
theorem pennantref04_Stuff.calls (k : Nat) (A0 : Option Addr) (c0 : Nat) (l0 : List Int) (r : List Int) (w : World) (hr0 : Kd.C (Kd.int .u8) w A0 l0.length l0) (hc0 : l0.length ≤ c0) (h : pennantref04_Stuff.f k l0 = some r) :
    Calls Try.prog 9 #[.slice A0 l0.length c0] w fun e w' => ∃ v0_ : Value, e = .returned (v0_) ∧ Kd.R (Kd.int .u8) 5 w' w.heap.size (fun _ => True) v0_ r ∧ Below w.heap.size w w' := by
  unfold pennantref04_Stuff.f at h
  split at h
  case isFalse => cases h
  case isTrue hq =>
  obtain rfl := Option.some.inj h
  exact refStuff_calls A0 c0 l0 w hr0 (by omega) hq.2

-- NOT PRINTED: function 11 (frame_runs)

/-! ### frame_Stuff: function 8 -/
-- BY HAND: frame.Stuff, from the text Stuffed
def frame_Stuff.f (k : Nat) (l0 : List Int) : Option (List Int) := if l0.length < 400000 ∧ (∀ c ∈ l0, 0 ≤ c ∧ c ≤ 255) then some (stuffed l0) else none
theorem frame_Stuff.mono : ∀ a0 k, LeO (frame_Stuff.f k a0) (frame_Stuff.f (k + 1) a0) := fun _ _ => LeO.refl _
theorem frame_Stuff.calls (k : Nat) (A0 : Option Addr) (c0 : Nat) (l0 : List Int) (r : List Int) (w : World) (hr0 : Kd.C (Kd.int .u8) w A0 l0.length l0) (hc0 : l0.length ≤ c0) (h : frame_Stuff.f k l0 = some r) :
    Calls Try.prog 8 #[.slice A0 l0.length c0] w fun e w' => ∃ v0_ : Value, e = .returned (v0_) ∧ Kd.R (Kd.int .u8) 5 w' w.heap.size (fun _ => True) v0_ r ∧ Below w.heap.size w w' := by
  unfold frame_Stuff.f at h
  split at h
  case isFalse => cases h
  case isTrue hq =>
  obtain rfl := Option.some.inj h
  refine (callsIn_wide.1 (stuff_in A0 c0 l0 w hr0 (by omega) hq.2)).mono ?_
  rintro e w' ⟨v, rfl, ho, hb⟩
  exact ⟨v, rfl, Kd.R_of_own (enc := Value.int .u8) (h1 := fun _ => rfl) (by simpa [nums, encs] using ho) (fun _ _ => trivial), hb⟩

/-! ### pennantlaw04_awake: function 5 -/
def pennantlaw04_awake.f (k : Nat)  : Option (Bool) := (frame_Stuff.f k (([7, 0, 8] : List Int))).bind fun t202 => (some ((strOfNums t202).toList == ([2, 7, 2, 8] : List UInt8)))
theorem pennantlaw04_awake.mono : ∀ k, LeO (pennantlaw04_awake.f k ) (pennantlaw04_awake.f (k + 1) ) := by
  intro  k
  unfold pennantlaw04_awake.f
  repeat' first
      | (with_reducible exact frame_Stuff.mono _ _)
      | (with_reducible exact LeO.refl _)
      | (with_reducible exact LeO.none _)
      | (with_reducible refine LeO.ite ?_ ?_)
      | (with_reducible refine LeO.bind ?_ (fun _ => ?_))
      | exact frame_Stuff.mono _ _
      | exact LeO.none _
      | refine LeO.ite ?_ ?_
      | refine LeO.bind ?_ (fun _ => ?_)
set_option maxHeartbeats 8000000 in
set_option maxRecDepth 100000 in
theorem pennantlaw04_awake.calls (k : Nat)  (r : Bool) (w : World) (h : pennantlaw04_awake.f k  = some r) :
    Calls Try.prog 5 #[] w fun e w' => e = .returned (.bool r) ∧ Below w.heap.size w w' := by
  have HB := Aside0.mk (Below.refl w.heap.size w)
  have H : ((frame_Stuff.f k (([7, 0, 8] : List Int))).bind fun t202 => (some ((strOfNums t202).toList == ([2, 7, 2, 8] : List UInt8)))) = some r := h
  clear h
  obtain ⟨y199, hy199⟩ : ∃ y_ : List Int, y_ = (([7, 0, 8] : List Int)) := ⟨_, rfl⟩
  replace H : ((frame_Stuff.f k y199).bind fun t202 => (some ((strOfNums t202).toList == ([2, 7, 2, 8] : List UInt8)))) = some r := by first | (rw [hy199]; with_reducible exact H) | (have H2_ := (Option.bind_some _ _).symm.trans H; rw [hy199]; with_reducible exact H2_) | (have H2_ := (Option.bind_some _ _).symm.trans H; with_reducible exact H2_) | with_reducible exact H | (rw [hy199]; exact H) | exact H
  have Ny199 := Aside0.mk hy199
  clear hy199
  replace H := Option.bind_eq_some_iff.mp H
  obtain ⟨t202, A10, H⟩ := H
  replace H : (some ((strOfNums t202).toList == ([2, 7, 2, 8] : List UInt8))) = some r := H
  have A1 := Aside0.mk A10
  clear A10
  obtain rfl := Option.some.inj H
  go_enter Try.func5, Try.ntmps5
  go_wp2_with (first | ((with_reducible refine gate_dst (N := 1) rfl ?_); refine Kd.R_lit (Kd.int .u8) _ 5 ?hg (N := 1) ?hd (xs := ([7, 0, 8] : List Int)) (inner := [.int .u8 7, .int .u8 0, .int .u8 8]) (ok := fun _ => True) (okp := fun _ => True) ?hr ?hp (fun _ hk => hk) trivial (Below.refl _ _) (Nat.le_refl _) (by simp) ?_; (case hd => rfl); (case hg => rfl); (case hr => first | (go_simp; done) | (go_simp; rfl)); (case hp => exact (Reps.one (show Kd.M (Kd.int .u8) _ _ _ 7 [.int .u8 7] from rfl) (Reps.one (show Kd.M (Kd.int .u8) _ _ _ 0 [.int .u8 0] from rfl) (Reps.one (show Kd.M (Kd.int .u8) _ _ _ 8 [.int .u8 8] from rfl) (Reps.none _ _))))); intro v200 w2 ho3 hb hg_ hnew_; clear hg_ hnew_; (first | rw [← Ny199.out] at ho3 | (simp only [Int.reduceToNat] at ho3; rw [← Ny199.out] at ho3)); have n0_ := Aside0.mk (Kd.R_lower ho3 (below_size (by repeat (first | (with_reducible first | exact HB.out | apply below_alloc | apply pw_below_drewN | apply below_drew1) | exact HB.out)))); have n1_ := Aside0.mk (below_step (by repeat (first | (with_reducible first | exact HB.out | apply below_alloc | apply pw_below_drewN | apply below_drew1) | exact HB.out)) hb); clear HB; have HO201 := n0_; have HB := n1_; clear n0_ n1_; clear hb ho3; obtain ⟨Ao4, co4, eo4⟩ := Kd.R_slice HO201.out; subst eo4) | ((with_reducible refine gate_callee (f := 8) rfl ?_); refine goesL_ (some 2) rfl rfl Try.func8 (by kernel_rfl) rfl #[.slice Ao4 y199.length co4] rfl (by (try simp only [List.map_toArray, List.map_cons, List.map_nil]); first | done | rfl | (simp only [List.length_drop, List.length_take]; rfl)) ?_; (with_reducible refine (frame_Stuff.calls k _ _ y199 t202 _ ?side1 ?side2 A1.out).mono ?_); (case side1 => repeat (first | exact (Kd.R_reads' HO201.out).2.2 | (with_reducible refine Kd.C_alloc ?_ _) | (with_reducible refine Kd.C_drewN ?_ _) | (with_reducible refine Kd.C_drew ?_))); (case side2 => exact (Kd.R_reads' HO201.out).2.1); rintro e w5 ⟨v203, rfl, ho0, hb⟩; refine ⟨_, rfl, ?_⟩; have n0_ := Aside0.mk (Kd.R_elder' (by (with_reducible repeat (first | apply Kd.R_alloc | apply Kd.R_drewN | apply Kd.R_drew)); exact HO201.out) (Kd.R_base ho0) hb); have n1_ := Aside0.mk (Kd.R_lower (Kd.R_new' ho0 (Kd.R_lt (by (with_reducible repeat (first | apply Kd.R_alloc | apply Kd.R_drewN | apply Kd.R_drew)); exact HO201.out))) (below_size (by repeat (first | (with_reducible first | exact HB.out | apply below_alloc | apply pw_below_drewN | apply below_drew1) | exact HB.out)))); have n2_ := Aside0.mk (below_step (by repeat (first | (with_reducible first | exact HB.out | apply below_alloc | apply pw_below_drewN | apply below_drew1) | exact HB.out)) hb); clear HO201; clear HB; have HO201 := n0_; have HO204 := n1_; have HB := n2_; clear n0_ n1_ n2_; (try clear hb); (try clear hb2); (try clear hk); (try clear hi); (try clear ho0); have hcv6 := own_string (P := Try.prog) Try.underlying22 Try.underlying5 Try.underlying9 (Kd.own_of_R HO204.out)))
  go_ret
  exact ⟨by first | rfl | (simp [errW_none, errW_some] <;> rfl) | (simp [*, errW_none, errW_some] <;> rfl), by repeat (first | (with_reducible first | exact HB.out | apply below_alloc | apply pw_below_drewN | apply below_drew1) | exact HB.out)⟩

-- NOT PRINTED: function 12 (bytealg_IndexByte)

-- NOT PRINTED: function 10 (bytes_IndexByte)

/-! ### frame_Plain: function 6 -/
-- BY HAND: frame_Plain, from the texts Plain, RefPlain
def frame_Plain.f (k : Nat) (l0 : List Int) : Option (List Int × Int) := if l0.length < 400000 ∧ (∀ c ∈ l0, 0 ≤ c ∧ c ≤ 255) then some (plainF l0) else none
theorem frame_Plain.mono : ∀ a0 k, LeO (frame_Plain.f k a0) (frame_Plain.f (k + 1) a0) := fun _ _ => LeO.refl _
theorem frame_Plain.calls (k : Nat) (P0_ : Nat → Prop) (A0 : Option Addr) (c0 : Nat) (l0 : List Int) (r1 : List Int) (r2 : Int) (w : World) (hs0 : Kd.V (Kd.int .u8) 5 w w.heap.size (fun k_ => P0_ k_) (.slice A0 l0.length c0) l0) (h : frame_Plain.f k l0 = some (r1, r2)) :
    Calls Try.prog 6 #[.slice A0 l0.length c0] w fun e w' => ∃ v0_ : Value, e = .returned (.tuple #[v0_, .int .i64 r2]) ∧ Kd.R (Kd.int .u8) 5 w' w.heap.size (fun k_ => (w.heap.size ≤ k_)) v0_ r1 ∧ Below w.heap.size w w' := by
  unfold frame_Plain.f at h
  split at h
  case isFalse => cases h
  case isTrue hq =>
  have hr := Kd.V_reads' hs0
  have e := Option.some.inj h
  refine (framePlain_calls A0 c0 l0 w hr.2.2 hr.2.1 (by omega) hq.2).mono ?_
  rintro e1 w' ⟨v, he, hR, hb⟩
  rw [e] at he hR
  exact ⟨v, he, Kd.R_mono (Kd.R_bound hR) (fun k hk => hk.2.1), hb⟩

/-! ### pennantref04_Plain: function 7 -/
-- BY HAND: pennantref04_Plain, from the texts Plain, RefPlain
def pennantref04_Plain.f (k : Nat) (l0 : List Int) : Option (List Int × Int) := if l0.length < 400000 ∧ (∀ c ∈ l0, 0 ≤ c ∧ c ≤ 255) then some (plainR l0) else none
theorem pennantref04_Plain.mono : ∀ a0 k, LeO (pennantref04_Plain.f k a0) (pennantref04_Plain.f (k + 1) a0) := fun _ _ => LeO.refl _
theorem pennantref04_Plain.calls (k : Nat) (P0_ : Nat → Prop) (A0 : Option Addr) (c0 : Nat) (l0 : List Int) (r1 : List Int) (r2 : Int) (w : World) (hs0 : Kd.V (Kd.int .u8) 5 w w.heap.size (fun k_ => P0_ k_) (.slice A0 l0.length c0) l0) (h : pennantref04_Plain.f k l0 = some (r1, r2)) :
    Calls Try.prog 7 #[.slice A0 l0.length c0] w fun e w' => ∃ v0_ : Value, e = .returned (.tuple #[v0_, .int .i64 r2]) ∧ Kd.R (Kd.int .u8) 5 w' w.heap.size (fun k_ => (w.heap.size ≤ k_)) v0_ r1 ∧ Below w.heap.size w w' := by
  unfold pennantref04_Plain.f at h
  split at h
  case isFalse => cases h
  case isTrue hq =>
  have hr := Kd.V_reads' hs0
  have e := Option.some.inj h
  refine (refPlain_calls A0 c0 l0 w hr.2.2 hr.2.1 (by omega) hq.2).mono ?_
  rintro e1 w' ⟨v, he, hR, hb⟩
  rw [e] at he hR
  exact ⟨v, he, Kd.R_mono (Kd.R_bound hR) (fun k hk => hk.2.1), hb⟩

/-! ### pennantlaw04_FrameStuffs: function 3 -/
-- BY HAND: the last test draws its order, holds two calls and four conversions; told on the way that answers true alone
theorem fs_undrew {w w1 : World} (h : Below w.drew.heap.size w.drew w1) : Below w.heap.size w w1 := ⟨h.os, h.tape, h.output, h.size, h.block⟩
def pennantlaw04_FrameStuffs.f (k : Nat) (l0 l1 : List Int) : Option Bool := (pennantlaw04_awake.f k).bind fun up => if up = true then (if l0.length > 20000 ∨ l1.length > 20000 then some true else if (∀ c ∈ l0, 0 ≤ c ∧ c ≤ 255) ∧ (∀ c ∈ l1, 0 ≤ c ∧ c ≤ 255) ∧ plainR l1 = plainF l1 then some true else none) else none
set_option maxHeartbeats 3200000 in
set_option maxRecDepth 20000 in
theorem pennantlaw04_FrameStuffs.calls (k : Nat) (A0 : Option Addr) (c0 : Nat) (l0 : List Int) (A1 : Option Addr) (c1 : Nat) (l1 : List Int) (r : Bool) (w : World) (hr0 : Kd.C (Kd.int .u8) w A0 l0.length l0) (hc0 : l0.length ≤ c0) (hr1 : Kd.C (Kd.int .u8) w A1 l1.length l1) (hc1 : l1.length ≤ c1) (h : pennantlaw04_FrameStuffs.f k l0 l1 = some r) :
    Calls Try.prog 3 #[.slice A0 l0.length c0, .slice A1 l1.length c1] w fun e w' => e = .returned (.bool r) ∧ Below w.heap.size w w' := by
  have hl0 : l0.length ≤ 9223372036854775807 := hr0.2.1
  have hl1 : l1.length ≤ 9223372036854775807 := hr1.2.1
  obtain ⟨up, hup, h⟩ := Option.bind_eq_some_iff.1 h
  split at h
  case isFalse => cases h
  case isTrue hu =>
  subst hu
  have HUP := Aside0.mk (pennantlaw04_awake.calls k true w hup)
  split at h
  case isTrue c =>
    obtain rfl := Option.some.inj h
    clear hr0 hr1 hup h
    by_cases cc : l0.length > 20000
    · have hi : (20000 : Int) < (l0.length : Int) := by omega
      have hd : decide ((20000 : Int) < (l0.length : Int)) = true := decide_eq_true hi
      clear c
      go_enter Try.func3, Try.ntmps3
      go_wp2_with (go_at_call 5; refine HUP.out.mono ?_; rintro e w1 ⟨rfl, hb⟩; have HB := Aside0.mk hb; clear hb)
      go_ret
      exact ⟨rfl, HB.out⟩
    · have c4 : l1.length > 20000 := by rcases c with h | h; exact absurd h cc; exact h
      have hi : ¬ (20000 : Int) < (l0.length : Int) := by omega
      have hd : decide ((20000 : Int) < (l0.length : Int)) = false := decide_eq_false hi
      have hi2 : (20000 : Int) < (l1.length : Int) := by omega
      have hd2 : decide ((20000 : Int) < (l1.length : Int)) = true := decide_eq_true hi2
      clear c cc c4
      go_enter Try.func3, Try.ntmps3
      go_wp2_with (go_at_call 5; refine HUP.out.mono ?_; rintro e w1 ⟨rfl, hb⟩; have HB := Aside0.mk hb; clear hb)
      go_ret
      exact ⟨rfl, HB.out⟩
  case isFalse c =>
  split at h
  case isFalse => cases h
  case isTrue hq =>
  obtain ⟨hb0, hb1, hpe⟩ := hq
  obtain ⟨x, is, hx⟩ : ∃ x is, plainF l1 = (x, is) := ⟨_, _, rfl⟩
  obtain ⟨s, hs⟩ : ∃ s, stuffed l0 = s := ⟨_, rfl⟩
  obtain rfl := Option.some.inj h
  clear h
  have hi : ¬ (20000 : Int) < (l0.length : Int) := by omega
  have hi2 : ¬ (20000 : Int) < (l1.length : Int) := by omega
  have hd : decide ((20000 : Int) < (l0.length : Int)) = false := decide_eq_false hi
  have hd2 : decide ((20000 : Int) < (l1.length : Int)) = false := decide_eq_false hi2
  have H1 := Aside0.mk (fun (W : World) (hb : Below w.heap.size w W) => framePlain_calls A1 c1 l1 W (Kd.C_below hr1 hb) hc1 (by omega) hb1)
  have H2 := Aside0.mk (fun (W : World) (hb : Below w.heap.size w W) => refPlain_calls A1 c1 l1 W (Kd.C_below hr1 hb) hc1 (by omega) hb1)
  have H3 := Aside0.mk (fun (W : World) (hb : Below w.heap.size w W) => frame_Stuff.calls k A0 c0 l0 s W (Kd.C_below hr0 hb) hc0 (by unfold frame_Stuff.f; rw [if_pos ⟨by omega, hb0⟩, hs]))
  have H4 := Aside0.mk (fun (W : World) (hb : Below w.heap.size w W) => pennantref04_Stuff.calls k A0 c0 l0 s W (Kd.C_below hr0 hb) hc0 (by unfold pennantref04_Stuff.f; rw [if_pos ⟨by omega, hb0⟩, hs]))
  rw [hpe, hx] at H2
  rw [hx] at H1
  have HCV := Aside0.mk (fun (W : World) (A : Option Addr) (c : Nat) (q : List Int) (h : Kd.C (Kd.int .u8) W A q.length q) => Kd.C_string (P := Try.prog) (src := 22) (dst := 9) (e := 5) (c := c) Try.underlying22 Try.underlying5 Try.underlying9 h)
  have hs0 : ((strOfNums s).toList == (strOfNums s).toList) = true := beq_self_eq_true _
  have hx0 : ((strOfNums x).toList == (strOfNums x).toList) = true := beq_self_eq_true _
  have hi0 : (is == is) = true := beq_self_eq_true _
  clear hr0 hr1 hup hpe hx hs hb0 hb1 c
  go_enter Try.func3, Try.ntmps3
  go_wp2_with (first
    | (go_at_call 5; refine HUP.out.mono ?_; rintro e w1 ⟨rfl, hb⟩; have HB := Aside0.mk hb; clear hb)
    | (go_at_call 6; refine (H1.out _ HB.out).mono ?_; rintro e w2 ⟨v0, rfl, hR, hb⟩; have HB2 := Aside0.mk (below_step HB.out hb); obtain ⟨Av1, cv1, ev1⟩ := Kd.R_slice hR; subst ev1; have HX := Aside0.mk (Kd.R_reads' hR).2.2; clear HB hb hR; have HB := HB2; clear HB2)
    | (go_at_call 7; refine (H2.out _ HB.out).mono ?_; rintro e w3 ⟨v1, rfl, hR, hb⟩; have HX2 := Aside0.mk (Kd.C_below HX.out hb); have HB2 := Aside0.mk (below_step HB.out hb); obtain ⟨Av2, cv2, ev2⟩ := Kd.R_slice hR; subst ev2; have HY := Aside0.mk (Kd.R_reads' hR).2.2; clear HB hb hR HX; have HB := HB2; clear HB2))
  have c1 := HCV.out w3.drew Av1 cv1 x HX2.out
  have c2 := HCV.out w3.drew Av2 cv2 x HY.out
  go_region_with (first
    | (go_at_call 8; refine (H3.out _ (pw_below_drewN HB.out 1)).mono ?_; rintro e w4 ⟨v3, rfl, hR, hb0⟩; have hb := fs_undrew hb0; have HX3 := Aside0.mk (Kd.C_below HX2.out hb); have HY3 := Aside0.mk (Kd.C_below HY.out hb); have HB2 := Aside0.mk (below_step HB.out hb); obtain ⟨Av3, cv3, ev3⟩ := Kd.R_slice hR; subst ev3; have HS := Aside0.mk (Kd.R_reads' hR).2.2; clear HB hb0 hb hR HX2 HY; have HB := HB2; clear HB2; have c3 := HCV.out w4 Av1 cv1 x HX3.out; have c4 := HCV.out w4 Av2 cv2 x HY3.out; have c5 := HCV.out w4 Av3 cv3 s HS.out)
    | (go_at_call 9; refine (H4.out _ HB.out).mono ?_; rintro e w5 ⟨v4, rfl, hR, hb⟩; have HX4 := Aside0.mk (Kd.C_below HX3.out hb); have HY4 := Aside0.mk (Kd.C_below HY3.out hb); have HS4 := Aside0.mk (Kd.C_below HS.out hb); have HB2 := Aside0.mk (below_step HB.out hb); obtain ⟨Av4, cv4, ev4⟩ := Kd.R_slice hR; subst ev4; have HZ := Aside0.mk (Kd.R_reads' hR).2.2; clear HB hb hR HX3 HY3 HS; have HB := HB2; clear HB2; have c6 := HCV.out w5 Av1 cv1 x HX4.out; have c7 := HCV.out w5 Av2 cv2 x HY4.out; have c8 := HCV.out w5 Av3 cv3 s HS4.out; have c9 := HCV.out w5 Av4 cv4 s HZ.out))
  all_goals go_wp2
  all_goals go_ret
  all_goals refine ⟨?_, HB.out⟩
  all_goals (simp [Act.put]; done)
def pennantlaw04_FrameStuffs.Pure : Prop := ∀ (l0 : List Int) (l1 : List Int), l0.length ≤ maxLen → l0.length * 1 ≤ 140737488351232 → (∀ x ∈ l0, (Lit.int .u8 x).wf = true) → l1.length ≤ maxLen → l1.length * 1 ≤ 140737488351232 → (∀ x ∈ l1, (Lit.int .u8 x).wf = true) → ∃ k, pennantlaw04_FrameStuffs.f k l0 l1 = some true
theorem pennantlaw04_FrameStuffs.walk (P : pennantlaw04_FrameStuffs.Pure) (a0 : Option Addr) (len0 cap0 : Nat) (z0 : List Int) (a1 : Option Addr) (len1 cap1 : Nat) (z1 : List Int) (w : World) (w0 : (a0 = none ∧ len0 = 0 ∧ cap0 = 0 ∧ z0 = []) ∨ ∃ x, a0 = some x ∧ len0 ≤ cap0 ∧ cap0 ≤ maxLen ∧ z0.length = cap0 ∧ (∀ i, i < z0.length → w.cell? (x.add i) = some (.int .u8 (z0.getD i 0))) ∧ ∀ n ∈ z0, (Lit.int .u8 n).wf = true) (y0 : len0 * 1 ≤ 140737488351232) (w1 : (a1 = none ∧ len1 = 0 ∧ cap1 = 0 ∧ z1 = []) ∨ ∃ x, a1 = some x ∧ len1 ≤ cap1 ∧ cap1 ≤ maxLen ∧ z1.length = cap1 ∧ (∀ i, i < z1.length → w.cell? (x.add i) = some (.int .u8 (z1.getD i 0))) ∧ ∀ n ∈ z1, (Lit.int .u8 n).wf = true) (y1 : len1 * 1 ≤ 140737488351232) :
    Calls Try.prog 3 #[.slice a0 len0 cap0, .slice a1 len1 cap1] w fun e w' => e = .returned (.bool true) ∧ Below w.heap.size w w' := by
  obtain ⟨l0, rfl, hr0, hm0, hw0, hc0⟩ := ReadsInt.ofRowC w0
  obtain ⟨l1, rfl, hr1, hm1, hw1, hc1⟩ := ReadsInt.ofRowC w1
  obtain ⟨k, h⟩ := P l0 l1 hm0 y0 hw0 hm1 y1 hw1
  exact pennantlaw04_FrameStuffs.calls k _ _ l0 _ _ l1 true w (Kd.C_of_reads (d := (0 : Int)) (h1 := fun _ => rfl) hr0) hc0 (Kd.C_of_reads (d := (0 : Int)) (h1 := fun _ => rfl) hr1) hc1 h

/-! ### pennantlaw04_FrameBack: function 4 -/
mutual
def pennantlaw04_FrameBack.j0 : Nat → List Int → Bool → Bool → Option (Bool)
  | 0, _, _, _ => none
  | k + 1, x0, x3, x15 => if x15 = true then (some x3) else ((frame_Stuff.f k x0).bind fun t269 => (pennantlaw04_FrameBack.l0 k x0 t269 0))
def pennantlaw04_FrameBack.l0 : Nat → List Int → List Int → Int → Option (Bool)
  | 0, _, _, _ => none
  | k + 1, x0, x4, x5 => if x5 < (x4.length : Int) then (if 0 ≤ x5 then (if (rd x4 x5) = 0 then (some false) else (pennantlaw04_FrameBack.l0 k x0 x4 (wrap64 (x5 + 1)))) else (none)) else ((frame_Plain.f k x4).bind fun bt273 => (if bt273.2 = 0 then (if (strOfNums bt273.1).toList = (strOfNums x0).toList then (if (x4.length : Int) > (x0.length : Int) then (some (decide ((x4.length : Int) ≤ (wrap64 ((wrap64 ((x0.length : Int) + 1)) + (wrap64 ((x0.length : Int) / 254))))))) else (some false)) else (some false)) else (some false)))
end
def pennantlaw04_FrameBack.f (k : Nat) (l0 : List Int) : Option (Bool) := (pennantlaw04_awake.f k).bind fun t268 => (if t268 = true then (pennantlaw04_FrameBack.j0 k l0 t268 (decide ((l0.length : Int) > 20000))) else (pennantlaw04_FrameBack.j0 k l0 t268 true))
theorem pennantlaw04_FrameBack.mono_l : ∀ k, (∀ y0 y1 y2, LeO (pennantlaw04_FrameBack.j0 k y0 y1 y2) (pennantlaw04_FrameBack.j0 (k + 1) y0 y1 y2)) ∧ (∀ y0 y1 y2, LeO (pennantlaw04_FrameBack.l0 k y0 y1 y2) (pennantlaw04_FrameBack.l0 (k + 1) y0 y1 y2))
  | 0 => ⟨fun _ _ _ r h => by simp [pennantlaw04_FrameBack.j0] at h, fun _ _ _ r h => by simp [pennantlaw04_FrameBack.l0] at h⟩
  | k + 1 => by
    obtain ⟨ih0, ih1⟩ := pennantlaw04_FrameBack.mono_l k
    refine ⟨?_, ?_⟩
    · intro y0 y1 y2
      unfold pennantlaw04_FrameBack.j0
      repeat' first
      | (with_reducible exact ih0 _ _ _)
      | (with_reducible exact ih1 _ _ _)
      | (with_reducible exact frame_Plain.mono _ _)
      | (with_reducible exact frame_Stuff.mono _ _)
      | (with_reducible exact pennantlaw04_awake.mono _)
      | (with_reducible exact LeO.refl _)
      | (with_reducible exact LeO.none _)
      | (with_reducible refine LeO.ite ?_ ?_)
      | (with_reducible refine LeO.bind ?_ (fun _ => ?_))
      | exact ih0 _ _ _
      | exact ih1 _ _ _
      | exact frame_Plain.mono _ _
      | exact frame_Stuff.mono _ _
      | exact pennantlaw04_awake.mono _
      | exact LeO.none _
      | refine LeO.ite ?_ ?_
      | refine LeO.bind ?_ (fun _ => ?_)
    · intro y0 y1 y2
      unfold pennantlaw04_FrameBack.l0
      repeat' first
      | (with_reducible exact ih0 _ _ _)
      | (with_reducible exact ih1 _ _ _)
      | (with_reducible exact frame_Plain.mono _ _)
      | (with_reducible exact frame_Stuff.mono _ _)
      | (with_reducible exact pennantlaw04_awake.mono _)
      | (with_reducible exact LeO.refl _)
      | (with_reducible exact LeO.none _)
      | (with_reducible refine LeO.ite ?_ ?_)
      | (with_reducible refine LeO.bind ?_ (fun _ => ?_))
      | exact ih0 _ _ _
      | exact ih1 _ _ _
      | exact frame_Plain.mono _ _
      | exact frame_Stuff.mono _ _
      | exact pennantlaw04_awake.mono _
      | exact LeO.none _
      | refine LeO.ite ?_ ?_
      | refine LeO.bind ?_ (fun _ => ?_)
theorem pennantlaw04_FrameBack.mono : ∀ a0 k, LeO (pennantlaw04_FrameBack.f k a0) (pennantlaw04_FrameBack.f (k + 1) a0) := by
  intro a0 k
  obtain ⟨ih0, ih1⟩ := pennantlaw04_FrameBack.mono_l k
  unfold pennantlaw04_FrameBack.f
  repeat' first
      | (with_reducible exact ih0 _ _ _)
      | (with_reducible exact ih1 _ _ _)
      | (with_reducible exact frame_Plain.mono _ _)
      | (with_reducible exact frame_Stuff.mono _ _)
      | (with_reducible exact pennantlaw04_awake.mono _)
      | (with_reducible exact LeO.refl _)
      | (with_reducible exact LeO.none _)
      | (with_reducible refine LeO.ite ?_ ?_)
      | (with_reducible refine LeO.bind ?_ (fun _ => ?_))
      | exact ih0 _ _ _
      | exact ih1 _ _ _
      | exact frame_Plain.mono _ _
      | exact frame_Stuff.mono _ _
      | exact pennantlaw04_awake.mono _
      | exact LeO.none _
      | refine LeO.ite ?_ ?_
      | refine LeO.bind ?_ (fun _ => ?_)
set_option maxHeartbeats 8000000 in
set_option maxRecDepth 100000 in
theorem pennantlaw04_FrameBack.calls (k : Nat) (A0 : Option Addr) (c0 : Nat) (l0 : List Int) (r : Bool) (w : World) (hr0 : Kd.C (Kd.int .u8) w A0 l0.length l0) (hc0 : l0.length ≤ c0) (h : pennantlaw04_FrameBack.f k l0 = some r) :
    Calls Try.prog 4 #[.slice A0 l0.length c0] w fun e w' => e = .returned (.bool r) ∧ Below w.heap.size w w' := by
  have HR0 := Aside0.mk hr0
  have HC0 := Aside0.mk hc0
  clear hr0 hc0
  have HB := Aside0.mk (Below.refl w.heap.size w)
  have H : ((pennantlaw04_awake.f k).bind fun t268 => (if t268 = true then (pennantlaw04_FrameBack.j0 k l0 t268 (decide ((l0.length : Int) > 20000))) else (pennantlaw04_FrameBack.j0 k l0 t268 true))) = some r := h
  clear h
  replace H := Option.bind_eq_some_iff.mp H
  obtain ⟨t268, A20, H⟩ := H
  replace H : (if t268 = true then (pennantlaw04_FrameBack.j0 k l0 t268 (decide ((l0.length : Int) > 20000))) else (pennantlaw04_FrameBack.j0 k l0 t268 true)) = some r := H
  have A2 := Aside0.mk A20
  clear A20
  have HC3 := Aside0.mk H
  clear H
  go_enter Try.func4, Try.ntmps4
  go_upto_region 2 with (first | ((with_reducible refine gate_callee (f := 5) rfl ?_); refine goesL_ (some 8) rfl rfl Try.func5 (by kernel_rfl) rfl #[] rfl (by (try simp only [List.map_toArray, List.map_cons, List.map_nil]); first | done | rfl | (simp only [List.length_drop, List.length_take]; rfl)) ?_; (with_reducible refine (pennantlaw04_awake.calls k  t268 _ A2.out).mono ?_); rintro e w4 ⟨rfl, hb⟩; refine ⟨_, rfl, ?_⟩; have n0_ := Aside0.mk (below_step (by repeat (first | (with_reducible first | exact HB.out | apply below_alloc | apply pw_below_drewN | apply below_drew1) | exact HB.out)) hb); clear HB; have HB := n0_; clear n0_; (try clear hb); (try clear hb2); (try clear hk); (try clear hi)))
  (try simp only [Act.put, List.setIfInBounds_toArray, List.set_cons_zero, List.set_cons_succ])
  go_cut [15] (fun v15 wc => ∃ (kq : Nat) (x15_2 : Bool), v15 = .bool x15_2 ∧ Aside0 (pennantlaw04_FrameBack.j0 kq l0 t268 x15_2 = some r) ∧ Aside0 (kq ≤ k) ∧ Aside0 (Below w.heap.size w wc))
  case first =>
    have H := HC3.out
    clear HC3
    by_cases c5 : t268 = true
    · subst c5
      have H1 : (pennantlaw04_FrameBack.j0 k l0 true (decide ((l0.length : Int) > 20000))) = some r := by rw [if_pos rfl] at H; exact H
      clear H
      have H := H1
      clear H1
      have H' := Aside0.mk H
      clear H
      go_wp2
      go_meet
      case rel => exact ⟨_, (decide ((l0.length : Int) > 20000)), (by first | rfl | (simp; done) | (simp [*]; done)), H', ⟨by first | omega | exact Nat.le_refl _⟩, ⟨by repeat (first | (with_reducible first | exact HB.out | apply below_alloc | apply pw_below_drewN | apply below_drew1) | exact HB.out)⟩⟩
    · replace c5 := Bool.eq_false_iff.mpr c5
      subst c5
      have H1 : (pennantlaw04_FrameBack.j0 k l0 false true) = some r := by rw [if_neg (show ¬ (false = true) by decide)] at H; exact H
      clear H
      have H := H1
      clear H1
      have H' := Aside0.mk H
      clear H
      go_wp2
      go_meet
      case rel => exact ⟨_, (true), (by first | rfl | (simp; done) | (simp [*]; done)), H', ⟨by first | omega | exact Nat.le_refl _⟩, ⟨by repeat (first | (with_reducible first | exact HB.out | apply below_alloc | apply pw_below_drewN | apply below_drew1) | exact HB.out)⟩⟩
  case rest =>
    clear HC3
    try clear p2
    try clear c4
    try clear c5
    obtain ⟨kq, x15_2, rfl, HA, HJ2, HB⟩ := hcut
    cases kq with
    | zero => exact absurd HA.out (by simp [pennantlaw04_FrameBack.j0])
    | succ kj2 =>
      have H := HA.out
      clear HA
      simp only [pennantlaw04_FrameBack.j0] at H
      by_cases c6 : x15_2 = true
      · subst c6
        have H1 : (some t268) = some r := by rw [if_pos rfl] at H; exact H
        clear H
        have H := H1
        clear H1
        obtain rfl := Option.some.inj H
        go_wp2
        go_ret
        exact ⟨by first | rfl | (simp [errW_none, errW_some] <;> rfl) | (simp [*, errW_none, errW_some] <;> rfl), by repeat (first | (with_reducible first | exact HB.out | apply below_alloc | apply pw_below_drewN | apply below_drew1) | exact HB.out)⟩
      · replace c6 := Bool.eq_false_iff.mpr c6
        subst c6
        have H1 : ((frame_Stuff.f kj2 l0).bind fun t269 => (pennantlaw04_FrameBack.l0 kj2 l0 t269 0)) = some r := by rw [if_neg (show ¬ (false = true) by decide)] at H; exact H
        clear H
        have H := H1
        clear H1
        replace H := Option.bind_eq_some_iff.mp H
        obtain ⟨t269, A70, H⟩ := H
        replace H : (pennantlaw04_FrameBack.l0 kj2 l0 t269 0) = some r := H
        have A7 := Aside0.mk A70
        clear A70
        have H' := Aside0.mk H
        clear H
        go_wp2_with (first | ((with_reducible refine gate_callee (f := 8) rfl ?_); refine goesL_ (some 18) rfl rfl Try.func8 (by kernel_rfl) rfl #[.slice A0 l0.length c0] rfl (by (try simp only [List.map_toArray, List.map_cons, List.map_nil]); first | done | rfl | (simp only [List.length_drop, List.length_take]; rfl)) ?_; (with_reducible refine (frame_Stuff.calls kj2 _ _ l0 t269 _ ?side1 ?side2 A7.out).mono ?_); (case side1 => repeat (first | exact (Kd.C_below HR0.out HB.out) | (with_reducible refine Kd.C_alloc ?_ _) | (with_reducible refine Kd.C_drewN ?_ _) | (with_reducible refine Kd.C_drew ?_))); (case side2 => exact HC0.out); rintro e w8 ⟨v270, rfl, ho0, hb⟩; refine ⟨_, rfl, ?_⟩; have n0_ := Aside0.mk (Kd.R_lower ho0 (below_size (by repeat (first | (with_reducible first | exact HB.out | apply below_alloc | apply pw_below_drewN | apply below_drew1) | exact HB.out)))); have n1_ := Aside0.mk (below_step (by repeat (first | (with_reducible first | exact HB.out | apply below_alloc | apply pw_below_drewN | apply below_drew1) | exact HB.out)) hb); clear HB; have HO271 := n0_; have HB := n1_; clear n0_ n1_; (try clear hb); (try clear hb2); (try clear hk); (try clear hi); (try clear ho0)))
        go_loopg [5] kj2 (fun kq v5 w' => ∃ (x5_2 : Int), v5 = .int .i64 x5_2 ∧ Aside0 (pennantlaw04_FrameBack.l0 kq l0 t269 x5_2 = some r) ∧ Aside0 (kq ≤ kj2) ∧ Aside0 (Kd.R (Kd.int .u8) 5 w' w.heap.size (fun _ => True) v270 t269) ∧ Aside0 (Below w.heap.size w w'))
        case atStart => exact ⟨(0), (by first | rfl | (simp; done) | (simp [*]; done)), H', ⟨Nat.le_refl _⟩, ⟨by (with_reducible repeat (first | apply Kd.R_alloc | apply Kd.R_drewN | apply Kd.R_drew)); exact HO271.out⟩, ⟨by repeat (first | (with_reducible first | exact HB.out | apply below_alloc | apply pw_below_drewN | apply below_drew1) | exact HB.out)⟩⟩
        case round =>
          clear H'
          try clear p2
          try clear c4
          try clear c5
          try clear c6
          try clear c8
          try clear p2
          obtain ⟨x5_2, rfl, HA, HK2, HO_4, HB⟩ := hrel
          cases gk with
          | zero => exact absurd HA.out (by simp [pennantlaw04_FrameBack.l0])
          | succ k2 =>
            have H := HA.out
            clear HA
            simp only [pennantlaw04_FrameBack.l0] at H
            by_cases c9 : x5_2 < (t269.length : Int)
            · rw [if_pos c9] at H
              have c9b0 : decide (x5_2 < (t269.length : Int)) = true := decide_eq_true c9
              clear c9
              by_cases c10 : 0 ≤ x5_2
              · rw [if_pos c10] at H
                have c10b0 : decide (0 ≤ x5_2) = true := decide_eq_true c10
                clear c10
                by_cases c11 : (rd t269 x5_2) = 0
                · rw [if_pos c11] at H
                  have c11b0 : ((rd t269 x5_2) == 0) = true := beq_iff_eq.mpr c11
                  have c11b1 : ((rd t269 x5_2) != 0) = false := bne_eq_false_iff_eq.mpr c11
                  clear c11
                  obtain rfl := Option.some.inj H
                  obtain ⟨Ao12, co12, eo12⟩ := Kd.R_slice HO_4.out
                  subst eo12
                  have p272 : 0 ≤ (x5_2 : Int) := of_decide_eq_true (by first | (with_reducible assumption) | assumption)
                  have q272 : x5_2 < (t269.length : Int) := of_decide_eq_true (by first | (with_reducible assumption) | assumption)
                  obtain ⟨ad272, e272, hx272_0⟩ := Kd.at_int (Kd.R_reads' HO_4.out).2.2 x5_2 p272 q272
                  cases e272
                  replace p272 := eq_true p272
                  replace q272 := eq_true q272
                  go_wp2
                  go_ret
                  exact ⟨by first | rfl | (simp [errW_none, errW_some] <;> rfl) | (simp [*, errW_none, errW_some] <;> rfl), by repeat (first | (with_reducible first | exact HB.out | apply below_alloc | apply pw_below_drewN | apply below_drew1) | exact HB.out)⟩
                · rw [if_neg c11] at H
                  have c11b0 : ((rd t269 x5_2) == 0) = false := beq_eq_false_iff_ne.mpr c11
                  have c11b1 : ((rd t269 x5_2) != 0) = true := bne_iff_ne.mpr c11
                  have H' := Aside0.mk H
                  clear H
                  obtain ⟨Ao13, co13, eo13⟩ := Kd.R_slice HO_4.out
                  subst eo13
                  have p272 : 0 ≤ (x5_2 : Int) := of_decide_eq_true (by first | (with_reducible assumption) | assumption)
                  have q272 : x5_2 < (t269.length : Int) := of_decide_eq_true (by first | (with_reducible assumption) | assumption)
                  obtain ⟨ad272, e272, hx272_0⟩ := Kd.at_int (Kd.R_reads' HO_4.out).2.2 x5_2 p272 q272
                  cases e272
                  replace p272 := eq_true p272
                  replace q272 := eq_true q272
                  go_wp2
                  go_roundg k2
                  case measure => have := HJ2.out; have := HK2.out; omega
                  case rel => exact ⟨(wrap64 (x5_2 + 1)), (by first | rfl | (simp; done) | (simp [*]; done)), H', ⟨by have := HJ2.out; have := HK2.out; omega⟩, ⟨by (with_reducible repeat (first | apply Kd.R_alloc | apply Kd.R_drewN | apply Kd.R_drew)); exact HO_4.out⟩, ⟨by repeat (first | (with_reducible first | exact HB.out | apply below_alloc | apply pw_below_drewN | apply below_drew1) | exact HB.out)⟩⟩
              · rw [if_neg c10] at H
                exact absurd H (by simp)
            · rw [if_neg c9] at H
              have c9b0 : decide (x5_2 < (t269.length : Int)) = false := decide_eq_false c9
              clear c9
              replace H := Option.bind_eq_some_iff.mp H
              obtain ⟨⟨t273, t276⟩, A140, H⟩ := H
              replace H : (if t276 = 0 then (if (strOfNums t273).toList = (strOfNums l0).toList then (if (t269.length : Int) > (l0.length : Int) then (some (decide ((t269.length : Int) ≤ (wrap64 ((wrap64 ((l0.length : Int) + 1)) + (wrap64 ((l0.length : Int) / 254))))))) else (some false)) else (some false)) else (some false)) = some r := H
              have A14 := Aside0.mk A140
              clear A140
              by_cases c15 : t276 = 0
              · rw [if_pos c15] at H
                have c15b0 : (t276 == 0) = true := beq_iff_eq.mpr c15
                have c15b1 : (t276 != 0) = false := bne_eq_false_iff_eq.mpr c15
                clear c15
                by_cases c16 : (strOfNums t273).toList = (strOfNums l0).toList
                · rw [if_pos c16] at H
                  have c16b0 : ((strOfNums t273).toList == (strOfNums l0).toList) = true := beq_iff_eq.mpr c16
                  have c16b1 : ((strOfNums t273).toList != (strOfNums l0).toList) = false := bne_eq_false_iff_eq.mpr c16
                  clear c16
                  by_cases c17 : (t269.length : Int) > (l0.length : Int)
                  · rw [if_pos c17] at H
                    have c17b0 : decide ((l0.length : Int) < (t269.length : Int)) = true := decide_eq_true c17
                    have c17b1 : decide (l0.length < t269.length) = true := decide_eq_true (Int.ofNat_lt.mp c17)
                    clear c17
                    obtain rfl := Option.some.inj H
                    obtain ⟨Ao18, co18, eo18⟩ := Kd.R_slice HO_4.out
                    subst eo18
                    go_wp2_with (first | ((with_reducible refine gate_callee (f := 6) rfl ?_); refine goesL_ (some 32) rfl rfl Try.func6 (by kernel_rfl) rfl #[.slice Ao18 t269.length co18] rfl (by (try simp only [List.map_toArray, List.map_cons, List.map_nil]); first | done | rfl | (simp only [List.length_drop, List.length_take]; rfl)) ?_; (with_reducible refine (frame_Plain.calls k2 (fun k_ => some k_ = (.slice Ao18 t269.length co18 : Value).ownBlock) _ _ t269 t273 t276 _ ?side1 A14.out).mono ?_); (case side1 => exact Kd.R_V (Kd.R_tight rfl (HO_4.out))); rintro e w19 ⟨v274, rfl, ho0, hb⟩; refine ⟨_, rfl, ?_⟩; have n0_ := Aside0.mk (Kd.R_elder' (by (with_reducible repeat (first | apply Kd.R_alloc | apply Kd.R_drewN | apply Kd.R_drew)); exact HO_4.out) (Kd.R_base ho0) hb); have n1_ := Aside0.mk (Kd.R_lower (Kd.R_new' (Kd.R_mono (ok' := fun k_ => True) ho0 (fun _ hk_ => trivial)) (Kd.R_lt (by (with_reducible repeat (first | apply Kd.R_alloc | apply Kd.R_drewN | apply Kd.R_drew)); exact HO_4.out))) (below_size (by repeat (first | (with_reducible first | exact HB.out | apply below_alloc | apply pw_below_drewN | apply below_drew1) | exact HB.out)))); have n2_ := Aside0.mk (below_step (by repeat (first | (with_reducible first | exact HB.out | apply below_alloc | apply pw_below_drewN | apply below_drew1) | exact HB.out)) hb); clear HO_4; clear HB; have HO_4 := n0_; have HO275 := n1_; have HB := n2_; clear n0_ n1_ n2_; (try clear hb); (try clear hb2); (try clear hk); (try clear hi); (try clear ho0); have hcv20 := own_string (P := Try.prog) Try.underlying22 Try.underlying5 Try.underlying9 (Kd.own_of_R HO275.out); have hcv21 := Kd.C_string (P := Try.prog) (A := A0) (c := c0) Try.underlying22 Try.underlying5 Try.underlying9 (Kd.C_below HR0.out HB.out)))
                    go_ret
                    exact ⟨by first | rfl | (simp [errW_none, errW_some] <;> rfl) | (simp [*, errW_none, errW_some] <;> rfl), by repeat (first | (with_reducible first | exact HB.out | apply below_alloc | apply pw_below_drewN | apply below_drew1) | exact HB.out)⟩
                  · rw [if_neg c17] at H
                    have c17b0 : decide ((l0.length : Int) < (t269.length : Int)) = false := decide_eq_false c17
                    have c17b1 : decide (l0.length < t269.length) = false := decide_eq_false (fun h => c17 (Int.ofNat_lt.mpr h))
                    clear c17
                    obtain rfl := Option.some.inj H
                    obtain ⟨Ao22, co22, eo22⟩ := Kd.R_slice HO_4.out
                    subst eo22
                    go_wp2_with (first | ((with_reducible refine gate_callee (f := 6) rfl ?_); refine goesL_ (some 32) rfl rfl Try.func6 (by kernel_rfl) rfl #[.slice Ao22 t269.length co22] rfl (by (try simp only [List.map_toArray, List.map_cons, List.map_nil]); first | done | rfl | (simp only [List.length_drop, List.length_take]; rfl)) ?_; (with_reducible refine (frame_Plain.calls k2 (fun k_ => some k_ = (.slice Ao22 t269.length co22 : Value).ownBlock) _ _ t269 t273 t276 _ ?side1 A14.out).mono ?_); (case side1 => exact Kd.R_V (Kd.R_tight rfl (HO_4.out))); rintro e w23 ⟨v274, rfl, ho0, hb⟩; refine ⟨_, rfl, ?_⟩; have n0_ := Aside0.mk (Kd.R_elder' (by (with_reducible repeat (first | apply Kd.R_alloc | apply Kd.R_drewN | apply Kd.R_drew)); exact HO_4.out) (Kd.R_base ho0) hb); have n1_ := Aside0.mk (Kd.R_lower (Kd.R_new' (Kd.R_mono (ok' := fun k_ => True) ho0 (fun _ hk_ => trivial)) (Kd.R_lt (by (with_reducible repeat (first | apply Kd.R_alloc | apply Kd.R_drewN | apply Kd.R_drew)); exact HO_4.out))) (below_size (by repeat (first | (with_reducible first | exact HB.out | apply below_alloc | apply pw_below_drewN | apply below_drew1) | exact HB.out)))); have n2_ := Aside0.mk (below_step (by repeat (first | (with_reducible first | exact HB.out | apply below_alloc | apply pw_below_drewN | apply below_drew1) | exact HB.out)) hb); clear HO_4; clear HB; have HO_4 := n0_; have HO275 := n1_; have HB := n2_; clear n0_ n1_ n2_; (try clear hb); (try clear hb2); (try clear hk); (try clear hi); (try clear ho0); have hcv24 := own_string (P := Try.prog) Try.underlying22 Try.underlying5 Try.underlying9 (Kd.own_of_R HO275.out); have hcv25 := Kd.C_string (P := Try.prog) (A := A0) (c := c0) Try.underlying22 Try.underlying5 Try.underlying9 (Kd.C_below HR0.out HB.out)))
                    go_ret
                    exact ⟨by first | rfl | (simp [errW_none, errW_some] <;> rfl) | (simp [*, errW_none, errW_some] <;> rfl), by repeat (first | (with_reducible first | exact HB.out | apply below_alloc | apply pw_below_drewN | apply below_drew1) | exact HB.out)⟩
                · rw [if_neg c16] at H
                  have c16b0 : ((strOfNums t273).toList == (strOfNums l0).toList) = false := beq_eq_false_iff_ne.mpr c16
                  have c16b1 : ((strOfNums t273).toList != (strOfNums l0).toList) = true := bne_iff_ne.mpr c16
                  obtain rfl := Option.some.inj H
                  obtain ⟨Ao26, co26, eo26⟩ := Kd.R_slice HO_4.out
                  subst eo26
                  go_wp2_with (first | ((with_reducible refine gate_callee (f := 6) rfl ?_); refine goesL_ (some 32) rfl rfl Try.func6 (by kernel_rfl) rfl #[.slice Ao26 t269.length co26] rfl (by (try simp only [List.map_toArray, List.map_cons, List.map_nil]); first | done | rfl | (simp only [List.length_drop, List.length_take]; rfl)) ?_; (with_reducible refine (frame_Plain.calls k2 (fun k_ => some k_ = (.slice Ao26 t269.length co26 : Value).ownBlock) _ _ t269 t273 t276 _ ?side1 A14.out).mono ?_); (case side1 => exact Kd.R_V (Kd.R_tight rfl (HO_4.out))); rintro e w27 ⟨v274, rfl, ho0, hb⟩; refine ⟨_, rfl, ?_⟩; have n0_ := Aside0.mk (Kd.R_elder' (by (with_reducible repeat (first | apply Kd.R_alloc | apply Kd.R_drewN | apply Kd.R_drew)); exact HO_4.out) (Kd.R_base ho0) hb); have n1_ := Aside0.mk (Kd.R_lower (Kd.R_new' (Kd.R_mono (ok' := fun k_ => True) ho0 (fun _ hk_ => trivial)) (Kd.R_lt (by (with_reducible repeat (first | apply Kd.R_alloc | apply Kd.R_drewN | apply Kd.R_drew)); exact HO_4.out))) (below_size (by repeat (first | (with_reducible first | exact HB.out | apply below_alloc | apply pw_below_drewN | apply below_drew1) | exact HB.out)))); have n2_ := Aside0.mk (below_step (by repeat (first | (with_reducible first | exact HB.out | apply below_alloc | apply pw_below_drewN | apply below_drew1) | exact HB.out)) hb); clear HO_4; clear HB; have HO_4 := n0_; have HO275 := n1_; have HB := n2_; clear n0_ n1_ n2_; (try clear hb); (try clear hb2); (try clear hk); (try clear hi); (try clear ho0); have hcv28 := own_string (P := Try.prog) Try.underlying22 Try.underlying5 Try.underlying9 (Kd.own_of_R HO275.out); have hcv29 := Kd.C_string (P := Try.prog) (A := A0) (c := c0) Try.underlying22 Try.underlying5 Try.underlying9 (Kd.C_below HR0.out HB.out)))
                  go_ret
                  exact ⟨by first | rfl | (simp [errW_none, errW_some] <;> rfl) | (simp [*, errW_none, errW_some] <;> rfl), by repeat (first | (with_reducible first | exact HB.out | apply below_alloc | apply pw_below_drewN | apply below_drew1) | exact HB.out)⟩
              · rw [if_neg c15] at H
                have c15b0 : (t276 == 0) = false := beq_eq_false_iff_ne.mpr c15
                have c15b1 : (t276 != 0) = true := bne_iff_ne.mpr c15
                obtain rfl := Option.some.inj H
                obtain ⟨Ao30, co30, eo30⟩ := Kd.R_slice HO_4.out
                subst eo30
                go_wp2_with (first | ((with_reducible refine gate_callee (f := 6) rfl ?_); refine goesL_ (some 32) rfl rfl Try.func6 (by kernel_rfl) rfl #[.slice Ao30 t269.length co30] rfl (by (try simp only [List.map_toArray, List.map_cons, List.map_nil]); first | done | rfl | (simp only [List.length_drop, List.length_take]; rfl)) ?_; (with_reducible refine (frame_Plain.calls k2 (fun k_ => some k_ = (.slice Ao30 t269.length co30 : Value).ownBlock) _ _ t269 t273 t276 _ ?side1 A14.out).mono ?_); (case side1 => exact Kd.R_V (Kd.R_tight rfl (HO_4.out))); rintro e w31 ⟨v274, rfl, ho0, hb⟩; refine ⟨_, rfl, ?_⟩; have n0_ := Aside0.mk (Kd.R_elder' (by (with_reducible repeat (first | apply Kd.R_alloc | apply Kd.R_drewN | apply Kd.R_drew)); exact HO_4.out) (Kd.R_base ho0) hb); have n1_ := Aside0.mk (Kd.R_lower (Kd.R_new' (Kd.R_mono (ok' := fun k_ => True) ho0 (fun _ hk_ => trivial)) (Kd.R_lt (by (with_reducible repeat (first | apply Kd.R_alloc | apply Kd.R_drewN | apply Kd.R_drew)); exact HO_4.out))) (below_size (by repeat (first | (with_reducible first | exact HB.out | apply below_alloc | apply pw_below_drewN | apply below_drew1) | exact HB.out)))); have n2_ := Aside0.mk (below_step (by repeat (first | (with_reducible first | exact HB.out | apply below_alloc | apply pw_below_drewN | apply below_drew1) | exact HB.out)) hb); clear HO_4; clear HB; have HO_4 := n0_; have HO275 := n1_; have HB := n2_; clear n0_ n1_ n2_; (try clear hb); (try clear hb2); (try clear hk); (try clear hi); (try clear ho0)))
                go_ret
                exact ⟨by first | rfl | (simp [errW_none, errW_some] <;> rfl) | (simp [*, errW_none, errW_some] <;> rfl), by repeat (first | (with_reducible first | exact HB.out | apply below_alloc | apply pw_below_drewN | apply below_drew1) | exact HB.out)⟩

/-- THE ONE PURE STATEMENT of pennantlaw04_FrameBack: yours. -/
def pennantlaw04_FrameBack.Pure : Prop := ∀ (l0 : List Int), l0.length ≤ maxLen → l0.length * 1 ≤ 140737488351232 → (∀ x ∈ l0, (Lit.int .u8 x).wf = true) → ∃ k, pennantlaw04_FrameBack.f k l0 = some true
theorem pennantlaw04_FrameBack.walk (P : pennantlaw04_FrameBack.Pure) (a0 : Option Addr) (len0 cap0 : Nat) (z0 : List Int) (w : World) (w0 : (a0 = none ∧ len0 = 0 ∧ cap0 = 0 ∧ z0 = []) ∨ ∃ x, a0 = some x ∧ len0 ≤ cap0 ∧ cap0 ≤ maxLen ∧ z0.length = cap0 ∧ (∀ i, i < z0.length → w.cell? (x.add i) = some (.int .u8 (z0.getD i 0))) ∧ ∀ n ∈ z0, (Lit.int .u8 n).wf = true) (y0 : len0 * 1 ≤ 140737488351232) :
    Calls Try.prog 4 #[.slice a0 len0 cap0] w fun e w' => e = .returned (.bool true) ∧ Below w.heap.size w w' := by
  obtain ⟨l0, rfl, hr0, hm0, hw0, hc0⟩ := ReadsInt.ofRowC w0
  obtain ⟨k, h⟩ := P l0 hm0 y0 hw0
  refine (pennantlaw04_FrameBack.calls k _ _ l0 true w (Kd.C_of_reads (d := (0 : Int)) (h1 := fun _ => rfl) hr0) hc0 h).mono ?_
  rintro e w' ⟨rfl, hd⟩
  exact ⟨rfl, hd⟩

end Go.Proofs.Ytlbmfbbdfmmfnaa.PFrames
