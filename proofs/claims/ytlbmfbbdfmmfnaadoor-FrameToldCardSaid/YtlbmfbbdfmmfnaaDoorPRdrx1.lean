-- WRITTEN BY A TURNED COPY of the print tool, with hand-written blocks: a text of this seat
import Derived.Test.YtlbmfbbdfmmfnaaDoorPRdrx0
namespace Go.Proofs.YtlbmfbbdfmmfnaaDoor.PRdr
open Go.RowKit Go.Proofs.YtlbmfbbdfmmfnaaDoorW.PrintWords Go.Proofs.YtlbmfbbdfmmfnaaDoorW.PrintLast Go.Proofs.YtlbmfbbdfmmfnaaDoorW.PrintMore
attribute [local go_sem] max2_int min2_int max_two min_two max_three min_three max_four min_four   -- for this text's walks alone
set_option linter.unusedVariables false
set_option linter.unusedSimpArgs false

/-! ### pennantref02_Add: function 17 -/
mutual
def pennantref02_Add.l0 : Nat → List Int → Int → Int → Option (Int)
  | 0, _, _, _ => none
  | k + 1, x1, x5, x6 => if x6 < (x1.length : Int) then (if 0 ≤ x6 then (pennantref02_Add.l1 k x1 (Go.bits .xor .u32 x5 ((((rd x1 x6) % 4294967296) * 65536) % 4294967296)) x6 0) else (none)) else (some x5)
def pennantref02_Add.l1 : Nat → List Int → Int → Int → Int → Option (Int)
  | 0, _, _, _, _ => none
  | k + 1, x1, x5, x6, x7 => if x7 < 8 then (if ((2 * x5) % 4294967296) ≥ 16777216 then (pennantref02_Add.l1 k x1 (Go.bits .xor .u32 ((2 * x5) % 4294967296) 25578747) x6 (wrap64 (x7 + 1))) else (pennantref02_Add.l1 k x1 ((2 * x5) % 4294967296) x6 (wrap64 (x7 + 1)))) else (pennantref02_Add.l0 k x1 x5 (wrap64 (x6 + 1)))
end
def pennantref02_Add.f (k : Nat) (a0 : Int) (l1 : List Int) : Option (Int) := pennantref02_Add.l0 k l1 (Int.tmod a0 16777216) 0
theorem pennantref02_Add.mono_l : ∀ k, (∀ y0 y1 y2, LeO (pennantref02_Add.l0 k y0 y1 y2) (pennantref02_Add.l0 (k + 1) y0 y1 y2)) ∧ (∀ y0 y1 y2 y3, LeO (pennantref02_Add.l1 k y0 y1 y2 y3) (pennantref02_Add.l1 (k + 1) y0 y1 y2 y3))
  | 0 => ⟨fun _ _ _ r h => by simp [pennantref02_Add.l0] at h, fun _ _ _ _ r h => by simp [pennantref02_Add.l1] at h⟩
  | k + 1 => by
    obtain ⟨ih0, ih1⟩ := pennantref02_Add.mono_l k
    refine ⟨?_, ?_⟩
    · intro y0 y1 y2
      unfold pennantref02_Add.l0
      repeat' first
      | (with_reducible exact ih0 _ _ _)
      | (with_reducible exact ih1 _ _ _ _)
      | (with_reducible exact LeO.refl _)
      | (with_reducible exact LeO.none _)
      | (with_reducible refine LeO.ite ?_ ?_)
      | (with_reducible refine LeO.bind ?_ (fun _ => ?_))
      | exact ih0 _ _ _
      | exact ih1 _ _ _ _
      | exact LeO.none _
      | refine LeO.ite ?_ ?_
      | refine LeO.bind ?_ (fun _ => ?_)
    · intro y0 y1 y2 y3
      unfold pennantref02_Add.l1
      repeat' first
      | (with_reducible exact ih0 _ _ _)
      | (with_reducible exact ih1 _ _ _ _)
      | (with_reducible exact LeO.refl _)
      | (with_reducible exact LeO.none _)
      | (with_reducible refine LeO.ite ?_ ?_)
      | (with_reducible refine LeO.bind ?_ (fun _ => ?_))
      | exact ih0 _ _ _
      | exact ih1 _ _ _ _
      | exact LeO.none _
      | refine LeO.ite ?_ ?_
      | refine LeO.bind ?_ (fun _ => ?_)
theorem pennantref02_Add.mono : ∀ a0 a1 k, LeO (pennantref02_Add.f k a0 a1) (pennantref02_Add.f (k + 1) a0 a1) := by
  intro a0 a1 k
  obtain ⟨ih0, ih1⟩ := pennantref02_Add.mono_l k
  unfold pennantref02_Add.f
  repeat' first
      | (with_reducible exact ih0 _ _ _)
      | (with_reducible exact ih1 _ _ _ _)
      | (with_reducible exact LeO.refl _)
      | (with_reducible exact LeO.none _)
      | (with_reducible refine LeO.ite ?_ ?_)
      | (with_reducible refine LeO.bind ?_ (fun _ => ?_))
      | exact ih0 _ _ _
      | exact ih1 _ _ _ _
      | exact LeO.none _
      | refine LeO.ite ?_ ?_
      | refine LeO.bind ?_ (fun _ => ?_)
set_option maxHeartbeats 8000000 in
set_option maxRecDepth 100000 in
theorem pennantref02_Add.calls (k : Nat) (a0 : Int) (A1 : Option Addr) (c1 : Nat) (l1 : List Int) (r : Int) (w : World) (hr1 : Kd.C (Kd.int .u8) w A1 l1.length l1) (hc1 : l1.length ≤ c1) (h : pennantref02_Add.f k a0 l1 = some r) :
    Calls Tryd.prog 17 #[.int .u32 a0, .slice A1 l1.length c1] w fun e w' => e = .returned (.int .u32 r) ∧ Drawn0 w w' := by
  have HR1 := Aside0.mk hr1
  have HC1 := Aside0.mk hc1
  clear hr1 hc1
  have H : (pennantref02_Add.l0 k l1 (Int.tmod a0 16777216) 0) = some r := h
  clear h
  have H' := Aside0.mk H
  clear H
  go_enter Tryd.func17, Tryd.ntmps17
  go_wp2
  go_loopg [5, 6] k (fun kq v5 v6 w' => ∃ (x5_1 : Int) (x6_1 : Int), v5 = .int .u32 x5_1 ∧ v6 = .int .i64 x6_1 ∧ Aside0 (pennantref02_Add.l0 kq l1 x5_1 x6_1 = some r) ∧ Aside0 (kq ≤ k) ∧ Drawn0 w w')
  case atStart => exact ⟨(Int.tmod a0 16777216), (0), (by first | rfl | (simp; done) | (simp [*]; done)), (by first | rfl | (simp; done) | (simp [*]; done)), H', ⟨Nat.le_refl _⟩, by repeat (first | exact Drawn0.refl _ | apply Drawn0.step)⟩
  case round =>
    clear H'
    try clear c1
    try clear p2
    obtain ⟨x5_1, x6_1, rfl, rfl, HA, HK1, ⟨m1, rfl⟩⟩ := hrel
    cases gk with
    | zero => exact absurd HA.out (by simp [pennantref02_Add.l0])
    | succ k1 =>
      have H := HA.out
      clear HA
      simp only [pennantref02_Add.l0] at H
      by_cases c3 : x6_1 < (l1.length : Int)
      · rw [if_pos c3] at H
        have c3b0 : decide (x6_1 < (l1.length : Int)) = true := decide_eq_true c3
        clear c3
        by_cases c4 : 0 ≤ x6_1
        · rw [if_pos c4] at H
          have c4b0 : decide (0 ≤ x6_1) = true := decide_eq_true c4
          clear c4
          have H' := Aside0.mk H
          clear H
          have p101 : 0 ≤ (x6_1 : Int) := of_decide_eq_true (by first | (with_reducible assumption) | assumption)
          have q101 : x6_1 < (l1.length : Int) := of_decide_eq_true (by first | (with_reducible assumption) | assumption)
          obtain ⟨ad101, e101, hx101_0⟩ := Kd.at_int HR1.out x6_1 p101 q101
          cases e101
          replace p101 := eq_true p101
          replace q101 := eq_true q101
          go_wp2
          go_loopg [5, 7] k1 (fun kq v5 v7 w' => ∃ (x5_2 : Int) (x7_2 : Int), v5 = .int .u32 x5_2 ∧ v7 = .int .i64 x7_2 ∧ Aside0 (pennantref02_Add.l1 kq l1 x5_2 x6_1 x7_2 = some r) ∧ Aside0 (kq ≤ k1) ∧ Drawn0 w w')
          case atStart => exact ⟨(Go.bits .xor .u32 x5_1 ((((rd l1 x6_1) % 4294967296) * 65536) % 4294967296)), (0), (by first | rfl | (simp; done) | (simp [*]; done)), (by first | rfl | (simp; done) | (simp [*]; done)), H', ⟨Nat.le_refl _⟩, by repeat (first | exact Drawn0.refl _ | apply Drawn0.step)⟩
          case round =>
            clear H'
            try clear c1
            try clear p1
            try clear q1
            try clear hx1
            try clear p2
            try clear c3
            try clear c3b0
            try clear c4
            try clear c4b0
            try clear hx101_0
            try clear p101
            try clear p2
            try clear q101
            obtain ⟨x5_2, x7_2, rfl, rfl, HA, HK2, ⟨m2, rfl⟩⟩ := hrel
            cases gk with
            | zero => exact absurd HA.out (by simp [pennantref02_Add.l1])
            | succ k2 =>
              have H := HA.out
              clear HA
              simp only [pennantref02_Add.l1] at H
              by_cases c5 : x7_2 < 8
              · rw [if_pos c5] at H
                have c5b0 : decide (x7_2 < 8) = true := decide_eq_true c5
                clear c5
                by_cases c6 : ((2 * x5_2) % 4294967296) ≥ 16777216
                · rw [if_pos c6] at H
                  have c6b0 : decide (16777216 ≤ ((2 * x5_2) % 4294967296)) = true := decide_eq_true c6
                  clear c6
                  have H' := Aside0.mk H
                  clear H
                  go_wp2
                  go_roundg k2
                  case measure => have := HK1.out; have := HK2.out; omega
                  case rel => exact ⟨(Go.bits .xor .u32 ((2 * x5_2) % 4294967296) 25578747), (wrap64 (x7_2 + 1)), (by first | rfl | (simp; done) | (simp [*]; done)), (by first | rfl | (simp; done) | (simp [*]; done)), H', ⟨by have := HK1.out; have := HK2.out; omega⟩, by repeat (first | exact Drawn0.refl _ | apply Drawn0.step)⟩
                · rw [if_neg c6] at H
                  have c6b0 : decide (16777216 ≤ ((2 * x5_2) % 4294967296)) = false := decide_eq_false c6
                  clear c6
                  have H' := Aside0.mk H
                  clear H
                  go_wp2
                  go_roundg k2
                  case measure => have := HK1.out; have := HK2.out; omega
                  case rel => exact ⟨((2 * x5_2) % 4294967296), (wrap64 (x7_2 + 1)), (by first | rfl | (simp; done) | (simp [*]; done)), (by first | rfl | (simp; done) | (simp [*]; done)), H', ⟨by have := HK1.out; have := HK2.out; omega⟩, by repeat (first | exact Drawn0.refl _ | apply Drawn0.step)⟩
              · rw [if_neg c5] at H
                have c5b0 : decide (x7_2 < 8) = false := decide_eq_false c5
                clear c5
                have H' := Aside0.mk H
                clear H
                go_wp2
                go_roundg k2
                case measure => have := HK1.out; have := HK2.out; omega
                case rel => exact ⟨(x5_2), (wrap64 (x6_1 + 1)), (by first | rfl | (simp; done) | (simp [*]; done)), (by first | rfl | (simp; done) | (simp [*]; done)), H', ⟨by have := HK1.out; have := HK2.out; omega⟩, by repeat (first | exact Drawn0.refl _ | apply Drawn0.step)⟩
        · rw [if_neg c4] at H
          exact absurd H (by simp)
      · rw [if_neg c3] at H
        have c3b0 : decide (x6_1 < (l1.length : Int)) = false := decide_eq_false c3
        clear c3
        obtain rfl := Option.some.inj H
        go_wp2
        go_ret
        exact ⟨by first | rfl | (simp; done) | (simp [*]; done), by repeat (first | exact Drawn0.refl _ | apply Drawn0.step)⟩

/-! ### pennantref02_Sum: function 15 -/
def pennantref02_Sum.f (k : Nat) (l0 : List Int) : Option (Int) := (pennantref02_Add.f k 11994318 l0).bind fun t102 => (some t102)
theorem pennantref02_Sum.mono : ∀ a0 k, LeO (pennantref02_Sum.f k a0) (pennantref02_Sum.f (k + 1) a0) := by
  intro a0 k
  unfold pennantref02_Sum.f
  repeat' first
      | (with_reducible exact pennantref02_Add.mono _ _ _)
      | (with_reducible exact LeO.refl _)
      | (with_reducible exact LeO.none _)
      | (with_reducible refine LeO.ite ?_ ?_)
      | (with_reducible refine LeO.bind ?_ (fun _ => ?_))
      | exact pennantref02_Add.mono _ _ _
      | exact LeO.none _
      | refine LeO.ite ?_ ?_
      | refine LeO.bind ?_ (fun _ => ?_)
set_option maxHeartbeats 8000000 in
set_option maxRecDepth 100000 in
theorem pennantref02_Sum.calls (k : Nat) (A0 : Option Addr) (c0 : Nat) (l0 : List Int) (r : Int) (w : World) (hr0 : Kd.C (Kd.int .u8) w A0 l0.length l0) (hc0 : l0.length ≤ c0) (h : pennantref02_Sum.f k l0 = some r) :
    Calls Tryd.prog 15 #[.slice A0 l0.length c0] w fun e w' => e = .returned (.int .u32 r) ∧ Drawn0 w w' := by
  have HR0 := Aside0.mk hr0
  have HC0 := Aside0.mk hc0
  clear hr0 hc0
  have H : ((pennantref02_Add.f k 11994318 l0).bind fun t102 => (some t102)) = some r := h
  clear h
  replace H := Option.bind_eq_some_iff.mp H
  obtain ⟨t102, A20, H⟩ := H
  replace H : (some t102) = some r := H
  have A2 := Aside0.mk A20
  clear A20
  obtain rfl := Option.some.inj H
  go_enter Tryd.func15, Tryd.ntmps15
  go_wp2_with (first | ((with_reducible refine gate_callee (f := 17) rfl ?_); refine goesL_ (some 4) rfl rfl Tryd.func17 (by kernel_rfl) rfl #[.int .u32 11994318, .slice A0 l0.length c0] rfl (by (try simp only [List.map_toArray, List.map_cons, List.map_nil]); first | done | rfl | (simp only [List.length_drop, List.length_take]; rfl)) ?_; (with_reducible refine (pennantref02_Add.calls k 11994318 _ _ l0 t102 _ ?side1 ?side2 A2.out).mono ?_); (case side1 => repeat (first | exact HR0.out | (with_reducible refine Kd.C_alloc ?_ _) | (with_reducible refine Kd.C_drewN ?_ _) | (with_reducible refine Kd.C_drew ?_))); (case side2 => exact HC0.out); rintro e w' ⟨rfl, ⟨nd, rfl⟩⟩; refine ⟨_, rfl, ?_⟩))
  go_ret
  exact ⟨by first | rfl | (simp; done) | (simp [*]; done), by repeat (first | exact Drawn0.refl _ | apply Drawn0.step)⟩

/-! ### pennantref02_Seal: function 21 -/
def pennantref02_Seal.f (k : Nat) (l0 : List Int) : Option (List Int) := (pennantref02_Sum.f k l0).bind fun t103 => ((some (([] : List Int) : List Int)).bind fun y104 => (if y104.length + l0.length < 140737488355328 then ((some (y104 ++ l0 : List Int)).bind fun y107 => ((some (([((Int.tdiv t103 65536) % 4294967296) % 256, ((Int.tdiv t103 256) % 4294967296) % 256, (Int.tmod t103 256) % 256] : List Int) : List Int)).bind fun y110 => (if y107.length + y110.length < 140737488355328 then (some (y107 ++ y110)) else (none)))) else (none)))
theorem pennantref02_Seal.mono : ∀ a0 k, LeO (pennantref02_Seal.f k a0) (pennantref02_Seal.f (k + 1) a0) := by
  intro a0 k
  unfold pennantref02_Seal.f
  repeat' first
      | (with_reducible exact pennantref02_Sum.mono _ _)
      | (with_reducible exact LeO.refl _)
      | (with_reducible exact LeO.none _)
      | (with_reducible refine LeO.ite ?_ ?_)
      | (with_reducible refine LeO.bind ?_ (fun _ => ?_))
      | exact pennantref02_Sum.mono _ _
      | exact LeO.none _
      | refine LeO.ite ?_ ?_
      | refine LeO.bind ?_ (fun _ => ?_)
set_option maxHeartbeats 8000000 in
set_option maxRecDepth 100000 in
theorem pennantref02_Seal.calls (k : Nat) (A0 : Option Addr) (c0 : Nat) (l0 : List Int) (r : List Int) (w : World) (hr0 : Kd.C (Kd.int .u8) w A0 l0.length l0) (hc0 : l0.length ≤ c0) (h : pennantref02_Seal.f k l0 = some r) :
    Calls Tryd.prog 21 #[.slice A0 l0.length c0] w fun e w' => ∃ v0_ : Value, e = .returned (v0_) ∧ Kd.R (Kd.int .u8) 5 w' w.heap.size (fun _ => True) v0_ r ∧ Below w.heap.size w w' := by
  have HR0 := Aside0.mk hr0
  have HC0 := Aside0.mk hc0
  clear hr0 hc0
  have HB := Aside0.mk (Below.refl w.heap.size w)
  have H : ((pennantref02_Sum.f k l0).bind fun t103 => ((some (([] : List Int) : List Int)).bind fun y104 => (if y104.length + l0.length < 140737488355328 then ((some (y104 ++ l0 : List Int)).bind fun y107 => ((some (([((Int.tdiv t103 65536) % 4294967296) % 256, ((Int.tdiv t103 256) % 4294967296) % 256, (Int.tmod t103 256) % 256] : List Int) : List Int)).bind fun y110 => (if y107.length + y110.length < 140737488355328 then (some (y107 ++ y110)) else (none)))) else (none)))) = some r := h
  clear h
  replace H := Option.bind_eq_some_iff.mp H
  obtain ⟨t103, A20, H⟩ := H
  replace H : ((some (([] : List Int) : List Int)).bind fun y104 => (if y104.length + l0.length < 140737488355328 then ((some (y104 ++ l0 : List Int)).bind fun y107 => ((some (([((Int.tdiv t103 65536) % 4294967296) % 256, ((Int.tdiv t103 256) % 4294967296) % 256, (Int.tmod t103 256) % 256] : List Int) : List Int)).bind fun y110 => (if y107.length + y110.length < 140737488355328 then (some (y107 ++ y110)) else (none)))) else (none))) = some r := H
  have A2 := Aside0.mk A20
  clear A20
  obtain ⟨y104, hy104⟩ : ∃ y_ : List Int, y_ = (([] : List Int)) := ⟨_, rfl⟩
  replace H : (if y104.length + l0.length < 140737488355328 then ((some (y104 ++ l0 : List Int)).bind fun y107 => ((some (([((Int.tdiv t103 65536) % 4294967296) % 256, ((Int.tdiv t103 256) % 4294967296) % 256, (Int.tmod t103 256) % 256] : List Int) : List Int)).bind fun y110 => (if y107.length + y110.length < 140737488355328 then (some (y107 ++ y110)) else (none)))) else (none)) = some r := by first | (rw [hy104]; with_reducible exact H) | (have H2_ := (Option.bind_some _ _).symm.trans H; rw [hy104]; with_reducible exact H2_) | (have H2_ := (Option.bind_some _ _).symm.trans H; with_reducible exact H2_) | with_reducible exact H | (rw [hy104]; exact H) | exact H
  have Ny104 := Aside0.mk hy104
  clear hy104
  by_cases c3 : y104.length + l0.length < 140737488355328
  · rw [if_pos c3] at H
    have LMc3 := Aside0.mk c3
    clear c3
    obtain ⟨y107, hy107⟩ : ∃ y_ : List Int, y_ = (y104 ++ l0) := ⟨_, rfl⟩
    replace H : ((some (([((Int.tdiv t103 65536) % 4294967296) % 256, ((Int.tdiv t103 256) % 4294967296) % 256, (Int.tmod t103 256) % 256] : List Int) : List Int)).bind fun y110 => (if y107.length + y110.length < 140737488355328 then (some (y107 ++ y110)) else (none))) = some r := by first | (rw [hy107]; with_reducible exact H) | (have H2_ := (Option.bind_some _ _).symm.trans H; rw [hy107]; with_reducible exact H2_) | (have H2_ := (Option.bind_some _ _).symm.trans H; with_reducible exact H2_) | with_reducible exact H | (rw [hy107]; exact H) | exact H
    have Ny107 := Aside0.mk hy107
    clear hy107
    obtain ⟨y110, hy110⟩ : ∃ y_ : List Int, y_ = (([((Int.tdiv t103 65536) % 4294967296) % 256, ((Int.tdiv t103 256) % 4294967296) % 256, (Int.tmod t103 256) % 256] : List Int)) := ⟨_, rfl⟩
    replace H : (if y107.length + y110.length < 140737488355328 then (some (y107 ++ y110)) else (none)) = some r := by first | (rw [hy110]; with_reducible exact H) | (have H2_ := (Option.bind_some _ _).symm.trans H; rw [hy110]; with_reducible exact H2_) | (have H2_ := (Option.bind_some _ _).symm.trans H; with_reducible exact H2_) | with_reducible exact H | (rw [hy110]; exact H) | exact H
    have Ny110 := Aside0.mk hy110
    clear hy110
    by_cases c4 : y107.length + y110.length < 140737488355328
    · rw [if_pos c4] at H
      have LMc4 := Aside0.mk c4
      clear c4
      obtain ⟨y113, hy113⟩ : ∃ y_ : List Int, y_ = (y107 ++ y110) := ⟨_, rfl⟩
      replace H : (some y113) = some r := by first | (rw [hy113]; with_reducible exact H) | (have H2_ := (Option.bind_some _ _).symm.trans H; rw [hy113]; with_reducible exact H2_) | (have H2_ := (Option.bind_some _ _).symm.trans H; with_reducible exact H2_) | with_reducible exact H | (rw [hy113]; exact H) | exact H
      have Ny113 := Aside0.mk hy113
      clear hy113
      obtain rfl := Option.some.inj H
      go_enter Tryd.func21, Tryd.ntmps21
      go_wp2_with (first | ((with_reducible refine gate_callee (f := 15) rfl ?_); refine goesL_ (some 5) rfl rfl Tryd.func15 (by kernel_rfl) rfl #[.slice A0 l0.length c0] rfl (by (try simp only [List.map_toArray, List.map_cons, List.map_nil]); first | done | rfl | (simp only [List.length_drop, List.length_take]; rfl)) ?_; (with_reducible refine (pennantref02_Sum.calls k _ _ l0 t103 _ ?side1 ?side2 A2.out).mono ?_); (case side1 => repeat (first | exact HR0.out | (with_reducible refine Kd.C_alloc ?_ _) | (with_reducible refine Kd.C_drewN ?_ _) | (with_reducible refine Kd.C_drew ?_))); (case side2 => exact HC0.out); rintro e w' ⟨rfl, ⟨nd, rfl⟩⟩; refine ⟨_, rfl, ?_⟩) | ((with_reducible refine gate_dst (N := 6) rfl ?_); refine Kd.R_lit (Kd.int .u8) _ 5 ?hg (N := 6) ?hd (xs := ([] : List Int)) (inner := []) (ok := fun _ => True) (okp := fun _ => True) ?hr ?hp (fun _ hk => hk) trivial (Below.refl _ _) (Nat.le_refl _) (by simp) ?_; (case hd => rfl); (case hg => rfl); (case hr => first | (go_simp; done) | (go_simp; rfl)); (case hp => exact (Reps.none _ _)); intro v105 w5 ho6 hb hg_ hnew_; clear hg_ hnew_; (first | rw [← Ny104.out] at ho6 | (simp only [Int.reduceToNat] at ho6; rw [← Ny104.out] at ho6)); have n0_ := Aside0.mk (Kd.R_lower ho6 (below_size (by repeat (first | (with_reducible first | exact HB.out | apply below_alloc | apply pw_below_drewN | apply below_drew1) | exact HB.out)))); have n1_ := Aside0.mk (below_step (by repeat (first | (with_reducible first | exact HB.out | apply below_alloc | apply pw_below_drewN | apply below_drew1) | exact HB.out)) hb); clear HB; have HO106 := n0_; have HB := n1_; clear n0_ n1_; clear hb ho6) | ((with_reducible refine gate_builtin (b := .append) (xs := #[.tmp 6, .tmp 7]) rfl ?_); at_builtin; refine Kd.R_append_rows (Kd.int .u8) (w0 := w) w.heap.size rfl (.tmp 6) (.tmp 7) 23 5 (.int .u8 0) 1 rfl Tryd.underlying23 info5 rfl (by decide) (by omega) v105 y104 l0 _ _ _ (fun _ => True) (fun _ => False) rfl rfl ?aO ?aR (fun _ _ h => h) (fun _ h => h.elim) ?aF ?aB ?aS ?aL ?_; (case aR => repeat (first | exact (Kd.C_below HR0.out HB.out) | (with_reducible refine Kd.C_alloc ?_ _) | (with_reducible refine Kd.C_drewN ?_ _) | (with_reducible refine Kd.C_drew ?_))); (case aB => exact (by repeat (first | (with_reducible first | exact HB.out | apply below_alloc | apply pw_below_drewN | apply below_drew1) | exact HB.out))); (case aF => exact (fun _ _ => trivial)); (case aO => exact (by (with_reducible repeat (first | apply Kd.R_alloc | apply Kd.R_drewN | apply Kd.R_drew)); exact HO106.out)); (case aS => exact (below_size (by repeat (first | (with_reducible first | exact HB.out | apply below_alloc | apply pw_below_drewN | apply below_drew1) | exact HB.out)))); (case aL => have := LMc3.out; omega); intro v108 w7 ho hb hg hat; rw [← Ny107.out] at ho; have n0_ := Aside0.mk (hb); have n1_ := Aside0.mk (ho); clear HB; clear HO106; have HB := n0_; have HO109 := n1_; clear n0_ n1_; clear ho hb hg hat) | ((with_reducible refine gate_dst (N := 19) rfl ?_); refine Kd.R_lit (Kd.int .u8) _ 5 ?hg (N := 19) ?hd (xs := ([((Int.tdiv t103 65536) % 4294967296) % 256, ((Int.tdiv t103 256) % 4294967296) % 256, (Int.tmod t103 256) % 256] : List Int)) (inner := [.int .u8 (((Int.tdiv t103 65536) % 4294967296) % 256), .int .u8 (((Int.tdiv t103 256) % 4294967296) % 256), .int .u8 ((Int.tmod t103 256) % 256)]) (ok := fun _ => True) (okp := fun _ => True) ?hr ?hp (fun _ hk => hk) trivial (Below.refl _ _) (Nat.le_refl _) (by simp) ?_; (case hd => rfl); (case hg => rfl); (case hr => first | (go_simp; done) | (go_simp; rfl)); (case hp => exact (Reps.one (show Kd.M (Kd.int .u8) _ _ _ (((Int.tdiv t103 65536) % 4294967296) % 256) [.int .u8 (((Int.tdiv t103 65536) % 4294967296) % 256)] from rfl) (Reps.one (show Kd.M (Kd.int .u8) _ _ _ (((Int.tdiv t103 256) % 4294967296) % 256) [.int .u8 (((Int.tdiv t103 256) % 4294967296) % 256)] from rfl) (Reps.one (show Kd.M (Kd.int .u8) _ _ _ ((Int.tmod t103 256) % 256) [.int .u8 ((Int.tmod t103 256) % 256)] from rfl) (Reps.none _ _))))); intro v111 w8 ho9 hb hg_ hnew_; clear hg_ hnew_; (first | rw [← Ny110.out] at ho9 | (simp only [Int.reduceToNat] at ho9; rw [← Ny110.out] at ho9)); have n0_ := Aside0.mk (Kd.R_elder' (by (with_reducible repeat (first | apply Kd.R_alloc | apply Kd.R_drewN | apply Kd.R_drew)); exact HO109.out) (Kd.R_base ho9) hb); have n1_ := Aside0.mk (Kd.R_lower (Kd.R_new' ho9 (Kd.R_lt (by (with_reducible repeat (first | apply Kd.R_alloc | apply Kd.R_drewN | apply Kd.R_drew)); exact HO109.out))) (below_size (by repeat (first | (with_reducible first | exact HB.out | apply below_alloc | apply pw_below_drewN | apply below_drew1) | exact HB.out)))); have n2_ := Aside0.mk (below_step (by repeat (first | (with_reducible first | exact HB.out | apply below_alloc | apply pw_below_drewN | apply below_drew1) | exact HB.out)) hb); clear HO109; clear HB; have HO109 := n0_; have HO112 := n1_; have HB := n2_; clear n0_ n1_ n2_; clear hb ho9; obtain ⟨Ao11, co11, eo11⟩ := Kd.R_slice HO112.out; subst eo11) | ((with_reducible refine gate_builtin (b := .append) (xs := #[.tmp 8, .tmp 19]) rfl ?_); at_builtin; refine Kd.R_append_rows (Kd.int .u8) (w0 := w) w.heap.size rfl (.tmp 8) (.tmp 19) 23 5 (.int .u8 0) 1 rfl Tryd.underlying23 info5 rfl (by decide) (by omega) v108 y107 y110 _ _ _ (fun k_ => some k_ ≠ (.slice Ao11 y110.length co11 : Value).ownBlock) (fun _ => False) rfl rfl ?aO ?aR (fun _ _ h => h) (fun _ h => h.elim) ?aF ?aB ?aS ?aL ?_; (case aR => repeat (first | exact (Kd.R_reads' HO112.out).2.2 | (with_reducible refine Kd.C_alloc ?_ _) | (with_reducible refine Kd.C_drewN ?_ _) | (with_reducible refine Kd.C_drew ?_))); (case aB => exact (by repeat (first | (with_reducible first | exact HB.out | apply below_alloc | apply pw_below_drewN | apply below_drew1) | exact HB.out))); (case aF => exact (fun k_ hk => Kd.fresh' (Kd.R_lt (by (with_reducible repeat (first | apply Kd.R_alloc | apply Kd.R_drewN | apply Kd.R_drew)); exact HO112.out)) k_ hk)); (case aO => exact (by (with_reducible repeat (first | apply Kd.R_alloc | apply Kd.R_drewN | apply Kd.R_drew)); exact Kd.R_mono HO109.out (fun _ hk => hk.2))); (case aS => exact (below_size (by repeat (first | (with_reducible first | exact HB.out | apply below_alloc | apply pw_below_drewN | apply below_drew1) | exact HB.out)))); (case aL => have := LMc4.out; omega); intro v114 w10 ho hb hg hat; rw [← Ny113.out] at ho; have n0_ := Aside0.mk (Kd.R_after (ok := (fun _ => True)) (by (with_reducible repeat (first | apply Kd.R_alloc | apply Kd.R_drewN | apply Kd.R_drew)); exact HO112.out) hg hat); have n1_ := Aside0.mk (hb); have n2_ := Aside0.mk (ho); clear HO112; clear HB; clear HO109; have HO112 := n0_; have HB := n1_; have HO115 := n2_; clear n0_ n1_ n2_; clear ho hb hg hat))
      go_ret
      exact ⟨_, by first | rfl | (simp [errW_none, errW_some] <;> rfl) | (simp [*, errW_none, errW_some] <;> rfl), by (with_reducible repeat (first | apply Kd.R_alloc | apply Kd.R_drewN | apply Kd.R_drew)); exact Kd.R_mono HO115.out (fun _ hk => trivial), by repeat (first | (with_reducible first | exact HB.out | apply below_alloc | apply pw_below_drewN | apply below_drew1) | exact HB.out)⟩
    · rw [if_neg c4] at H
      exact absurd H (by simp)
  · rw [if_neg c3] at H
    exact absurd H (by simp)

/-! ### pennantref04_Stuff: function 31 -/
-- BY HAND: pennantref04.Stuff, from the text RefStuff
def pennantref04_Stuff.f (k : Nat) (l0 : List Int) : Option (List Int) := if l0.length < 400000 ∧ (∀ c ∈ l0, 0 ≤ c ∧ c ≤ 255) then some (stuffed l0) else none
theorem pennantref04_Stuff.mono : ∀ a0 k, LeO (pennantref04_Stuff.f k a0) (pennantref04_Stuff.f (k + 1) a0) := fun _ _ => LeO.refl _
theorem pennantref04_Stuff.calls (k : Nat) (A0 : Option Addr) (c0 : Nat) (l0 : List Int) (r : List Int) (w : World) (hr0 : Kd.C (Kd.int .u8) w A0 l0.length l0) (hc0 : l0.length ≤ c0) (h : pennantref04_Stuff.f k l0 = some r) :
    Calls Tryd.prog 31 #[.slice A0 l0.length c0] w fun e w' => ∃ v0_ : Value, e = .returned (v0_) ∧ Kd.R (Kd.int .u8) 5 w' w.heap.size (fun _ => True) v0_ r ∧ Below w.heap.size w w' := by
  unfold pennantref04_Stuff.f at h
  split at h
  case isFalse => cases h
  case isTrue hq =>
  obtain rfl := Option.some.inj h
  exact refStuff_calls A0 c0 l0 w hr0 (by omega) hq.2

-- NOT PRINTED: function 34 (frame_runs)

/-! ### frame_Stuff: function 30 -/
-- BY HAND: frame.Stuff, from the text Stuffed
def frame_Stuff.f (k : Nat) (l0 : List Int) : Option (List Int) := if l0.length < 400000 ∧ (∀ c ∈ l0, 0 ≤ c ∧ c ≤ 255) then some (stuffed l0) else none
theorem frame_Stuff.mono : ∀ a0 k, LeO (frame_Stuff.f k a0) (frame_Stuff.f (k + 1) a0) := fun _ _ => LeO.refl _
theorem frame_Stuff.calls (k : Nat) (A0 : Option Addr) (c0 : Nat) (l0 : List Int) (r : List Int) (w : World) (hr0 : Kd.C (Kd.int .u8) w A0 l0.length l0) (hc0 : l0.length ≤ c0) (h : frame_Stuff.f k l0 = some r) :
    Calls Tryd.prog 30 #[.slice A0 l0.length c0] w fun e w' => ∃ v0_ : Value, e = .returned (v0_) ∧ Kd.R (Kd.int .u8) 5 w' w.heap.size (fun _ => True) v0_ r ∧ Below w.heap.size w w' := by
  unfold frame_Stuff.f at h
  split at h
  case isFalse => cases h
  case isTrue hq =>
  obtain rfl := Option.some.inj h
  refine (callsIn_wide.1 (stuff_in A0 c0 l0 w hr0 (by omega) hq.2)).mono ?_
  rintro e w' ⟨v, rfl, ho, hb⟩
  exact ⟨v, rfl, Kd.R_of_own (enc := Value.int .u8) (h1 := fun _ => rfl) (by simpa [nums, encs] using ho) (fun _ _ => trivial), hb⟩

/-! ### pennantlaw04_awake: function 22 -/
def pennantlaw04_awake.f (k : Nat)  : Option (Bool) := (frame_Stuff.f k (([7, 0, 8] : List Int))).bind fun t217 => (some ((strOfNums t217).toList == ([2, 7, 2, 8] : List UInt8)))
theorem pennantlaw04_awake.mono : ∀ k, LeO (pennantlaw04_awake.f k ) (pennantlaw04_awake.f (k + 1) ) := by
  intro  k
  unfold pennantlaw04_awake.f
  repeat' first
      | (with_reducible exact frame_Stuff.mono _ _)
      | (with_reducible exact LeO.refl _)
      | (with_reducible exact LeO.none _)
      | (with_reducible refine LeO.ite ?_ ?_)
      | (with_reducible refine LeO.bind ?_ (fun _ => ?_))
      | exact frame_Stuff.mono _ _
      | exact LeO.none _
      | refine LeO.ite ?_ ?_
      | refine LeO.bind ?_ (fun _ => ?_)
set_option maxHeartbeats 8000000 in
set_option maxRecDepth 100000 in
theorem pennantlaw04_awake.calls (k : Nat)  (r : Bool) (w : World) (h : pennantlaw04_awake.f k  = some r) :
    Calls Tryd.prog 22 #[] w fun e w' => e = .returned (.bool r) ∧ Below w.heap.size w w' := by
  have HB := Aside0.mk (Below.refl w.heap.size w)
  have H : ((frame_Stuff.f k (([7, 0, 8] : List Int))).bind fun t217 => (some ((strOfNums t217).toList == ([2, 7, 2, 8] : List UInt8)))) = some r := h
  clear h
  obtain ⟨y214, hy214⟩ : ∃ y_ : List Int, y_ = (([7, 0, 8] : List Int)) := ⟨_, rfl⟩
  replace H : ((frame_Stuff.f k y214).bind fun t217 => (some ((strOfNums t217).toList == ([2, 7, 2, 8] : List UInt8)))) = some r := by first | (rw [hy214]; with_reducible exact H) | (have H2_ := (Option.bind_some _ _).symm.trans H; rw [hy214]; with_reducible exact H2_) | (have H2_ := (Option.bind_some _ _).symm.trans H; with_reducible exact H2_) | with_reducible exact H | (rw [hy214]; exact H) | exact H
  have Ny214 := Aside0.mk hy214
  clear hy214
  replace H := Option.bind_eq_some_iff.mp H
  obtain ⟨t217, A10, H⟩ := H
  replace H : (some ((strOfNums t217).toList == ([2, 7, 2, 8] : List UInt8))) = some r := H
  have A1 := Aside0.mk A10
  clear A10
  obtain rfl := Option.some.inj H
  go_enter Tryd.func22, Tryd.ntmps22
  go_wp2_with (first | ((with_reducible refine gate_dst (N := 1) rfl ?_); refine Kd.R_lit (Kd.int .u8) _ 5 ?hg (N := 1) ?hd (xs := ([7, 0, 8] : List Int)) (inner := [.int .u8 7, .int .u8 0, .int .u8 8]) (ok := fun _ => True) (okp := fun _ => True) ?hr ?hp (fun _ hk => hk) trivial (Below.refl _ _) (Nat.le_refl _) (by simp) ?_; (case hd => rfl); (case hg => rfl); (case hr => first | (go_simp; done) | (go_simp; rfl)); (case hp => exact (Reps.one (show Kd.M (Kd.int .u8) _ _ _ 7 [.int .u8 7] from rfl) (Reps.one (show Kd.M (Kd.int .u8) _ _ _ 0 [.int .u8 0] from rfl) (Reps.one (show Kd.M (Kd.int .u8) _ _ _ 8 [.int .u8 8] from rfl) (Reps.none _ _))))); intro v215 w2 ho3 hb hg_ hnew_; clear hg_ hnew_; (first | rw [← Ny214.out] at ho3 | (simp only [Int.reduceToNat] at ho3; rw [← Ny214.out] at ho3)); have n0_ := Aside0.mk (Kd.R_lower ho3 (below_size (by repeat (first | (with_reducible first | exact HB.out | apply below_alloc | apply pw_below_drewN | apply below_drew1) | exact HB.out)))); have n1_ := Aside0.mk (below_step (by repeat (first | (with_reducible first | exact HB.out | apply below_alloc | apply pw_below_drewN | apply below_drew1) | exact HB.out)) hb); clear HB; have HO216 := n0_; have HB := n1_; clear n0_ n1_; clear hb ho3; obtain ⟨Ao4, co4, eo4⟩ := Kd.R_slice HO216.out; subst eo4) | ((with_reducible refine gate_callee (f := 30) rfl ?_); refine goesL_ (some 2) rfl rfl Tryd.func30 (by kernel_rfl) rfl #[.slice Ao4 y214.length co4] rfl (by (try simp only [List.map_toArray, List.map_cons, List.map_nil]); first | done | rfl | (simp only [List.length_drop, List.length_take]; rfl)) ?_; (with_reducible refine (frame_Stuff.calls k _ _ y214 t217 _ ?side1 ?side2 A1.out).mono ?_); (case side1 => repeat (first | exact (Kd.R_reads' HO216.out).2.2 | (with_reducible refine Kd.C_alloc ?_ _) | (with_reducible refine Kd.C_drewN ?_ _) | (with_reducible refine Kd.C_drew ?_))); (case side2 => exact (Kd.R_reads' HO216.out).2.1); rintro e w5 ⟨v218, rfl, ho0, hb⟩; refine ⟨_, rfl, ?_⟩; have n0_ := Aside0.mk (Kd.R_elder' (by (with_reducible repeat (first | apply Kd.R_alloc | apply Kd.R_drewN | apply Kd.R_drew)); exact HO216.out) (Kd.R_base ho0) hb); have n1_ := Aside0.mk (Kd.R_lower (Kd.R_new' ho0 (Kd.R_lt (by (with_reducible repeat (first | apply Kd.R_alloc | apply Kd.R_drewN | apply Kd.R_drew)); exact HO216.out))) (below_size (by repeat (first | (with_reducible first | exact HB.out | apply below_alloc | apply pw_below_drewN | apply below_drew1) | exact HB.out)))); have n2_ := Aside0.mk (below_step (by repeat (first | (with_reducible first | exact HB.out | apply below_alloc | apply pw_below_drewN | apply below_drew1) | exact HB.out)) hb); clear HO216; clear HB; have HO216 := n0_; have HO219 := n1_; have HB := n2_; clear n0_ n1_ n2_; (try clear hb); (try clear hb2); (try clear hk); (try clear hi); (try clear ho0); have hcv6 := own_string (P := Tryd.prog) Tryd.underlying23 Tryd.underlying5 Tryd.underlying9 (Kd.own_of_R HO219.out)))
  go_ret
  exact ⟨by first | rfl | (simp [errW_none, errW_some] <;> rfl) | (simp [*, errW_none, errW_some] <;> rfl), by repeat (first | (with_reducible first | exact HB.out | apply below_alloc | apply pw_below_drewN | apply below_drew1) | exact HB.out)⟩

/-- A state of type 56 at block g of W; what its slices lead to came in by w0. -/
def IsS56 (w0 W : World) (g : Nat) (f0 : List Int) (f1 : Bool) : Prop := ∃ A0 c0, W.heap[g]? = some (.cells #[.slice A0 f0.length c0, .bool f1] 56 (0, 0)) ∧ w0.heap.size ≤ g ∧ Kd.C (Kd.int .u8) w0 A0 f0.length f0
theorem IsS56.grown {w0 W : World} {g : Nat} {f0 : List Int} {f1 : Bool} {W1 : World} {row : Option Nat} (h : IsS56 w0 W g f0 f1) (hw : W.grownBy W1 row) (hne : some g ≠ row) : IsS56 w0 W1 g f0 f1 := by
  obtain ⟨A0, c0, hb, hg, hr0⟩ := h
  exact ⟨A0, c0, blk_grown hb hw hne, hg, hr0⟩
theorem IsS56.own_neN {w0 W : World} {g : Nat} {f0 : List Int} {f1 : Bool} {α : Type} {d : Kd α} {e : Nat} {base : Nat} {ok : Nat → Prop} {v : Value} {xs : List α} (h : IsS56 w0 W g f0 f1) (ho : Kd.N d e W base ok v xs) (ht : e ≠ 56) : some g ≠ v.ownBlock := by
  obtain ⟨A0, c0, hb, hg, hr0⟩ := h
  exact Kd.N_ne ho hb ht
theorem IsS56.fresh {w0 W : World} {g : Nat} {f0 : List Int} {f1 : Bool} (h : IsS56 w0 W g f0 f1) : ∀ k, W.heap.size ≤ k → k ≠ g := by
  obtain ⟨A0, c0, hb, hg, hr0⟩ := h
  exact Kd.freshB hb
theorem IsS56.kept {w0 W : World} {g : Nat} {f0 : List Int} {f1 : Bool} {W1 : World} {S : Nat → Prop} (h : IsS56 w0 W g f0 f1) (hk : Kept W W1 S) (hne : ¬ S g) : IsS56 w0 W1 g f0 f1 := by
  obtain ⟨A0, c0, hb, hg, hr0⟩ := h
  exact ⟨A0, c0, blk_kept hb hk hne, hg, hr0⟩
theorem IsS56.below {w0 W : World} {g : Nat} {f0 : List Int} {f1 : Bool} {W1 : World} (h : IsS56 w0 W g f0 f1) (hw : Below W.heap.size W W1) : IsS56 w0 W1 g f0 f1 := h.grown (grown_of_below hw none) (by simp)
theorem IsS56.alloc {w0 W : World} {g : Nat} {f0 : List Int} {f1 : Bool} (h : IsS56 w0 W g f0 f1) (o : Obj) : IsS56 w0 (W.alloc o) g f0 f1 := h.below (below_alloc (Below.refl _ _) o)
theorem IsS56.drewN {w0 W : World} {g : Nat} {f0 : List Int} {f1 : Bool} (h : IsS56 w0 W g f0 f1) (m : Nat) : IsS56 w0 (W.drewN m) g f0 f1 := h
theorem IsS56.drew {w0 W : World} {g : Nat} {f0 : List Int} {f1 : Bool} (h : IsS56 w0 W g f0 f1) : IsS56 w0 W.drew g f0 f1 := h
theorem IsS56.at_ {w0 W : World} {g : Nat} {f0 : List Int} {f1 : Bool} {w' : World} {m : Nat} (hq : W.drewN m = w') (h : IsS56 w0 W g f0 f1) : IsS56 w0 w' g f0 f1 := by subst hq; exact IsS56.drewN h m
theorem IsS56.apart {w0 W : World} {g : Nat} {f0 : List Int} {f1 : Bool} {α : Type} {d : Kd α} {e : Nat} {base : Nat} {ok : Nat → Prop} {v : Value} {xs : List α} (h : IsS56 w0 W g f0 f1) (ho : d.R e W base ok v xs) (ht : ∀ q, q ∈ e :: d.E → q ≠ 56) : d.R e W base (fun k => ok k ∧ k ≠ g) v xs := by
  obtain ⟨A0, c0, hb, hg, hr0⟩ := h
  exact Kd.R_types ho hb ht
theorem IsS56.own_ne {w0 W : World} {g : Nat} {f0 : List Int} {f1 : Bool} {α : Type} {d : Kd α} {e : Nat} {base : Nat} {ok : Nat → Prop} {v : Value} {xs : List α} (h : IsS56 w0 W g f0 f1) (ho : d.R e W base ok v xs) (ht : e ≠ 56) : some g ≠ v.ownBlock := by
  obtain ⟨A0, c0, hb, hg, hr0⟩ := h
  exact Kd.R_ne ho hb ht
theorem IsS56.apartQ {w0 W : World} {g : Nat} {f0 : List Int} {f1 : Bool} {α : Type} {d : Kd α} {e : Nat} {base : Nat} {ok : Nat → Prop} {v : Value} {xs : List α} (h : IsS56 w0 W g f0 f1) (ho : d.Q e W base ok v xs) (ht : ∀ q, q ∈ e :: d.E → q ≠ 56) : d.Q e W base (fun k => ok k ∧ k ≠ g) v xs := by
  obtain ⟨A0, c0, hb, hg, hr0⟩ := h
  exact Kd.Q_types ho hb ht
theorem IsS56.own_neQ {w0 W : World} {g : Nat} {f0 : List Int} {f1 : Bool} {α : Type} {d : Kd α} {e : Nat} {base : Nat} {ok : Nat → Prop} {v : Value} {xs : List α} (h : IsS56 w0 W g f0 f1) (ho : d.Q e W base ok v xs) (ht : e ≠ 56) : some g ≠ v.ownBlock := by
  obtain ⟨A0, c0, hb, hg, hr0⟩ := h
  exact Kd.Q_ne ho hb ht
theorem IsS56.apartS {w0 W : World} {g : Nat} {f0 : List Int} {f1 : Bool} {α : Type} {d : Kd α} {e : Nat} {base : Nat} {ok : Nat → Prop} {v : Value} {xs : List α} (h : IsS56 w0 W g f0 f1) (ho : d.S e W base ok v xs) (ht : ∀ q, q ∈ e :: d.E → q ≠ 56) : d.S e W base (fun k => ok k ∧ k ≠ g) v xs := by
  obtain ⟨A0, c0, hb, hg, hr0⟩ := h
  exact Kd.S_types ho hb ht
theorem IsS56.own_neS {w0 W : World} {g : Nat} {f0 : List Int} {f1 : Bool} {α : Type} {d : Kd α} {e : Nat} {base : Nat} {ok : Nat → Prop} {v : Value} {xs : List α} (h : IsS56 w0 W g f0 f1) (ho : d.S e W base ok v xs) (ht : e ≠ 56) : some g ≠ v.ownBlock := by
  obtain ⟨A0, c0, hb, hg, hr0⟩ := h
  exact Kd.S_ne ho hb ht
theorem IsS56.lt {w0 W : World} {g : Nat} {f0 : List Int} {f1 : Bool} (h : IsS56 w0 W g f0 f1) : g < W.heap.size := by
  obtain ⟨A0, c0, hb, hg, hr0⟩ := h
  exact blk_lt hb
theorem IsS56.ge {w0 W : World} {g : Nat} {f0 : List Int} {f1 : Bool} (h : IsS56 w0 W g f0 f1) : w0.heap.size ≤ g := by
  obtain ⟨A0, c0, hb, hg, hr0⟩ := h
  exact hg
theorem IsS56.ne_blk {w0 W : World} {g : Nat} {f0 : List Int} {f1 : Bool} {a : Nat} {cs : Array Value} {t : TypeId} {fr : Nat × Nat} (h : IsS56 w0 W g f0 f1) (hb2 : W.heap[a]? = some (.cells cs t fr)) (ht : t ≠ 56) : g ≠ a := by
  obtain ⟨A0, c0, hb, hg, hr0⟩ := h
  rintro rfl
  rw [hb] at hb2
  injection hb2 with hb2
  injection hb2 with _ ht2
  exact ht ht2.symm
theorem IsS56.far {w0 W : World} {g : Nat} {f0 : List Int} {f1 : Bool} {p : Addr} (h : IsS56 w0 W g f0 f1) (hne : g ≠ p.block) (u : Value) : IsS56 w0 (W.setCell p u) g f0 f1 := by
  obtain ⟨A0, c0, hb, hg, hr0⟩ := h
  exact ⟨A0, c0, blk_far hb hne u, hg, hr0⟩
theorem cellS56_0 {W : World} {g : Nat} {A0 : Option Addr} {c0 : Nat} {f0 : List Int} {f1 : Bool} (h : W.heap[g]? = some (.cells #[.slice A0 f0.length c0, .bool f1] 56 (0, 0))) : W.cell? ⟨g, 0, none⟩ = some (.slice A0 f0.length c0) := (blk_cell h 0).trans rfl
theorem cellS56_1 {W : World} {g : Nat} {A0 : Option Addr} {c0 : Nat} {f0 : List Int} {f1 : Bool} (h : W.heap[g]? = some (.cells #[.slice A0 f0.length c0, .bool f1] 56 (0, 0))) : W.cell? ⟨g, 1, none⟩ = some (.bool f1) := (blk_cell h 1).trans rfl
theorem IsS56.set_1 {w0 W : World} {g : Nat} {f0 : List Int} {f1 : Bool} (h : IsS56 w0 W g f0 f1) (x : Bool) : IsS56 w0 (W.setCell ⟨g, 1, none⟩ (.bool x)) g f0 x := by
  obtain ⟨A0, c0, hb, hg, hr0⟩ := h
  exact ⟨A0, c0, by simpa using blk_set hb 1 (.bool x), hg, hr0⟩
theorem IsS56.new (w0 W : World) (A0 : Option Addr) (c0 : Nat) (f0 : List Int) (f1 : Bool) (hB : Below w0.heap.size w0 W) (hr0 : Kd.C (Kd.int .u8) w0 A0 f0.length f0) : IsS56 w0 (W.alloc (.cells #[.slice A0 f0.length c0, .bool f1] 56)) W.heap.size f0 f1 := ⟨A0, c0, by simpa using heap_alloc_new W _, hB.size, hr0⟩

/-! ### frame_New: function 25 -/
def frame_New.f  : Option (List Int × Bool) := some (([] : List Int), false)
set_option maxHeartbeats 8000000 in
set_option maxRecDepth 100000 in
theorem frame_New.calls  (r1 : List Int) (r2 : Bool) (w0 w : World) (hB : Below w0.heap.size w0 w) (h : frame_New.f  = some (r1, r2)) :
    Calls Tryd.prog 25 #[] w fun e w' => ∃ g_ : Nat, e = .returned (.pointer (some ⟨g_, 0, none⟩)) ∧ IsS56 w0 w' g_ r1 r2 ∧ Below w0.heap.size w0 w' ∧ Below w.heap.size w w' := by
  have hu56 := Tryd.underlying56
  have HBW := Aside0.mk (Below.refl w.heap.size w)
  have HW0 := Aside0.mk hB.size
  have HB := Aside0.mk hB
  clear hB
  have H : (some (([] : List Int), false)) = some (r1, r2) := h
  clear h
  simp only [Option.some.injEq, Prod.mk.injEq] at H
  obtain ⟨rfl, rfl⟩ := H
  go_enter Tryd.func25, Tryd.ntmps25
  go_wp2_with (first | ((with_reducible refine gate_dst (N := 2) rfl ?_); refine box_event ?hg (N := 2) ?hd (cs := #[.slice none 0 0, .bool false]) (t := 56) ?hr ?_; (case hd => rfl); (case hg => rfl); (case hr => first | (go_simp; done) | (go_simp; rfl)); intro gb220 hg w1 hbox hb; have n0_ := Aside0.mk (below_step HBW.out hb); have n1_ := Aside0.mk (below_step (by repeat (first | (with_reducible first | exact HB.out | apply below_alloc | apply pw_below_drewN | apply below_drew1) | exact HB.out)) hb); have n2_ := Aside0.mk (hbox); have n3_ := Aside0.mk ((by rw [hg]; exact (below_size (by repeat (first | (with_reducible first | exact HBW.out | apply below_alloc | apply pw_below_drewN | apply below_drew1) | exact HBW.out))) : w.heap.size ≤ gb220)); have n4_ := Aside0.mk ((Nat.le_trans HW0.out (by rw [hg]; exact (below_size (by repeat (first | (with_reducible first | exact HBW.out | apply below_alloc | apply pw_below_drewN | apply below_drew1) | exact HBW.out))) : w.heap.size ≤ gb220) : w0.heap.size ≤ gb220)); clear HBW; clear HB; have HBW := n0_; have HB := n1_; have BK220 := n2_; have GW220 := n3_; have GE220 := n4_; clear n0_ n1_ n2_ n3_ n4_; clear hb hbox hg))
  go_ret
  exact ⟨_, rfl, (show IsS56 w0 _ gb220 ([] : List Int) false from ⟨none, 0, by (with_reducible repeat (first | refine blk_drewN ?_ _ | refine blk_drew ?_ | refine blk_alloc ?_ _)); exact BK220.out, GE220.out, (Kd.C_nil _ _)⟩), by repeat (first | (with_reducible first | exact HB.out | apply below_alloc | apply pw_below_drewN | apply below_drew1 | refine below_set ?_ GE220.out) | exact HB.out), by repeat (first | (with_reducible first | exact HBW.out | apply below_alloc | apply pw_below_drewN | apply below_drew1 | refine below_set ?_ GW220.out) | exact HBW.out)⟩

/-! ### crc_Add: function 16 -/
-- BY HAND: the loop over the bytes, the loop of two steps within, the table's cells out of TabOk
def crc_Add.f (k : Nat) (a0 : Int) (l1 : List Int) : Option (Int) := if 0 ≤ a0 ∧ a0 < 4294967296 ∧ ∀ c ∈ l1, 0 ≤ c ∧ c ≤ 255 then some (crcFold (bits .and .u32 a0 16777215) l1) else none
theorem crc_Add.mono : ∀ a0 a1 k, LeO (crc_Add.f k a0 a1) (crc_Add.f (k + 1) a0 a1) := fun _ _ _ => LeO.refl _
set_option maxHeartbeats 1600000 in
set_option maxRecDepth 100000 in
theorem crc_Add.calls (k : Nat) (a0 : Int) (A1 : Option Addr) (c1 : Nat) (l1 : List Int) (r : Int) (w : World) (hr1 : Kd.C (Kd.int .u8) w A1 l1.length l1) (hc1 : l1.length ≤ c1) (hT : TabOk w) (h : crc_Add.f k a0 l1 = some r) :
    Calls Tryd.prog 16 #[.int .u32 a0, .slice A1 l1.length c1] w fun e w' => e = .returned (.int .u32 r) ∧ Drawn0 w w' := by
  have hl : l1.length ≤ 9223372036854775807 := hr1.2.1
  have HR1 := Aside0.mk hr1
  have HT := Aside0.mk hT
  unfold crc_Add.f at h
  split at h
  case isFalse => cases h
  case isTrue hq =>
  obtain ⟨ha0, ha1, hb⟩ := hq
  have hm := crcMask_range a0 ha0 ha1
  obtain ⟨s0, hs0⟩ : ∃ s0, bits .and .u32 a0 16777215 = s0 := ⟨_, rfl⟩
  rw [hs0] at h hm
  obtain rfl := Option.some.inj h
  have HS0 := Aside0.mk hs0
  have HB := Aside0.mk hb
  clear hr1 hT hb h hc1 hs0 ha0 ha1
  obtain ⟨hm0, hm1⟩ := hm
  go_enter Tryd.func16, Tryd.ntmps16
  go_wp2
  go_loopg [5, 12] l1.length (fun kq v5 v12 w' => ∃ (i : Nat), v5 = .int .u32 (crcFold s0 (l1.take i)) ∧ v12 = .int .i64 i ∧ i ≤ l1.length ∧ l1.length - i ≤ kq ∧ Drawn0 w w')
  case atStart => exact ⟨0, by rw [HS0.out]; rfl, rfl, Nat.zero_le _, by omega, Drawn0.refl _⟩
  case round =>
    obtain ⟨i, rfl, rfl, hi, hk, ⟨m1, rfl⟩⟩ := hrel
    by_cases c : i < l1.length
    · have hlt : (i : Int) < (l1.length : Int) := by omega
      obtain ⟨ad, e, hx⟩ := Kd.at_int HR1.out i (by omega) hlt
      cases e
      have hrd : rd l1 i = l1[i] := by simp [rd, List.getD_eq_getElem?_getD, List.getElem?_eq_getElem c]
      have hcb := HB.out l1[i] (List.getElem_mem c)
      have hsr := crcFold_range (l1.take i) s0 hm0 hm1 (fun x hx => HB.out x (List.mem_of_mem_take hx))
      have hnx : crcFold s0 (l1.take (i + 1)) = crcByte (crcFold s0 (l1.take i)) l1[i] := crcFold_take s0 l1 i c
      obtain ⟨cc, hcc⟩ : ∃ cc, l1[i] = cc := ⟨_, rfl⟩
      obtain ⟨s, hs⟩ : ∃ s, crcFold s0 (l1.take i) = s := ⟨_, rfl⟩
      obtain ⟨s', hs'⟩ : ∃ s, crcFold s0 (l1.take (i + 1)) = s := ⟨_, rfl⟩
      rw [Int.toNat_natCast] at hx
      rw [hrd] at hx
      rw [hcc] at hx hcb hnx
      rw [hs] at hsr hnx ⊢
      rw [hs'] at hnx
      have hmr := crcMix_range s cc hsr.1 hsr.2 hcb.1 hcb.2
      obtain ⟨hb0, hb1⟩ := hcb
      obtain ⟨hsr0, hsr1⟩ := hsr
      have HN := Aside0.mk hnx
      have HS' := Aside0.mk hs'
      clear hcc hs hrd hnx hs'
      go_wp2
      go_loopg [5, 21] 2 (fun kq v5 v21 w' => ∃ (j : Nat), v5 = .int .u32 (crcNibs (crcMix s cc) j) ∧ v21 = .int .i64 j ∧ j ≤ 2 ∧ 2 - j ≤ kq ∧ Drawn0 w w')
      case atStart => exact ⟨0, rfl, rfl, by omega, by omega, ⟨m1, rfl⟩⟩
      case round =>
        obtain ⟨j, rfl, rfl, hj, hk2, ⟨m2, rfl⟩⟩ := hrel
        by_cases c2 : j < 2
        · have hq := crcNibs_range (crcMix s cc) hmr.1 hmr.2 j
          obtain ⟨s2, hs2⟩ : ∃ s2, crcNibs (crcMix s cc) j = s2 := ⟨_, rfl⟩
          have hs3 : crcNibs (crcMix s cc) (j + 1) = crcNib s2 := by rw [← hs2]; rfl
          rw [hs2] at hq ⊢
          have HS3 := Aside0.mk hs3
          clear hs2 hs3
          obtain ⟨hq0, hq1⟩ := hq
          have ht := HT.out (s2 / 1048576).toNat (by omega)
          go_wp2
          go_roundg (2 - (j + 1))
          case rel => exact ⟨j + 1, by rw [HS3.out]; rfl, by go_num, by omega, by omega, ⟨m2, rfl⟩⟩
          case measure => omega
        · obtain rfl : j = 2 := by omega
          have hs3 : crcNibs (crcMix s cc) 2 = s' := by rw [HN.out]; rfl
          rw [hs3]
          clear hs3
          go_wp2
          go_roundg (l1.length - (i + 1))
          case rel => exact ⟨i + 1, by rw [HS'.out], by go_num, by omega, by omega, ⟨m2, rfl⟩⟩
          case measure => omega
    · obtain rfl : i = l1.length := by omega
      rw [List.take_length]
      go_wp2
      go_ret
      exact ⟨rfl, ⟨m1, rfl⟩⟩

/-! ### crc_Sum: function 14 -/
def crc_Sum.f (k : Nat) (l0 : List Int) : Option (Int) := (crc_Add.f k 11994318 l0).bind fun t222 => (some t222)
theorem crc_Sum.mono : ∀ a0 k, LeO (crc_Sum.f k a0) (crc_Sum.f (k + 1) a0) := by
  intro a0 k
  unfold crc_Sum.f
  repeat' first
      | (with_reducible exact crc_Add.mono _ _ _)
      | (with_reducible exact LeO.refl _)
      | (with_reducible exact LeO.none _)
      | (with_reducible refine LeO.ite ?_ ?_)
      | (with_reducible refine LeO.bind ?_ (fun _ => ?_))
      | exact crc_Add.mono _ _ _
      | exact LeO.none _
      | refine LeO.ite ?_ ?_
      | refine LeO.bind ?_ (fun _ => ?_)
set_option maxHeartbeats 8000000 in
set_option maxRecDepth 100000 in
theorem crc_Sum.calls (k : Nat) (A0 : Option Addr) (c0 : Nat) (l0 : List Int) (r : Int) (w : World) (hr0 : Kd.C (Kd.int .u8) w A0 l0.length l0) (hc0 : l0.length ≤ c0) (hT : TabOk w) (h : crc_Sum.f k l0 = some r) :
    Calls Tryd.prog 14 #[.slice A0 l0.length c0] w fun e w' => e = .returned (.int .u32 r) ∧ Drawn0 w w' := by
  have HT := Aside0.mk hT
  clear hT
  have HR0 := Aside0.mk hr0
  have HC0 := Aside0.mk hc0
  clear hr0 hc0
  have H : ((crc_Add.f k 11994318 l0).bind fun t222 => (some t222)) = some r := h
  clear h
  replace H := Option.bind_eq_some_iff.mp H
  obtain ⟨t222, A20, H⟩ := H
  replace H : (some t222) = some r := H
  have A2 := Aside0.mk A20
  clear A20
  obtain rfl := Option.some.inj H
  go_enter Tryd.func14, Tryd.ntmps14
  go_wp2_with (first | ((with_reducible refine gate_callee (f := 16) rfl ?_); refine goesL_ (some 4) rfl rfl Tryd.func16 (by kernel_rfl) rfl #[.int .u32 11994318, .slice A0 l0.length c0] rfl (by (try simp only [List.map_toArray, List.map_cons, List.map_nil]); first | done | rfl | (simp only [List.length_drop, List.length_take]; rfl)) ?_; (with_reducible refine (crc_Add.calls k 11994318 _ _ l0 t222 _ ?side1 ?side2 ?sideT A2.out).mono ?_); (case sideT => first | exact HT.out | (with_reducible refine TabOk.drewN ?_ _; exact HT.out) | exact HT.out.below (by repeat (first | (with_reducible first | exact HB.out | apply below_alloc | apply pw_below_drewN | apply below_drew1) | exact HB.out)) | exact HT.out.below (by repeat (first | (with_reducible first | exact HBW.out | apply below_alloc | apply pw_below_drewN | apply below_drew1) | exact HBW.out))); (case side1 => repeat (first | exact HR0.out | (with_reducible refine Kd.C_alloc ?_ _) | (with_reducible refine Kd.C_drewN ?_ _) | (with_reducible refine Kd.C_drew ?_))); (case side2 => exact HC0.out); rintro e w' ⟨rfl, ⟨nd, rfl⟩⟩; refine ⟨_, rfl, ?_⟩))
  go_ret
  exact ⟨by first | rfl | (simp; done) | (simp [*]; done), by repeat (first | exact Drawn0.refl _ | apply Drawn0.step)⟩

/-! ### crc_Open: function 18 -/
-- BY HAND: the guarded test, the cut
def crc_Open.f (k : Nat) (l0 : List Int) : Option (List Int × Bool) := if l0.length < 3 then some ([], false) else (crc_Sum.f k l0).bind fun t => if t = 0 then (if l0.length < 140737488355328 then some (l0.take (l0.length - 3), true) else none) else some ([], false)
theorem crc_Open.mono : ∀ a0 k, LeO (crc_Open.f k a0) (crc_Open.f (k + 1) a0) := by
  intro a0 k
  exact LeO.ite (LeO.refl _) (LeO.bind (crc_Sum.mono a0 k) (fun _ => LeO.refl _))
set_option maxHeartbeats 1600000 in
set_option maxRecDepth 100000 in
theorem crc_Open.calls (k : Nat) (A0 : Option Addr) (c0 : Nat) (l0 : List Int) (r1 : List Int) (r2 : Bool) (w : World) (hr0 : Kd.C (Kd.int .u8) w A0 l0.length l0) (hc0 : l0.length ≤ c0) (hT : TabOk w) (h : crc_Open.f k l0 = some (r1, r2)) :
    Calls Tryd.prog 18 #[.slice A0 l0.length c0] w fun e w' => ∃ v0_ : Value, e = .returned (.tuple #[v0_, .bool r2]) ∧ Kd.R (Kd.int .u8) 5 w' w.heap.size (fun _ => True) v0_ r1 ∧ Below w.heap.size w w' := by
  have hl : l0.length ≤ 9223372036854775807 := hr0.2.1
  unfold crc_Open.f at h
  by_cases c : l0.length < 3
  · rw [if_pos c] at h
    simp only [Option.some.injEq, Prod.mk.injEq] at h
    obtain ⟨rfl, rfl⟩ := h
    have hd : decide ((l0.length : Int) - 3 < 0) = true := decide_eq_true (by omega)
    have hi : (l0.length : Int) - 3 < 0 := by omega
    clear hr0 hT
    go_enter Tryd.func18, Tryd.ntmps18
    go_wp2
    go_ret2
    exact ⟨_, rfl, Kd.R_nil _ _ _ _ _, Below.refl _ _⟩
  · rw [if_neg c] at h
    obtain ⟨t, hs, h⟩ := Option.bind_eq_some_iff.1 h
    have HS := Aside0.mk (crc_Sum.calls k A0 c0 l0 t w hr0 hc0 hT hs)
    have HR0 := Aside0.mk hr0
    have hd : ¬ (l0.length : Int) - 3 < 0 := by omega
    have hd2 : decide ((l0.length : Int) - 3 < 0) = false := decide_eq_false (by omega)
    have HB := Aside0.mk (Below.refl w.heap.size w)
    by_cases c2 : t = 0
    · rw [if_pos c2] at h
      split at h
      case isFalse => cases h
      case isTrue c3 =>
      subst c2
      simp only [Option.some.injEq, Prod.mk.injEq] at h
      obtain ⟨h1, rfl⟩ := h
      have H1 := Aside0.mk h1
      obtain ⟨i09, hi09, _, hsz9, _⟩ := info_parts info5
      obtain ⟨hcut, hA, hC⟩ := print_take_of (P := Tryd.prog) (Value.int .u8) 0 23 5 .i64 Tryd.underlying23 hi09 hsz9 A0 c0 l0 ((l0.length : Int) - 3) (by omega) (by omega) hc0
      have e3 : ((l0.length : Int) - 3).toNat = l0.length - 3 := by omega
      rw [e3, h1] at hcut hA hC
      have HR1 := Aside0.mk (Kd.C_of_reads (h1 := fun _ => rfl) (hA _ (Kd.reads_of_C HR0.out)))
      have hr1 : r1.length ≤ 140737488355328 := by rw [← h1, List.length_take]; omega
      clear hr0 hT hs h1 hA hC hi09 hsz9 e3
      go_enter Tryd.func18, Tryd.ntmps18
      go_wp2_with (first
        | (go_at_call 14; refine HS.out.mono ?_; rintro e w' ⟨rfl, ⟨nd, rfl⟩⟩)
        | ((with_reducible refine gate_dst (N := 15) rfl ?_); refine Kd.R_lit (Kd.int .u8) _ 5 ?hg (N := 15) ?hd (xs := ([] : List Int)) (inner := []) (ok := fun _ => True) (okp := fun _ => True) ?hr ?hp (fun _ hk => hk) trivial (Below.refl _ _) (Nat.le_refl _) (by simp) ?_; (case hd => rfl); (case hg => rfl); (case hr => first | (go_simp; done) | (go_simp; rfl)); (case hp => exact (Reps.none _ _)); intro v145 w9 ho10 hb hg_ hnew_; clear hg_ hnew_; have n0_ := Aside0.mk (Kd.R_lower ho10 (below_size (pw_below_drewN HB.out _))); have n1_ := Aside0.mk (below_step (pw_below_drewN HB.out _) hb); clear HB; have HO1 := n0_; have HB := n1_; clear n0_ n1_; clear hb ho10; obtain ⟨Av1, cv1, ev1⟩ := Kd.R_slice HO1.out; subst ev1)
        | ((with_reducible refine gate_builtin (b := .append) (xs := #[.tmp 15, .tmp 18]) rfl ?_); at_builtin; refine Kd.R_append_rows (Kd.int .u8) (w0 := w) w.heap.size rfl (.tmp 15) (.tmp 18) 23 5 (.int .u8 0) 1 rfl Tryd.underlying23 info5 rfl (by decide) (by omega) _ [] r1 _ _ _ (fun _ => True) (fun _ => False) rfl rfl HO1.out (Kd.C_below HR1.out HB.out) (fun _ _ h => h) (fun _ h => h.elim) (fun _ _ => trivial) HB.out HB.out.size (by simp; omega) ?_; intro v2 w2 ho hb hg hat; have HO2 := Aside0.mk ho; clear HB HO1; have HB := Aside0.mk hb; clear ho hb hg hat))
      go_ret2
      exact ⟨_, rfl, Kd.R_mono HO2.out (fun _ _ => trivial), HB.out⟩
    · rw [if_neg c2] at h
      simp only [Option.some.injEq, Prod.mk.injEq] at h
      obtain ⟨rfl, rfl⟩ := h
      have c2b : (t == 0) = false := beq_eq_false_iff_ne.mpr c2
      have c2c : (t != 0) = true := bne_iff_ne.mpr c2
      clear hr0 hT hs c2
      go_enter Tryd.func18, Tryd.ntmps18
      go_wp2_with (go_at_call 14; refine HS.out.mono ?_; rintro e w' ⟨rfl, ⟨nd, rfl⟩⟩)
      go_ret2
      exact ⟨_, rfl, Kd.R_nil _ _ _ _ _, pw_below_drewN HB.out _⟩

-- NOT PRINTED: function 39 (bytealg_IndexByte)

-- NOT PRINTED: function 38 (bytes_IndexByte)

/-! ### frame_Plain: function 35 -/
-- BY HAND: frame_Plain, from the texts Plain, RefPlain
def frame_Plain.f (k : Nat) (l0 : List Int) : Option (List Int × Int) := if l0.length < 400000 ∧ (∀ c ∈ l0, 0 ≤ c ∧ c ≤ 255) then some (plainF l0) else none
theorem frame_Plain.mono : ∀ a0 k, LeO (frame_Plain.f k a0) (frame_Plain.f (k + 1) a0) := fun _ _ => LeO.refl _
theorem frame_Plain.calls (k : Nat) (P0_ : Nat → Prop) (A0 : Option Addr) (c0 : Nat) (l0 : List Int) (r1 : List Int) (r2 : Int) (w : World) (hs0 : Kd.V (Kd.int .u8) 5 w w.heap.size (fun k_ => P0_ k_) (.slice A0 l0.length c0) l0) (h : frame_Plain.f k l0 = some (r1, r2)) :
    Calls Tryd.prog 35 #[.slice A0 l0.length c0] w fun e w' => ∃ v0_ : Value, e = .returned (.tuple #[v0_, .int .i64 r2]) ∧ Kd.R (Kd.int .u8) 5 w' w.heap.size (fun k_ => (w.heap.size ≤ k_)) v0_ r1 ∧ Below w.heap.size w w' := by
  unfold frame_Plain.f at h
  split at h
  case isFalse => cases h
  case isTrue hq =>
  have hr := Kd.V_reads' hs0
  have e := Option.some.inj h
  refine (framePlain_calls A0 c0 l0 w hr.2.2 hr.2.1 (by omega) hq.2).mono ?_
  rintro e1 w' ⟨v, he, hR, hb⟩
  rw [e] at he hR
  exact ⟨v, he, Kd.R_mono (Kd.R_bound hR) (fun k hk => hk.2.1), hb⟩

-- NOT PRINTED: function 32 (frame_Reader_end)

-- NOT PRINTED: function 26 (frame_Reader_Feed)

/-! ### pennantref02_Open: function 19 -/
-- BY HAND: the test over two strings draws its order
def pennantref02_Open.f (k : Nat) (l0 : List Int) : Option (List Int × Bool) := if l0.length < 3 then some ([], false) else (pennantref02_Seal.f k (l0.take (l0.length - 3))).bind fun t => if (strOfNums t).toList = (strOfNums l0).toList then (if l0.length < 140737488355328 then some (l0.take (l0.length - 3), true) else none) else some ([], false)
theorem pennantref02_Open.mono : ∀ a0 k, LeO (pennantref02_Open.f k a0) (pennantref02_Open.f (k + 1) a0) := by
  intro a0 k
  exact LeO.ite (LeO.refl _) (LeO.bind (pennantref02_Seal.mono _ k) (fun _ => LeO.refl _))
theorem below_undrew {w w1 : World} (h : Below w.drew.heap.size w.drew w1) : Below w.heap.size w w1 := ⟨h.os, h.tape, h.output, h.size, h.block⟩
set_option maxHeartbeats 1600000 in
set_option maxRecDepth 100000 in
theorem pennantref02_Open.calls (k : Nat) (A0 : Option Addr) (c0 : Nat) (l0 : List Int) (r1 : List Int) (r2 : Bool) (w : World) (hr0 : Kd.C (Kd.int .u8) w A0 l0.length l0) (hc0 : l0.length ≤ c0) (h : pennantref02_Open.f k l0 = some (r1, r2)) :
    Calls Tryd.prog 19 #[.slice A0 l0.length c0] w fun e w' => ∃ v0_ : Value, e = .returned (.tuple #[v0_, .bool r2]) ∧ Kd.R (Kd.int .u8) 5 w' w.heap.size (fun _ => True) v0_ r1 ∧ Below w.heap.size w w' := by
  have hl : l0.length ≤ 9223372036854775807 := hr0.2.1
  unfold pennantref02_Open.f at h
  by_cases c : l0.length < 3
  · rw [if_pos c] at h
    simp only [Option.some.injEq, Prod.mk.injEq] at h
    obtain ⟨rfl, rfl⟩ := h
    have hi : (l0.length : Int) < 3 := by omega
    clear hr0
    go_enter Tryd.func19, Tryd.ntmps19
    go_wp2
    go_ret2
    exact ⟨_, rfl, Kd.R_nil _ _ _ _ _, Below.refl _ _⟩
  · rw [if_neg c] at h
    obtain ⟨t, hs, h⟩ := Option.bind_eq_some_iff.1 h
    have hd2 : decide ((l0.length : Int) < 3) = false := decide_eq_false (by omega)
    have hd3 : ¬ (l0.length : Int) < 3 := by omega
    obtain ⟨i09, hi09, _, hsz9, _⟩ := info_parts info5
    obtain ⟨hcut, hA, hC⟩ := print_take_of (P := Tryd.prog) (Value.int .u8) 0 23 5 .i64 Tryd.underlying23 hi09 hsz9 A0 c0 l0 ((l0.length : Int) - 3) (by omega) (by omega) hc0
    have e3 : ((l0.length : Int) - 3).toNat = l0.length - 3 := by omega
    rw [e3] at hcut hA hC
    have hq2 : (l0.take (l0.length - 3)).length ≤ l0.length := by rw [List.length_take]; omega
    obtain ⟨q, hq⟩ : ∃ q, l0.take (l0.length - 3) = q := ⟨_, rfl⟩
    rw [hq] at hcut hA hC hs h hq2
    have HR0 := Aside0.mk hr0
    have HR1 := Aside0.mk (Kd.C_of_reads (h1 := fun _ => rfl) (hA _ (Kd.reads_of_C hr0)))
    have HS := Aside0.mk (fun (w1 : World) (hb : Below w.heap.size w w1) => pennantref02_Seal.calls k A0 c0 q t w1 (Kd.C_below HR1.out hb) hC hs)
    have HCV := Aside0.mk (fun (W : World) (h : Kd.C (Kd.int .u8) W A0 l0.length l0) => Kd.C_string (P := Tryd.prog) (src := 23) (dst := 9) (e := 5) (c := c0) Tryd.underlying23 Tryd.underlying5 Tryd.underlying9 h)
    have h0 := HCV.out w.drew hr0
    clear hr0 hA hC hi09 hsz9 e3 hq hs
    by_cases c2 : (strOfNums t).toList = (strOfNums l0).toList
    · rw [if_pos c2] at h
      split at h
      case isFalse => cases h
      case isTrue c3 =>
      simp only [Option.some.injEq, Prod.mk.injEq] at h
      obtain ⟨rfl, rfl⟩ := h
      have hn1 : ((strOfNums t).toList == (strOfNums l0).toList) = true := beq_iff_eq.mpr c2
      have hn2 : ((strOfNums t).toList != (strOfNums l0).toList) = false := bne_eq_false_iff_eq.mpr c2
      clear c2
      go_enter Tryd.func19, Tryd.ntmps19
      go_wp2
      go_region_with (go_at_call 21; refine (HS.out _ ((Below.refl _ _).drew)).mono ?_; rintro e w1 ⟨v0, rfl, hR, hb0⟩; have hb := below_undrew hb0; clear hb0; have h1 := HCV.out w1 (Kd.C_below HR0.out hb); obtain ⟨Av1, cv1, ev1⟩ := Kd.R_slice hR; subst ev1; have h2 := Kd.C_string (P := Tryd.prog) (src := 23) (dst := 9) (e := 5) (c := cv1) Tryd.underlying23 Tryd.underlying5 Tryd.underlying9 (Kd.R_reads' hR).2.2; have HB := Aside0.mk hb; clear hb hR)
      all_goals go_wp2_with (first
        | ((with_reducible refine gate_dst (N := 19) rfl ?_); refine Kd.R_lit (Kd.int .u8) _ 5 ?hg (N := 19) ?hd (xs := ([] : List Int)) (inner := []) (ok := fun _ => True) (okp := fun _ => True) ?hr ?hp (fun _ hk => hk) trivial (Below.refl _ _) (Nat.le_refl _) (by simp) ?_; (case hd => rfl); (case hg => rfl); (case hr => first | (go_simp; done) | (go_simp; rfl)); (case hp => exact (Reps.none _ _)); intro v145 w9 ho10 hb hg_ hnew_; clear hg_ hnew_; have n0_ := Aside0.mk (Kd.R_lower ho10 (below_size HB.out)); have n1_ := Aside0.mk (below_step HB.out hb); clear HB; have HO1 := n0_; have HB := n1_; clear n0_ n1_; clear hb ho10; obtain ⟨Av1, cv1, ev1⟩ := Kd.R_slice HO1.out; subst ev1)
        | ((with_reducible refine gate_builtin (b := .append) (xs := #[.tmp 19, .tmp 20]) rfl ?_); at_builtin; refine Kd.R_append_rows (Kd.int .u8) (w0 := w) w.heap.size rfl (.tmp 19) (.tmp 20) 23 5 (.int .u8 0) 1 rfl Tryd.underlying23 info5 rfl (by decide) (by omega) _ [] q _ _ _ (fun _ => True) (fun _ => False) rfl rfl HO1.out (Kd.C_below HR1.out HB.out) (fun _ _ h => h) (fun _ h => h.elim) (fun _ _ => trivial) HB.out HB.out.size (by simp; omega) ?_; intro v2 w2 ho hb hg hat; have HO2 := Aside0.mk ho; clear HB HO1; have HB := Aside0.mk hb; clear ho hb hg hat))
      all_goals go_ret2
      all_goals exact ⟨_, rfl, Kd.R_mono HO2.out (fun _ _ => trivial), HB.out⟩
    · rw [if_neg c2] at h
      simp only [Option.some.injEq, Prod.mk.injEq] at h
      obtain ⟨rfl, rfl⟩ := h
      have hn1 : ((strOfNums t).toList == (strOfNums l0).toList) = false := beq_eq_false_iff_ne.mpr c2
      have hn2 : ((strOfNums t).toList != (strOfNums l0).toList) = true := bne_iff_ne.mpr c2
      clear c2
      go_enter Tryd.func19, Tryd.ntmps19
      go_wp2
      go_region_with (go_at_call 21; refine (HS.out _ ((Below.refl _ _).drew)).mono ?_; rintro e w1 ⟨v0, rfl, hR, hb0⟩; have hb := below_undrew hb0; clear hb0; have h1 := HCV.out w1 (Kd.C_below HR0.out hb); obtain ⟨Av1, cv1, ev1⟩ := Kd.R_slice hR; subst ev1; have h2 := Kd.C_string (P := Tryd.prog) (src := 23) (dst := 9) (e := 5) (c := cv1) Tryd.underlying23 Tryd.underlying5 Tryd.underlying9 (Kd.R_reads' hR).2.2; have HB := Aside0.mk hb; clear hb hR)
      all_goals go_wp2
      all_goals go_ret2
      all_goals exact ⟨_, rfl, Kd.R_nil _ _ _ _ _, HB.out⟩

/-! ### pennantref04_Plain: function 33 -/
-- BY HAND: pennantref04_Plain, from the texts Plain, RefPlain
def pennantref04_Plain.f (k : Nat) (l0 : List Int) : Option (List Int × Int) := if l0.length < 400000 ∧ (∀ c ∈ l0, 0 ≤ c ∧ c ≤ 255) then some (plainR l0) else none
theorem pennantref04_Plain.mono : ∀ a0 k, LeO (pennantref04_Plain.f k a0) (pennantref04_Plain.f (k + 1) a0) := fun _ _ => LeO.refl _
theorem pennantref04_Plain.calls (k : Nat) (P0_ : Nat → Prop) (A0 : Option Addr) (c0 : Nat) (l0 : List Int) (r1 : List Int) (r2 : Int) (w : World) (hs0 : Kd.V (Kd.int .u8) 5 w w.heap.size (fun k_ => P0_ k_) (.slice A0 l0.length c0) l0) (h : pennantref04_Plain.f k l0 = some (r1, r2)) :
    Calls Tryd.prog 33 #[.slice A0 l0.length c0] w fun e w' => ∃ v0_ : Value, e = .returned (.tuple #[v0_, .int .i64 r2]) ∧ Kd.R (Kd.int .u8) 5 w' w.heap.size (fun k_ => (w.heap.size ≤ k_)) v0_ r1 ∧ Below w.heap.size w w' := by
  unfold pennantref04_Plain.f at h
  split at h
  case isFalse => cases h
  case isTrue hq =>
  have hr := Kd.V_reads' hs0
  have e := Option.some.inj h
  refine (refPlain_calls A0 c0 l0 w hr.2.2 hr.2.1 (by omega) hq.2).mono ?_
  rintro e1 w' ⟨v, he, hR, hb⟩
  rw [e] at he hR
  exact ⟨v, he, Kd.R_mono (Kd.R_bound hR) (fun k hk => hk.2.1), hb⟩

-- NOT PRINTED: function 27 (pennantref04_Reader_Feed)

/-! ### pennantref04_Same: function 28 -/
-- BY HAND: the test over two strings draws its order
def bytesAll (l : List (List Int)) : Prop := ∀ x ∈ l, ∀ c ∈ x, 0 ≤ c ∧ c ≤ 255
instance (l : List (List Int)) : Decidable (bytesAll l) := by unfold bytesAll; infer_instance
def pennantref04_Same.f (k : Nat) (l0 l1 : List (List Int)) : Option Bool := if bytesAll l0 ∧ bytesAll l1 then some (decide (l0 = l1)) else none
theorem pennantref04_Same.mono : ∀ a0 a1 k, LeO (pennantref04_Same.f k a0 a1) (pennantref04_Same.f (k + 1) a0 a1) := fun _ _ _ => LeO.refl _
theorem same_at {l : List (List Int)} (hb : bytesAll l) {n : Nat} (hn : n < l.length) : ∀ c ∈ rd_L1 l (n : Int), 0 ≤ c ∧ c ≤ 255 := by
  have e : rd_L1 l (n : Int) = l[n] := by simp [rd_L1, List.getD_eq_getElem?_getD, hn]
  rw [e]
  exact hb _ (List.getElem_mem hn)
theorem same_ne {l0 l1 : List (List Int)} {n : Nat} (h : rd_L1 l0 (n : Int) ≠ rd_L1 l1 (n : Int)) : l0 ≠ l1 := fun e => h (by rw [e])
theorem same_eq {l0 l1 : List (List Int)} (hl : l0.length = l1.length) (h : ∀ j : Nat, j < l0.length → rd_L1 l0 (j : Int) = rd_L1 l1 (j : Int)) : l0 = l1 := by
  apply List.ext_getElem hl
  intro i h1 h2
  have := h i h1
  simpa [rd_L1, List.getD_eq_getElem?_getD, h1, h2] using this
theorem drawn_C {w W : World} {A : Option Addr} {n : Nat} {xs : List Int} (h : Kd.C (Kd.int .u8) w A n xs) (hd : Drawn0 w W) : Kd.C (Kd.int .u8) W A n xs := Kd.C_below h hd.below
theorem drawn_cell {w W : World} {a : Addr} {v : Value} (h : w.cell? a = some v) (hd : Drawn0 w W) : W.cell? a = some v := pw_cell_below hd.below h
theorem drawn_drew {w W : World} (hd : Drawn0 w W) : Drawn0 w W.drew := by
  obtain ⟨n, rfl⟩ := hd.out
  exact ⟨n + 1, rfl⟩
set_option maxHeartbeats 2000000 in
set_option maxRecDepth 100000 in
theorem pennantref04_Same.calls (k : Nat) (A0 : Option Addr) (c0 : Nat) (l0 : List (List Int)) (A1 : Option Addr) (c1 : Nat) (l1 : List (List Int)) (r : Bool) (w : World) (hr0 : Kd.C (Kd.slice 5 (Kd.int .u8)) w A0 l0.length l0) (hc0 : l0.length ≤ c0) (hr1 : Kd.C (Kd.slice 5 (Kd.int .u8)) w A1 l1.length l1) (hc1 : l1.length ≤ c1) (h : pennantref04_Same.f k l0 l1 = some r) :
    Calls Tryd.prog 28 #[.slice A0 l0.length c0, .slice A1 l1.length c1] w fun e w' => e = .returned (.bool r) ∧ Drawn0 w w' := by
  unfold pennantref04_Same.f at h
  split at h
  case isFalse => cases h
  case isTrue hq =>
  have h := Option.some.inj h
  have hl0 : l0.length ≤ 9223372036854775807 := hr0.2.1
  have HR0 := Aside0.mk hr0
  have HR1 := Aside0.mk hr1
  have HQ := Aside0.mk hq
  have HR := Aside0.mk h
  clear hr0 hr1 hq h
  by_cases hl : l0.length = l1.length
  · have hd1 : ((l0.length : Int) != (l1.length : Int)) = false := by simp [hl]
    have hd2 : ((l0.length : Int) == (l1.length : Int)) = true := by simp [hl]
    go_enter Tryd.func28, Tryd.ntmps28
    go_wp2
    go_loopw [5] (fun v5 wr => ∃ n : Nat, v5 = .int .i64 (n : Int) ∧ n ≤ l0.length ∧ (∀ j : Nat, j < n → rd_L1 l0 (j : Int) = rd_L1 l1 (j : Int)) ∧ Drawn0 w wr) (fun v5 wr => l0.length - (intOf v5).toNat)
    case atStart => exact ⟨0, rfl, Nat.zero_le _, fun j hj => absurd hj (Nat.not_lt_zero _), Drawn0.refl _⟩
    case round =>
      obtain ⟨n, rfl, hn, hall, hdr⟩ := hrel
      have HALL := Aside0.mk hall
      have HDR := Aside0.mk hdr
      clear hall hdr
      by_cases hlt : n < l0.length
      · obtain ⟨ad0, B0, d0, rfl, hx0, _, hi0⟩ := at_L1 HR0.out (n : Int) (by omega) (by omega)
        obtain ⟨ad1, B1, d1, rfl, hx1, _, hi1⟩ := at_L1 HR1.out (n : Int) (by omega) (by omega)
        rw [Int.toNat_natCast] at hx0 hx1
        have s0 := pl_str_iff _ _ (same_at HQ.out.1 hlt) (same_at HQ.out.2 (hl ▸ hlt))
        have HS := Aside0.mk s0
        have hcv0 := Kd.C_string (P := Tryd.prog) (src := 23) (dst := 9) (e := 5) (c := d0) Tryd.underlying23 Tryd.underlying5 Tryd.underlying9 (drawn_C hi0 (drawn_drew HDR.out))
        have hcv1 := Kd.C_string (P := Tryd.prog) (src := 23) (dst := 9) (e := 5) (c := d1) Tryd.underlying23 Tryd.underlying5 Tryd.underlying9 (drawn_C hi1 (drawn_drew HDR.out))
        have hy0 := drawn_cell hx0 (drawn_drew HDR.out)
        have hy1 := drawn_cell hx1 (drawn_drew HDR.out)
        have HRN := Aside0.mk (show rd_L1 l0 (n : Int) = rd_L1 l1 (n : Int) → ∀ j : Nat, j < n + 1 → rd_L1 l0 (j : Int) = rd_L1 l1 (j : Int) from fun he j hj => by
          rcases Nat.lt_or_eq_of_le (Nat.lt_succ_iff.1 hj) with h | rfl
          · exact HALL.out j h
          · exact he)
        have HNE := Aside0.mk (fun hne : rd_L1 l0 (n : Int) ≠ rd_L1 l1 (n : Int) => same_ne hne)
        have hlt1 : n < l1.length := by omega
        clear hi0 hi1 hx0 hx1 s0
        obtain ⟨a, ha⟩ : ∃ a, rd_L1 l0 (n : Int) = a := ⟨_, rfl⟩
        obtain ⟨b, hb⟩ : ∃ b, rd_L1 l1 (n : Int) = b := ⟨_, rfl⟩
        rw [ha] at hy0 hcv0 HS HRN HNE
        rw [hb] at hy1 hcv1 HS HRN HNE
        clear ha hb
        by_cases he : a = b
        · have hn1 : ((strOfNums a).toList == (strOfNums b).toList) = true := beq_iff_eq.mpr (HS.out.2 he)
          have hn2 : ((strOfNums a).toList != (strOfNums b).toList) = false := bne_eq_false_iff_eq.mpr (HS.out.2 he)
          have HN := Aside0.mk (HRN.out he)
          clear he
          go_wp2
          go_region
          go_wp2
          go_roundw
          case rel => exact ⟨n + 1, by simp, by omega, HN.out, drawn_drew HDR.out⟩
          case measure => simp [intOf]; omega
        · have hn1 : ((strOfNums a).toList == (strOfNums b).toList) = false := beq_eq_false_iff_ne.mpr (fun h => he (HS.out.1 h))
          have hn2 : ((strOfNums a).toList != (strOfNums b).toList) = true := bne_iff_ne.mpr (fun h => he (HS.out.1 h))
          have hrf : r = false := by rw [← HR.out]; exact decide_eq_false (HNE.out he)
          subst hrf
          clear he
          go_wp2
          go_region
          go_wp2
          go_ret
          exact ⟨rfl, drawn_drew HDR.out⟩
      · obtain rfl : n = l0.length := by omega
        have hrt : r = true := by rw [← HR.out]; exact decide_eq_true (same_eq hl HALL.out)
        subst hrt
        go_wp2
        go_ret
        exact ⟨rfl, HDR.out⟩
  · have hd1 : ((l0.length : Int) != (l1.length : Int)) = true := by simp; omega
    have hd2 : ((l0.length : Int) == (l1.length : Int)) = false := by simp; omega
    have hrf : r = false := by rw [← HR.out]; exact decide_eq_false (fun e => hl (by rw [e]))
    subst hrf
    go_enter Tryd.func28, Tryd.ntmps28
    go_wp2
    go_ret
    exact ⟨rfl, Drawn0.refl _⟩

/-! ### frame_Reader_Held: function 29 -/
def frame_Reader_Held.f (s0_0 : List Int) (s0_1 : Bool) : Option (Int × Bool) := some ((s0_0.length : Int), s0_1)
set_option maxHeartbeats 8000000 in
set_option maxRecDepth 100000 in
theorem frame_Reader_Held.calls (g : Nat) (s0_0 : List Int) (s0_1 : Bool) (r1 : Int) (r2 : Bool) (w0 w : World) (hI : IsS56 w0 w g s0_0 s0_1) (hB : Below w0.heap.size w0 w) (h : frame_Reader_Held.f s0_0 s0_1 = some (r1, r2)) :
    Calls Tryd.prog 29 #[.pointer (some ⟨g, 0, none⟩)] w fun e w' => e = .returned (.int .i64 r1) ∧ IsS56 w0 w' g s0_0 r2 ∧ Below w0.heap.size w0 w' ∧ KeepBut w w' g none := by
  have HI0 := Aside0.mk hI
  have HK := Aside0.mk (KeepBut.refl w g none)
  have HL := Aside0.mk hB.size
  clear hI
  have HW0 := Aside0.mk hB.size
  have HB := Aside0.mk hB
  clear hB
  have H : (some ((s0_0.length : Int), s0_1)) = some (r1, r2) := h
  clear h
  simp only [Option.some.injEq, Prod.mk.injEq] at H
  obtain ⟨rfl, rfl⟩ := H
  obtain ⟨ASz2_0, cSz2_0, HGz2, hgz2, HSz2_0⟩ := HI0.out
  have hcz2_0 := cellS56_0 HGz2
  have hcz2_1 := cellS56_1 HGz2
  have hfz2_1 := blk_frozen HGz2 1
  clear HGz2 hgz2
  go_enter Tryd.func29, Tryd.ntmps29
  go_wp2
  go_ret
  exact ⟨by first | rfl | (simp [errW_none, errW_some] <;> rfl) | (simp [*, errW_none, errW_some] <;> rfl), by repeat (first | (with_reducible first | exact HI0.out | apply IsS56.alloc | apply IsS56.drewN | apply IsS56.drew | apply IsS56.set_1) | exact HI0.out), by repeat (first | (with_reducible first | exact HB.out | apply below_alloc | apply pw_below_drewN | apply below_drew1 | refine below_set ?_ (IsS56.ge HI0.out)) | exact HB.out), by repeat (first | (with_reducible first | exact HK.out | apply KeepBut.set_ | apply keep_drewN | apply keep_drew | apply keep_alloc) | exact HK.out)⟩

-- NOT PRINTED: function 9 (pennantlaw04_FrameReads)

-- NOT PRINTED: function 10 (pennantlaw04_FrameParts)

/-! ### crc_Seal: function 20 -/
-- BY HAND: make([]byte, 0, len(b)+3), the two appends
def crc_Seal.f (k : Nat) (l0 : List Int) : Option (List Int) := (crc_Sum.f k l0).bind fun t => if l0.length + 3 < 140737488355328 ∧ 0 ≤ t ∧ t < 16777216 then some (l0 ++ [t / 65536, t / 256 % 256, t % 256]) else none
theorem crc_Seal.mono : ∀ a0 k, LeO (crc_Seal.f k a0) (crc_Seal.f (k + 1) a0) := by
  intro a0 k
  exact LeO.bind (crc_Sum.mono a0 k) (fun _ => LeO.refl _)
theorem R_makecap {P : Program} {ops : Array Oper} {rest : List Oper} {o : Oper} {a : Act} {Q : Exit → Act → World → Prop} {w0 W : World} (base e : Nat) (hgd : o.guard = none) (t : TypeId) (x y : Operand) (ho : o.op = .makeSlice t x y) (C : Int) (n : Nat) (hx : a.eval x = .int .i64 0) (hy : a.eval y = .int .i64 C) (hC : C = (n : Int))
    (ht : P.underlying t = some (.slice e)) (z : Value) (k : IntKind) (bytes : Nat) (hinfo : (P.info? e).map (fun i => (i.zero, i.size, i.bytes)) = some (some z, 1, bytes)) (hn : bytes * n ≤ 281474976710656) (hm : n ≤ maxLen)
    (HB : Below base w0 W) (hbase : base ≤ W.heap.size)
    (h : ∀ v1 w1, (Kd.int k).R e w1 base (fun _ => True) v1 [] → Below base w0 w1 → W.grownBy w1 none → wpList P ops Q rest (a.put o.dst v1) w1) : wpList P ops Q (o :: rest) a W := by
  obtain ⟨i0, hi, hzz⟩ := Option.map_eq_some_iff.1 hinfo
  simp only [Prod.mk.injEq] at hzz
  obtain ⟨hz0, hz1, hz2⟩ := hzz
  refine wpList_make_own W hgd x y t ho base e i0 z 1 ht hi hz0 hz1 .i64 .i64 C n hx hy hC (by rw [hz2]; exact hn) hm hbase ?_
  intro w' hown hg
  exact h _ w' (Kd.R_of_own (enc := Value.int k) (h1 := fun _ => rfl) hown (fun _ _ => trivial)) (HB.grown hg hbase (fun _ h => by cases h)) hg
set_option maxHeartbeats 1600000 in
set_option maxRecDepth 100000 in
theorem crc_Seal.calls (k : Nat) (A0 : Option Addr) (c0 : Nat) (l0 : List Int) (r : List Int) (w : World) (hr0 : Kd.C (Kd.int .u8) w A0 l0.length l0) (hc0 : l0.length ≤ c0) (hT : TabOk w) (h : crc_Seal.f k l0 = some r) :
    Calls Tryd.prog 20 #[.slice A0 l0.length c0] w fun e w' => ∃ v0_ : Value, e = .returned (v0_) ∧ Kd.R (Kd.int .u8) 5 w' w.heap.size (fun _ => True) v0_ r ∧ Below w.heap.size w w' := by
  obtain ⟨t, hs, h⟩ := Option.bind_eq_some_iff.1 h
  split at h
  case isFalse => cases h
  case isTrue hq =>
  obtain ⟨hlen, ht0, ht1⟩ := hq
  have HS := Aside0.mk (crc_Sum.calls k A0 c0 l0 t w hr0 hc0 hT hs)
  obtain ⟨y, hy⟩ : ∃ y, y = [t / 65536, t / 256 % 256, t % 256] := ⟨_, rfl⟩
  rw [← hy] at h
  obtain rfl := Option.some.inj h
  have HY := Aside0.mk hy
  have hy3 : y.length = 3 := by rw [hy]; rfl
  have HY3 := Aside0.mk hy3
  clear hy hy3
  have HR0 := Aside0.mk hr0
  have HB := Aside0.mk (Below.refl w.heap.size w)
  clear hr0 hs h hT
  go_enter Tryd.func20, Tryd.ntmps20
  go_wp2_with (first
    | (go_at_call 14; refine HS.out.mono ?_; rintro e w' ⟨rfl, ⟨nd, rfl⟩⟩)
    | (at_make; refine R_makecap (w0 := w) w.heap.size 5 rfl 23 _ _ rfl _ (l0.length + 3) rfl rfl (by omega) Tryd.underlying23 (.int .u8 0) .u8 1 info5 (by omega) (by simp only [maxLen]; omega) (pw_below_drewN HB.out _) (Nat.le_refl _) ?_; intro v1 w1 hr hb _; have HO1 := Aside0.mk hr; clear hr HB; have HB := Aside0.mk hb; clear hb; obtain ⟨Av1, cv1, ev1⟩ := Kd.R_slice HO1.out; subst ev1)
    | ((with_reducible refine gate_builtin (b := .append) (xs := #[.tmp 11, .tmp 12]) rfl ?_); at_builtin; refine Kd.R_append_rows (Kd.int .u8) (w0 := w) w.heap.size rfl (.tmp 11) (.tmp 12) 23 5 (.int .u8 0) 1 rfl Tryd.underlying23 info5 rfl (by decide) (by omega) _ [] l0 _ _ _ (fun _ => True) (fun _ => False) rfl rfl HO1.out (Kd.C_below HR0.out HB.out) (fun _ _ h => h) (fun _ h => h.elim) (fun _ _ => trivial) HB.out HB.out.size (by simp; omega) ?_; intro v2 w2 ho hb hg hat; have HO2 := Aside0.mk ho; clear HB HO1; have HB := Aside0.mk hb; clear ho hb hg hat)
    | ((with_reducible refine gate_dst (N := 22) rfl ?_); refine Kd.R_lit (Kd.int .u8) _ 5 ?hg (N := 22) ?hd (xs := [t / 65536, t / 256 % 256, t % 256]) (inner := [.int .u8 (t / 65536), .int .u8 (t / 256 % 256), .int .u8 (t % 256)]) (ok := fun _ => True) (okp := fun _ => True) ?hr ?hp (fun _ hk => hk) trivial (Below.refl _ _) (Nat.le_refl _) (by simp) ?_; (case hd => rfl); (case hg => rfl); (case hr => first | (go_simp; done) | (go_simp; rfl)); (case hp => exact (Reps.one (show Kd.M (Kd.int .u8) _ _ _ (t / 65536) [.int .u8 (t / 65536)] from rfl) (Reps.one (show Kd.M (Kd.int .u8) _ _ _ (t / 256 % 256) [.int .u8 (t / 256 % 256)] from rfl) (Reps.one (show Kd.M (Kd.int .u8) _ _ _ (t % 256) [.int .u8 (t % 256)] from rfl) (Reps.none _ _))))); intro v125 w8 ho9 hb hg_ hnew_; clear hg_ hnew_; rw [← HY.out] at ho9; have n0_ := Aside0.mk (Kd.R_elder' HO2.out (Kd.R_base ho9) hb); have n1_ := Aside0.mk (Kd.R_lower (Kd.R_new' ho9 (Kd.R_lt HO2.out)) HB.out.size); have n2_ := Aside0.mk (below_step HB.out hb); clear HO2 HB; have HO2 := n0_; have HO3 := n1_; have HB := n2_; clear n0_ n1_ n2_; clear hb ho9; obtain ⟨Ao11, co11, eo11⟩ := Kd.R_slice HO3.out; subst eo11)
    | ((with_reducible refine gate_builtin (b := .append) (xs := #[.tmp 13, .tmp 22]) rfl ?_); at_builtin; refine Kd.R_append_rows (Kd.int .u8) (w0 := w) w.heap.size rfl (.tmp 13) (.tmp 22) 23 5 (.int .u8 0) 1 rfl Tryd.underlying23 info5 rfl (by decide) (by omega) v2 ([] ++ l0) y _ _ _ (fun k_ => some k_ ≠ (.slice Ao11 y.length co11 : Value).ownBlock) (fun _ => False) rfl rfl (Kd.R_mono HO2.out (fun _ hk => hk.2)) (Kd.R_reads' HO3.out).2.2 (fun _ _ h => h) (fun _ h => h.elim) (fun k_ hk => Kd.fresh' (Kd.R_lt HO3.out) k_ hk) HB.out HB.out.size (by have := HY3.out; simp; omega) ?_; intro v128 w10 ho hb hg hat; clear HB HO2; have HB := Aside0.mk hb; have HO4 := Aside0.mk ho; clear ho hb hg hat))
  go_ret
  exact ⟨_, rfl, Kd.R_mono HO4.out (fun _ _ => trivial), HB.out⟩

end Go.Proofs.YtlbmfbbdfmmfnaaDoor.PRdr
