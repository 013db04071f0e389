-- WRITTEN BY A TURNED COPY of the print tool, with hand-written blocks: a text of this seat
import Derived.Test.YtlbmfbbdfmmfnaaDoorPCrcSumsx0
namespace Go.Proofs.YtlbmfbbdfmmfnaaDoor.PCrcSums
open Go.RowKit Go.Proofs.YtlbmfbbdfmmfnaaDoorW.PrintWords Go.Proofs.YtlbmfbbdfmmfnaaDoorW.PrintLast Go.Proofs.YtlbmfbbdfmmfnaaDoorW.PrintMore
attribute [local go_sem] max2_int min2_int max_two min_two max_three min_three max_four min_four   -- for this text's walks alone
set_option linter.unusedVariables false
set_option linter.unusedSimpArgs false

/-! ### crc_Add: function 16 -/
-- BY HAND: the loop over the bytes, the loop of two steps within, the table's cells out of TabOk
def crc_Add.f (k : Nat) (a0 : Int) (l1 : List Int) : Option (Int) := if 0 ≤ a0 ∧ a0 < 4294967296 ∧ ∀ c ∈ l1, 0 ≤ c ∧ c ≤ 255 then some (crcFold (bits .and .u32 a0 16777215) l1) else none
theorem crc_Add.mono : ∀ a0 a1 k, LeO (crc_Add.f k a0 a1) (crc_Add.f (k + 1) a0 a1) := fun _ _ _ => LeO.refl _
set_option maxHeartbeats 1600000 in
set_option maxRecDepth 100000 in
theorem crc_Add.calls (k : Nat) (a0 : Int) (A1 : Option Addr) (c1 : Nat) (l1 : List Int) (r : Int) (w : World) (hr1 : Kd.C (Kd.int .u8) w A1 l1.length l1) (hc1 : l1.length ≤ c1) (hT : TabOk w) (h : crc_Add.f k a0 l1 = some r) :
    Calls Tryd.prog 16 #[.int .u32 a0, .slice A1 l1.length c1] w fun e w' => e = .returned (.int .u32 r) ∧ Drawn0 w w' := by
  have hl : l1.length ≤ 9223372036854775807 := hr1.2.1
  have HR1 := Aside0.mk hr1
  have HT := Aside0.mk hT
  unfold crc_Add.f at h
  split at h
  case isFalse => cases h
  case isTrue hq =>
  obtain ⟨ha0, ha1, hb⟩ := hq
  have hm := crcMask_range a0 ha0 ha1
  obtain ⟨s0, hs0⟩ : ∃ s0, bits .and .u32 a0 16777215 = s0 := ⟨_, rfl⟩
  rw [hs0] at h hm
  obtain rfl := Option.some.inj h
  have HS0 := Aside0.mk hs0
  have HB := Aside0.mk hb
  clear hr1 hT hb h hc1 hs0 ha0 ha1
  obtain ⟨hm0, hm1⟩ := hm
  go_enter Tryd.func16, Tryd.ntmps16
  go_wp2
  go_loopg [5, 12] l1.length (fun kq v5 v12 w' => ∃ (i : Nat), v5 = .int .u32 (crcFold s0 (l1.take i)) ∧ v12 = .int .i64 i ∧ i ≤ l1.length ∧ l1.length - i ≤ kq ∧ Drawn0 w w')
  case atStart => exact ⟨0, by rw [HS0.out]; rfl, rfl, Nat.zero_le _, by omega, Drawn0.refl _⟩
  case round =>
    obtain ⟨i, rfl, rfl, hi, hk, ⟨m1, rfl⟩⟩ := hrel
    by_cases c : i < l1.length
    · have hlt : (i : Int) < (l1.length : Int) := by omega
      obtain ⟨ad, e, hx⟩ := Kd.at_int HR1.out i (by omega) hlt
      cases e
      have hrd : rd l1 i = l1[i] := by simp [rd, List.getD_eq_getElem?_getD, List.getElem?_eq_getElem c]
      have hcb := HB.out l1[i] (List.getElem_mem c)
      have hsr := crcFold_range (l1.take i) s0 hm0 hm1 (fun x hx => HB.out x (List.mem_of_mem_take hx))
      have hnx : crcFold s0 (l1.take (i + 1)) = crcByte (crcFold s0 (l1.take i)) l1[i] := crcFold_take s0 l1 i c
      obtain ⟨cc, hcc⟩ : ∃ cc, l1[i] = cc := ⟨_, rfl⟩
      obtain ⟨s, hs⟩ : ∃ s, crcFold s0 (l1.take i) = s := ⟨_, rfl⟩
      obtain ⟨s', hs'⟩ : ∃ s, crcFold s0 (l1.take (i + 1)) = s := ⟨_, rfl⟩
      rw [Int.toNat_natCast] at hx
      rw [hrd] at hx
      rw [hcc] at hx hcb hnx
      rw [hs] at hsr hnx ⊢
      rw [hs'] at hnx
      have hmr := crcMix_range s cc hsr.1 hsr.2 hcb.1 hcb.2
      obtain ⟨hb0, hb1⟩ := hcb
      obtain ⟨hsr0, hsr1⟩ := hsr
      have HN := Aside0.mk hnx
      have HS' := Aside0.mk hs'
      clear hcc hs hrd hnx hs'
      go_wp2
      go_loopg [5, 21] 2 (fun kq v5 v21 w' => ∃ (j : Nat), v5 = .int .u32 (crcNibs (crcMix s cc) j) ∧ v21 = .int .i64 j ∧ j ≤ 2 ∧ 2 - j ≤ kq ∧ Drawn0 w w')
      case atStart => exact ⟨0, rfl, rfl, by omega, by omega, ⟨m1, rfl⟩⟩
      case round =>
        obtain ⟨j, rfl, rfl, hj, hk2, ⟨m2, rfl⟩⟩ := hrel
        by_cases c2 : j < 2
        · have hq := crcNibs_range (crcMix s cc) hmr.1 hmr.2 j
          obtain ⟨s2, hs2⟩ : ∃ s2, crcNibs (crcMix s cc) j = s2 := ⟨_, rfl⟩
          have hs3 : crcNibs (crcMix s cc) (j + 1) = crcNib s2 := by rw [← hs2]; rfl
          rw [hs2] at hq ⊢
          have HS3 := Aside0.mk hs3
          clear hs2 hs3
          obtain ⟨hq0, hq1⟩ := hq
          have ht := HT.out (s2 / 1048576).toNat (by omega)
          go_wp2
          go_roundg (2 - (j + 1))
          case rel => exact ⟨j + 1, by rw [HS3.out]; rfl, by go_num, by omega, by omega, ⟨m2, rfl⟩⟩
          case measure => omega
        · obtain rfl : j = 2 := by omega
          have hs3 : crcNibs (crcMix s cc) 2 = s' := by rw [HN.out]; rfl
          rw [hs3]
          clear hs3
          go_wp2
          go_roundg (l1.length - (i + 1))
          case rel => exact ⟨i + 1, by rw [HS'.out], by go_num, by omega, by omega, ⟨m2, rfl⟩⟩
          case measure => omega
    · obtain rfl : i = l1.length := by omega
      rw [List.take_length]
      go_wp2
      go_ret
      exact ⟨rfl, ⟨m1, rfl⟩⟩

/-! ### crc_Sum: function 14 -/
def crc_Sum.f (k : Nat) (l0 : List Int) : Option (Int) := (crc_Add.f k 11994318 l0).bind fun t102 => (some t102)
theorem crc_Sum.mono : ∀ a0 k, LeO (crc_Sum.f k a0) (crc_Sum.f (k + 1) a0) := by
  intro a0 k
  unfold crc_Sum.f
  repeat' first
      | (with_reducible exact crc_Add.mono _ _ _)
      | (with_reducible exact LeO.refl _)
      | (with_reducible exact LeO.none _)
      | (with_reducible refine LeO.ite ?_ ?_)
      | (with_reducible refine LeO.bind ?_ (fun _ => ?_))
      | exact crc_Add.mono _ _ _
      | exact LeO.none _
      | refine LeO.ite ?_ ?_
      | refine LeO.bind ?_ (fun _ => ?_)
set_option maxHeartbeats 8000000 in
set_option maxRecDepth 100000 in
theorem crc_Sum.calls (k : Nat) (A0 : Option Addr) (c0 : Nat) (l0 : List Int) (r : Int) (w : World) (hr0 : Kd.C (Kd.int .u8) w A0 l0.length l0) (hc0 : l0.length ≤ c0) (hT : TabOk w) (h : crc_Sum.f k l0 = some r) :
    Calls Tryd.prog 14 #[.slice A0 l0.length c0] w fun e w' => e = .returned (.int .u32 r) ∧ Drawn0 w w' := by
  have HT := Aside0.mk hT
  clear hT
  have HR0 := Aside0.mk hr0
  have HC0 := Aside0.mk hc0
  clear hr0 hc0
  have H : ((crc_Add.f k 11994318 l0).bind fun t102 => (some t102)) = some r := h
  clear h
  replace H := Option.bind_eq_some_iff.mp H
  obtain ⟨t102, A20, H⟩ := H
  replace H : (some t102) = some r := H
  have A2 := Aside0.mk A20
  clear A20
  obtain rfl := Option.some.inj H
  go_enter Tryd.func14, Tryd.ntmps14
  go_wp2_with (first | ((with_reducible refine gate_callee (f := 16) rfl ?_); refine goesL_ (some 4) rfl rfl Tryd.func16 (by kernel_rfl) rfl #[.int .u32 11994318, .slice A0 l0.length c0] rfl (by (try simp only [List.map_toArray, List.map_cons, List.map_nil]); first | done | rfl | (simp only [List.length_drop, List.length_take]; rfl)) ?_; (with_reducible refine (crc_Add.calls k 11994318 _ _ l0 t102 _ ?side1 ?side2 ?sideT A2.out).mono ?_); (case sideT => first | exact HT.out | (with_reducible refine TabOk.drewN ?_ _; exact HT.out) | exact HT.out.below (by repeat (first | (with_reducible first | exact HB.out | apply below_alloc | apply pw_below_drewN | apply below_drew1) | exact HB.out)) | exact HT.out.below (by repeat (first | (with_reducible first | exact HBW.out | apply below_alloc | apply pw_below_drewN | apply below_drew1) | exact HBW.out))); (case side1 => repeat (first | exact HR0.out | (with_reducible refine Kd.C_alloc ?_ _) | (with_reducible refine Kd.C_drewN ?_ _) | (with_reducible refine Kd.C_drew ?_))); (case side2 => exact HC0.out); rintro e w' ⟨rfl, ⟨nd, rfl⟩⟩; refine ⟨_, rfl, ?_⟩))
  go_ret
  exact ⟨by first | rfl | (simp; done) | (simp [*]; done), by repeat (first | exact Drawn0.refl _ | apply Drawn0.step)⟩

/-! ### pennantlaw02_awake: function 13 -/
-- BY HAND: the literal's row bears the run-time's mark behind its conversion
def pennantlaw02_awake.f (k : Nat)  : Option (Bool) := (crc_Sum.f k (([49, 50, 51, 52, 53, 54, 55, 56, 57] : List Int))).bind fun t106 => (some (t106 == 2215682))
theorem pennantlaw02_awake.mono : ∀ k, LeO (pennantlaw02_awake.f k ) (pennantlaw02_awake.f (k + 1) ) := fun k => LeO.bind (crc_Sum.mono _ k) (fun _ => LeO.refl _)
theorem awake_row (w : World) : Kd.C (Kd.int .u8) (w.alloc (.cells #[.int .u8 49, .int .u8 50, .int .u8 51, .int .u8 52, .int .u8 53, .int .u8 54, .int .u8 55, .int .u8 56, .int .u8 57] 5 (9, 10))) (some ⟨w.heap.size, 0, none⟩) ([49, 50, 51, 52, 53, 54, 55, 56, 57] : List Int).length [49, 50, 51, 52, 53, 54, 55, 56, 57] := by
  refine Kd.C_of_reads (d := (0 : Int)) (h1 := fun _ => rfl) ⟨rfl, by decide, fun _ => ⟨_, rfl, fun j hj => ?_⟩⟩
  rw [add_plain]
  have e := World.cell?_alloc_mark w #[.int .u8 49, .int .u8 50, .int .u8 51, .int .u8 52, .int .u8 53, .int .u8 54, .int .u8 55, .int .u8 56, .int .u8 57] 5 (9, 10) j
  rw [e]
  match j, hj with
  | 0, _ => rfl
  | 1, _ => rfl
  | 2, _ => rfl
  | 3, _ => rfl
  | 4, _ => rfl
  | 5, _ => rfl
  | 6, _ => rfl
  | 7, _ => rfl
  | 8, _ => rfl
set_option maxHeartbeats 1600000 in
set_option maxRecDepth 100000 in
theorem pennantlaw02_awake.calls (k : Nat)  (r : Bool) (w : World) (hT : TabOk w) (h : pennantlaw02_awake.f k  = some r) :
    Calls Tryd.prog 13 #[] w fun e w' => e = .returned (.bool r) ∧ Below w.heap.size w w' := by
  obtain ⟨t, hs, h⟩ := Option.bind_eq_some_iff.1 h
  obtain rfl := Option.some.inj h
  have HS := Aside0.mk (crc_Sum.calls k _ 9 _ t _ (awake_row w) (by decide) (hT.below ((Below.refl _ w).alloc (Nat.le_refl _) _)) hs)
  clear hs h hT
  have kc := fun (w : World) (C : Array Value) (n c : Nat) => Lib.run_convert_bytes_const (P := Tryd.prog) w 23 5 C n c Tryd.underlying23 Tryd.underlying5
  go_enter Tryd.func13, Tryd.ntmps13
  go_wp2_with (go_at_call 14; refine HS.out.mono ?_; rintro e w' ⟨rfl, ⟨nd, rfl⟩⟩)
  go_ret
  exact ⟨rfl, pw_below_drewN ((Below.refl _ _).alloc (Nat.le_refl _) _) _⟩

/-! ### pennantref02_Add: function 17 -/
mutual
def pennantref02_Add.l0 : Nat → List Int → Int → Int → Option (Int)
  | 0, _, _, _ => none
  | k + 1, x1, x5, x6 => if x6 < (x1.length : Int) then (if 0 ≤ x6 then (pennantref02_Add.l1 k x1 (Go.bits .xor .u32 x5 ((((rd x1 x6) % 4294967296) * 65536) % 4294967296)) x6 0) else (none)) else (some x5)
def pennantref02_Add.l1 : Nat → List Int → Int → Int → Int → Option (Int)
  | 0, _, _, _, _ => none
  | k + 1, x1, x5, x6, x7 => if x7 < 8 then (if ((2 * x5) % 4294967296) ≥ 16777216 then (pennantref02_Add.l1 k x1 (Go.bits .xor .u32 ((2 * x5) % 4294967296) 25578747) x6 (wrap64 (x7 + 1))) else (pennantref02_Add.l1 k x1 ((2 * x5) % 4294967296) x6 (wrap64 (x7 + 1)))) else (pennantref02_Add.l0 k x1 x5 (wrap64 (x6 + 1)))
end
def pennantref02_Add.f (k : Nat) (a0 : Int) (l1 : List Int) : Option (Int) := pennantref02_Add.l0 k l1 (Int.tmod a0 16777216) 0
theorem pennantref02_Add.mono_l : ∀ k, (∀ y0 y1 y2, LeO (pennantref02_Add.l0 k y0 y1 y2) (pennantref02_Add.l0 (k + 1) y0 y1 y2)) ∧ (∀ y0 y1 y2 y3, LeO (pennantref02_Add.l1 k y0 y1 y2 y3) (pennantref02_Add.l1 (k + 1) y0 y1 y2 y3))
  | 0 => ⟨fun _ _ _ r h => by simp [pennantref02_Add.l0] at h, fun _ _ _ _ r h => by simp [pennantref02_Add.l1] at h⟩
  | k + 1 => by
    obtain ⟨ih0, ih1⟩ := pennantref02_Add.mono_l k
    refine ⟨?_, ?_⟩
    · intro y0 y1 y2
      unfold pennantref02_Add.l0
      repeat' first
      | (with_reducible exact ih0 _ _ _)
      | (with_reducible exact ih1 _ _ _ _)
      | (with_reducible exact LeO.refl _)
      | (with_reducible exact LeO.none _)
      | (with_reducible refine LeO.ite ?_ ?_)
      | (with_reducible refine LeO.bind ?_ (fun _ => ?_))
      | exact ih0 _ _ _
      | exact ih1 _ _ _ _
      | exact LeO.none _
      | refine LeO.ite ?_ ?_
      | refine LeO.bind ?_ (fun _ => ?_)
    · intro y0 y1 y2 y3
      unfold pennantref02_Add.l1
      repeat' first
      | (with_reducible exact ih0 _ _ _)
      | (with_reducible exact ih1 _ _ _ _)
      | (with_reducible exact LeO.refl _)
      | (with_reducible exact LeO.none _)
      | (with_reducible refine LeO.ite ?_ ?_)
      | (with_reducible refine LeO.bind ?_ (fun _ => ?_))
      | exact ih0 _ _ _
      | exact ih1 _ _ _ _
      | exact LeO.none _
      | refine LeO.ite ?_ ?_
      | refine LeO.bind ?_ (fun _ => ?_)
theorem pennantref02_Add.mono : ∀ a0 a1 k, LeO (pennantref02_Add.f k a0 a1) (pennantref02_Add.f (k + 1) a0 a1) := by
  intro a0 a1 k
  obtain ⟨ih0, ih1⟩ := pennantref02_Add.mono_l k
  unfold pennantref02_Add.f
  repeat' first
      | (with_reducible exact ih0 _ _ _)
      | (with_reducible exact ih1 _ _ _ _)
      | (with_reducible exact LeO.refl _)
      | (with_reducible exact LeO.none _)
      | (with_reducible refine LeO.ite ?_ ?_)
      | (with_reducible refine LeO.bind ?_ (fun _ => ?_))
      | exact ih0 _ _ _
      | exact ih1 _ _ _ _
      | exact LeO.none _
      | refine LeO.ite ?_ ?_
      | refine LeO.bind ?_ (fun _ => ?_)
set_option maxHeartbeats 8000000 in
set_option maxRecDepth 100000 in
theorem pennantref02_Add.calls (k : Nat) (a0 : Int) (A1 : Option Addr) (c1 : Nat) (l1 : List Int) (r : Int) (w : World) (hr1 : Kd.C (Kd.int .u8) w A1 l1.length l1) (hc1 : l1.length ≤ c1) (h : pennantref02_Add.f k a0 l1 = some r) :
    Calls Tryd.prog 17 #[.int .u32 a0, .slice A1 l1.length c1] w fun e w' => e = .returned (.int .u32 r) ∧ Drawn0 w w' := by
  have HR1 := Aside0.mk hr1
  have HC1 := Aside0.mk hc1
  clear hr1 hc1
  have H : (pennantref02_Add.l0 k l1 (Int.tmod a0 16777216) 0) = some r := h
  clear h
  have H' := Aside0.mk H
  clear H
  go_enter Tryd.func17, Tryd.ntmps17
  go_wp2
  go_loopg [5, 6] k (fun kq v5 v6 w' => ∃ (x5_1 : Int) (x6_1 : Int), v5 = .int .u32 x5_1 ∧ v6 = .int .i64 x6_1 ∧ Aside0 (pennantref02_Add.l0 kq l1 x5_1 x6_1 = some r) ∧ Aside0 (kq ≤ k) ∧ Drawn0 w w')
  case atStart => exact ⟨(Int.tmod a0 16777216), (0), (by first | rfl | (simp; done) | (simp [*]; done)), (by first | rfl | (simp; done) | (simp [*]; done)), H', ⟨Nat.le_refl _⟩, by repeat (first | exact Drawn0.refl _ | apply Drawn0.step)⟩
  case round =>
    clear H'
    try clear c1
    try clear p2
    obtain ⟨x5_1, x6_1, rfl, rfl, HA, HK1, ⟨m1, rfl⟩⟩ := hrel
    cases gk with
    | zero => exact absurd HA.out (by simp [pennantref02_Add.l0])
    | succ k1 =>
      have H := HA.out
      clear HA
      simp only [pennantref02_Add.l0] at H
      by_cases c3 : x6_1 < (l1.length : Int)
      · rw [if_pos c3] at H
        have c3b0 : decide (x6_1 < (l1.length : Int)) = true := decide_eq_true c3
        clear c3
        by_cases c4 : 0 ≤ x6_1
        · rw [if_pos c4] at H
          have c4b0 : decide (0 ≤ x6_1) = true := decide_eq_true c4
          clear c4
          have H' := Aside0.mk H
          clear H
          have p107 : 0 ≤ (x6_1 : Int) := of_decide_eq_true (by first | (with_reducible assumption) | assumption)
          have q107 : x6_1 < (l1.length : Int) := of_decide_eq_true (by first | (with_reducible assumption) | assumption)
          obtain ⟨ad107, e107, hx107_0⟩ := Kd.at_int HR1.out x6_1 p107 q107
          cases e107
          replace p107 := eq_true p107
          replace q107 := eq_true q107
          go_wp2
          go_loopg [5, 7] k1 (fun kq v5 v7 w' => ∃ (x5_2 : Int) (x7_2 : Int), v5 = .int .u32 x5_2 ∧ v7 = .int .i64 x7_2 ∧ Aside0 (pennantref02_Add.l1 kq l1 x5_2 x6_1 x7_2 = some r) ∧ Aside0 (kq ≤ k1) ∧ Drawn0 w w')
          case atStart => exact ⟨(Go.bits .xor .u32 x5_1 ((((rd l1 x6_1) % 4294967296) * 65536) % 4294967296)), (0), (by first | rfl | (simp; done) | (simp [*]; done)), (by first | rfl | (simp; done) | (simp [*]; done)), H', ⟨Nat.le_refl _⟩, by repeat (first | exact Drawn0.refl _ | apply Drawn0.step)⟩
          case round =>
            clear H'
            try clear c1
            try clear p1
            try clear q1
            try clear hx1
            try clear p2
            try clear c3
            try clear c3b0
            try clear c4
            try clear c4b0
            try clear hx107_0
            try clear p107
            try clear p2
            try clear q107
            obtain ⟨x5_2, x7_2, rfl, rfl, HA, HK2, ⟨m2, rfl⟩⟩ := hrel
            cases gk with
            | zero => exact absurd HA.out (by simp [pennantref02_Add.l1])
            | succ k2 =>
              have H := HA.out
              clear HA
              simp only [pennantref02_Add.l1] at H
              by_cases c5 : x7_2 < 8
              · rw [if_pos c5] at H
                have c5b0 : decide (x7_2 < 8) = true := decide_eq_true c5
                clear c5
                by_cases c6 : ((2 * x5_2) % 4294967296) ≥ 16777216
                · rw [if_pos c6] at H
                  have c6b0 : decide (16777216 ≤ ((2 * x5_2) % 4294967296)) = true := decide_eq_true c6
                  clear c6
                  have H' := Aside0.mk H
                  clear H
                  go_wp2
                  go_roundg k2
                  case measure => have := HK1.out; have := HK2.out; omega
                  case rel => exact ⟨(Go.bits .xor .u32 ((2 * x5_2) % 4294967296) 25578747), (wrap64 (x7_2 + 1)), (by first | rfl | (simp; done) | (simp [*]; done)), (by first | rfl | (simp; done) | (simp [*]; done)), H', ⟨by have := HK1.out; have := HK2.out; omega⟩, by repeat (first | exact Drawn0.refl _ | apply Drawn0.step)⟩
                · rw [if_neg c6] at H
                  have c6b0 : decide (16777216 ≤ ((2 * x5_2) % 4294967296)) = false := decide_eq_false c6
                  clear c6
                  have H' := Aside0.mk H
                  clear H
                  go_wp2
                  go_roundg k2
                  case measure => have := HK1.out; have := HK2.out; omega
                  case rel => exact ⟨((2 * x5_2) % 4294967296), (wrap64 (x7_2 + 1)), (by first | rfl | (simp; done) | (simp [*]; done)), (by first | rfl | (simp; done) | (simp [*]; done)), H', ⟨by have := HK1.out; have := HK2.out; omega⟩, by repeat (first | exact Drawn0.refl _ | apply Drawn0.step)⟩
              · rw [if_neg c5] at H
                have c5b0 : decide (x7_2 < 8) = false := decide_eq_false c5
                clear c5
                have H' := Aside0.mk H
                clear H
                go_wp2
                go_roundg k2
                case measure => have := HK1.out; have := HK2.out; omega
                case rel => exact ⟨(x5_2), (wrap64 (x6_1 + 1)), (by first | rfl | (simp; done) | (simp [*]; done)), (by first | rfl | (simp; done) | (simp [*]; done)), H', ⟨by have := HK1.out; have := HK2.out; omega⟩, by repeat (first | exact Drawn0.refl _ | apply Drawn0.step)⟩
        · rw [if_neg c4] at H
          exact absurd H (by simp)
      · rw [if_neg c3] at H
        have c3b0 : decide (x6_1 < (l1.length : Int)) = false := decide_eq_false c3
        clear c3
        obtain rfl := Option.some.inj H
        go_wp2
        go_ret
        exact ⟨by first | rfl | (simp; done) | (simp [*]; done), by repeat (first | exact Drawn0.refl _ | apply Drawn0.step)⟩

/-! ### pennantref02_Sum: function 15 -/
def pennantref02_Sum.f (k : Nat) (l0 : List Int) : Option (Int) := (pennantref02_Add.f k 11994318 l0).bind fun t108 => (some t108)
theorem pennantref02_Sum.mono : ∀ a0 k, LeO (pennantref02_Sum.f k a0) (pennantref02_Sum.f (k + 1) a0) := by
  intro a0 k
  unfold pennantref02_Sum.f
  repeat' first
      | (with_reducible exact pennantref02_Add.mono _ _ _)
      | (with_reducible exact LeO.refl _)
      | (with_reducible exact LeO.none _)
      | (with_reducible refine LeO.ite ?_ ?_)
      | (with_reducible refine LeO.bind ?_ (fun _ => ?_))
      | exact pennantref02_Add.mono _ _ _
      | exact LeO.none _
      | refine LeO.ite ?_ ?_
      | refine LeO.bind ?_ (fun _ => ?_)
set_option maxHeartbeats 8000000 in
set_option maxRecDepth 100000 in
theorem pennantref02_Sum.calls (k : Nat) (A0 : Option Addr) (c0 : Nat) (l0 : List Int) (r : Int) (w : World) (hr0 : Kd.C (Kd.int .u8) w A0 l0.length l0) (hc0 : l0.length ≤ c0) (h : pennantref02_Sum.f k l0 = some r) :
    Calls Tryd.prog 15 #[.slice A0 l0.length c0] w fun e w' => e = .returned (.int .u32 r) ∧ Drawn0 w w' := by
  have HR0 := Aside0.mk hr0
  have HC0 := Aside0.mk hc0
  clear hr0 hc0
  have H : ((pennantref02_Add.f k 11994318 l0).bind fun t108 => (some t108)) = some r := h
  clear h
  replace H := Option.bind_eq_some_iff.mp H
  obtain ⟨t108, A20, H⟩ := H
  replace H : (some t108) = some r := H
  have A2 := Aside0.mk A20
  clear A20
  obtain rfl := Option.some.inj H
  go_enter Tryd.func15, Tryd.ntmps15
  go_wp2_with (first | ((with_reducible refine gate_callee (f := 17) rfl ?_); refine goesL_ (some 4) rfl rfl Tryd.func17 (by kernel_rfl) rfl #[.int .u32 11994318, .slice A0 l0.length c0] rfl (by (try simp only [List.map_toArray, List.map_cons, List.map_nil]); first | done | rfl | (simp only [List.length_drop, List.length_take]; rfl)) ?_; (with_reducible refine (pennantref02_Add.calls k 11994318 _ _ l0 t108 _ ?side1 ?side2 A2.out).mono ?_); (case side1 => repeat (first | exact HR0.out | (with_reducible refine Kd.C_alloc ?_ _) | (with_reducible refine Kd.C_drewN ?_ _) | (with_reducible refine Kd.C_drew ?_))); (case side2 => exact HC0.out); rintro e w' ⟨rfl, ⟨nd, rfl⟩⟩; refine ⟨_, rfl, ?_⟩))
  go_ret
  exact ⟨by first | rfl | (simp; done) | (simp [*]; done), by repeat (first | exact Drawn0.refl _ | apply Drawn0.step)⟩

/-! ### pennantlaw02_CrcSums: function 3 -/
def pennantlaw02_CrcSums.f (k : Nat) (a0 : Int) (l1 : List Int) : Option (Bool) := (pennantlaw02_awake.f k).bind fun t109 => (if (l1.length : Int) > 200000 then (some t109) else (if t109 = true then ((crc_Sum.f k l1).bind fun t110 => ((pennantref02_Sum.f k l1).bind fun t111 => (if t110 = t111 then ((crc_Add.f k a0 l1).bind fun t112 => ((pennantref02_Add.f k a0 l1).bind fun t113 => (some (t112 == t113)))) else (some false)))) else (some false)))
theorem pennantlaw02_CrcSums.mono : ∀ a0 a1 k, LeO (pennantlaw02_CrcSums.f k a0 a1) (pennantlaw02_CrcSums.f (k + 1) a0 a1) := by
  intro a0 a1 k
  unfold pennantlaw02_CrcSums.f
  repeat' first
      | (with_reducible exact crc_Add.mono _ _ _)
      | (with_reducible exact crc_Sum.mono _ _)
      | (with_reducible exact pennantlaw02_awake.mono _)
      | (with_reducible exact pennantref02_Add.mono _ _ _)
      | (with_reducible exact pennantref02_Sum.mono _ _)
      | (with_reducible exact LeO.refl _)
      | (with_reducible exact LeO.none _)
      | (with_reducible refine LeO.ite ?_ ?_)
      | (with_reducible refine LeO.bind ?_ (fun _ => ?_))
      | exact crc_Add.mono _ _ _
      | exact crc_Sum.mono _ _
      | exact pennantlaw02_awake.mono _
      | exact pennantref02_Add.mono _ _ _
      | exact pennantref02_Sum.mono _ _
      | exact LeO.none _
      | refine LeO.ite ?_ ?_
      | refine LeO.bind ?_ (fun _ => ?_)
set_option maxHeartbeats 8000000 in
set_option maxRecDepth 100000 in
theorem pennantlaw02_CrcSums.calls (k : Nat) (a0 : Int) (A1 : Option Addr) (c1 : Nat) (l1 : List Int) (r : Bool) (w : World) (hr1 : Kd.C (Kd.int .u8) w A1 l1.length l1) (hc1 : l1.length ≤ c1) (hT : TabOk w) (h : pennantlaw02_CrcSums.f k a0 l1 = some r) :
    Calls Tryd.prog 3 #[.int .u32 a0, .slice A1 l1.length c1] w fun e w' => e = .returned (.bool r) ∧ Below w.heap.size w w' := by
  have HT := Aside0.mk hT
  clear hT
  have HR1 := Aside0.mk hr1
  have HC1 := Aside0.mk hc1
  clear hr1 hc1
  have HB := Aside0.mk (Below.refl w.heap.size w)
  have H : ((pennantlaw02_awake.f k).bind fun t109 => (if (l1.length : Int) > 200000 then (some t109) else (if t109 = true then ((crc_Sum.f k l1).bind fun t110 => ((pennantref02_Sum.f k l1).bind fun t111 => (if t110 = t111 then ((crc_Add.f k a0 l1).bind fun t112 => ((pennantref02_Add.f k a0 l1).bind fun t113 => (some (t112 == t113)))) else (some false)))) else (some false)))) = some r := h
  clear h
  replace H := Option.bind_eq_some_iff.mp H
  obtain ⟨t109, A30, H⟩ := H
  replace H : (if (l1.length : Int) > 200000 then (some t109) else (if t109 = true then ((crc_Sum.f k l1).bind fun t110 => ((pennantref02_Sum.f k l1).bind fun t111 => (if t110 = t111 then ((crc_Add.f k a0 l1).bind fun t112 => ((pennantref02_Add.f k a0 l1).bind fun t113 => (some (t112 == t113)))) else (some false)))) else (some false))) = some r := H
  have A3 := Aside0.mk A30
  clear A30
  by_cases c4 : (l1.length : Int) > 200000
  · rw [if_pos c4] at H
    have c4b0 : decide (200000 < (l1.length : Int)) = true := decide_eq_true c4
    have c4b1 : decide (200000 < l1.length) = true := decide_eq_true (by omega)
    clear c4
    obtain rfl := Option.some.inj H
    go_enter Tryd.func3, Tryd.ntmps3
    go_wp2_with (first | ((with_reducible refine gate_callee (f := 13) rfl ?_); refine goesL_ (some 6) rfl rfl Tryd.func13 (by kernel_rfl) rfl #[] rfl (by (try simp only [List.map_toArray, List.map_cons, List.map_nil]); first | done | rfl | (simp only [List.length_drop, List.length_take]; rfl)) ?_; (with_reducible refine (pennantlaw02_awake.calls k  t109 _ ?sideT A3.out).mono ?_); (case sideT => first | exact HT.out | (with_reducible refine TabOk.drewN ?_ _; exact HT.out) | exact HT.out.below (by repeat (first | (with_reducible first | exact HB.out | apply below_alloc | apply pw_below_drewN | apply below_drew1) | exact HB.out)) | exact HT.out.below (by repeat (first | (with_reducible first | exact HBW.out | apply below_alloc | apply pw_below_drewN | apply below_drew1) | exact HBW.out))); rintro e w5 ⟨rfl, hb⟩; refine ⟨_, rfl, ?_⟩; have n0_ := Aside0.mk (below_step (by repeat (first | (with_reducible first | exact HB.out | apply below_alloc | apply pw_below_drewN | apply below_drew1) | exact HB.out)) hb); clear HB; have HB := n0_; clear n0_; (try clear hb); (try clear hb2); (try clear hk); (try clear hi)))
    go_ret
    exact ⟨by first | rfl | (simp [errW_none, errW_some] <;> rfl) | (simp [*, errW_none, errW_some] <;> rfl), by repeat (first | (with_reducible first | exact HB.out | apply below_alloc | apply pw_below_drewN | apply below_drew1) | exact HB.out)⟩
  · rw [if_neg c4] at H
    have c4b0 : decide (200000 < (l1.length : Int)) = false := decide_eq_false c4
    have c4b1 : decide (200000 < l1.length) = false := decide_eq_false (by omega)
    clear c4
    by_cases c6 : t109 = true
    · subst c6
      have H1 : ((crc_Sum.f k l1).bind fun t110 => ((pennantref02_Sum.f k l1).bind fun t111 => (if t110 = t111 then ((crc_Add.f k a0 l1).bind fun t112 => ((pennantref02_Add.f k a0 l1).bind fun t113 => (some (t112 == t113)))) else (some false)))) = some r := by rw [if_pos rfl] at H; exact H
      clear H
      have H := H1
      clear H1
      replace H := Option.bind_eq_some_iff.mp H
      obtain ⟨t110, A70, H⟩ := H
      replace H : ((pennantref02_Sum.f k l1).bind fun t111 => (if t110 = t111 then ((crc_Add.f k a0 l1).bind fun t112 => ((pennantref02_Add.f k a0 l1).bind fun t113 => (some (t112 == t113)))) else (some false))) = some r := H
      have A7 := Aside0.mk A70
      clear A70
      replace H := Option.bind_eq_some_iff.mp H
      obtain ⟨t111, A80, H⟩ := H
      replace H : (if t110 = t111 then ((crc_Add.f k a0 l1).bind fun t112 => ((pennantref02_Add.f k a0 l1).bind fun t113 => (some (t112 == t113)))) else (some false)) = some r := H
      have A8 := Aside0.mk A80
      clear A80
      by_cases c9 : t110 = t111
      · rw [if_pos c9] at H
        have c9b0 : (t110 == t111) = true := beq_iff_eq.mpr c9
        have c9b1 : (t110 != t111) = false := bne_eq_false_iff_eq.mpr c9
        clear c9
        replace H := Option.bind_eq_some_iff.mp H
        obtain ⟨t112, A100, H⟩ := H
        replace H : ((pennantref02_Add.f k a0 l1).bind fun t113 => (some (t112 == t113))) = some r := H
        have A10 := Aside0.mk A100
        clear A100
        replace H := Option.bind_eq_some_iff.mp H
        obtain ⟨t113, A110, H⟩ := H
        replace H : (some (t112 == t113)) = some r := H
        have A11 := Aside0.mk A110
        clear A110
        obtain rfl := Option.some.inj H
        go_enter Tryd.func3, Tryd.ntmps3
        go_wp2_with (first | ((with_reducible refine gate_callee (f := 13) rfl ?_); refine goesL_ (some 6) rfl rfl Tryd.func13 (by kernel_rfl) rfl #[] rfl (by (try simp only [List.map_toArray, List.map_cons, List.map_nil]); first | done | rfl | (simp only [List.length_drop, List.length_take]; rfl)) ?_; (with_reducible refine (pennantlaw02_awake.calls k  true _ ?sideT A3.out).mono ?_); (case sideT => first | exact HT.out | (with_reducible refine TabOk.drewN ?_ _; exact HT.out) | exact HT.out.below (by repeat (first | (with_reducible first | exact HB.out | apply below_alloc | apply pw_below_drewN | apply below_drew1) | exact HB.out)) | exact HT.out.below (by repeat (first | (with_reducible first | exact HBW.out | apply below_alloc | apply pw_below_drewN | apply below_drew1) | exact HBW.out))); rintro e w12 ⟨rfl, hb⟩; refine ⟨_, rfl, ?_⟩; have n0_ := Aside0.mk (below_step (by repeat (first | (with_reducible first | exact HB.out | apply below_alloc | apply pw_below_drewN | apply below_drew1) | exact HB.out)) hb); clear HB; have HB := n0_; clear n0_; (try clear hb); (try clear hb2); (try clear hk); (try clear hi)) | (go_at_call 14; (with_reducible refine (crc_Sum.calls k _ _ l1 t110 _ ?side1 ?side2 ?sideT A7.out).mono ?_); (case sideT => first | exact HT.out | (with_reducible refine TabOk.drewN ?_ _; exact HT.out) | exact HT.out.below (by repeat (first | (with_reducible first | exact HB.out | apply below_alloc | apply pw_below_drewN | apply below_drew1) | exact HB.out)) | exact HT.out.below (by repeat (first | (with_reducible first | exact HBW.out | apply below_alloc | apply pw_below_drewN | apply below_drew1) | exact HBW.out))); (case side1 => repeat (first | exact (Kd.C_below HR1.out HB.out) | (with_reducible refine Kd.C_alloc ?_ _) | (with_reducible refine Kd.C_drewN ?_ _) | (with_reducible refine Kd.C_drew ?_))); (case side2 => exact HC1.out); rintro e w' ⟨rfl, ⟨nd, rfl⟩⟩) | (go_at_call 15; (with_reducible refine (pennantref02_Sum.calls k _ _ l1 t111 _ ?side1 ?side2 A8.out).mono ?_); (case side1 => repeat (first | exact (Kd.C_below HR1.out (by repeat (first | (with_reducible first | exact HB.out | apply below_alloc | apply pw_below_drewN | apply below_drew1) | exact HB.out))) | (with_reducible refine Kd.C_alloc ?_ _) | (with_reducible refine Kd.C_drewN ?_ _) | (with_reducible refine Kd.C_drew ?_))); (case side2 => exact HC1.out); rintro e w' ⟨rfl, ⟨nd, rfl⟩⟩) | (go_at_call 16; (with_reducible refine (crc_Add.calls k a0 _ _ l1 t112 _ ?side1 ?side2 ?sideT A10.out).mono ?_); (case sideT => first | exact HT.out | (with_reducible refine TabOk.drewN ?_ _; exact HT.out) | exact HT.out.below (by repeat (first | (with_reducible first | exact HB.out | apply below_alloc | apply pw_below_drewN | apply below_drew1) | exact HB.out)) | exact HT.out.below (by repeat (first | (with_reducible first | exact HBW.out | apply below_alloc | apply pw_below_drewN | apply below_drew1) | exact HBW.out))); (case side1 => repeat (first | exact (Kd.C_below HR1.out (by repeat (first | (with_reducible first | exact HB.out | apply below_alloc | apply pw_below_drewN | apply below_drew1) | exact HB.out))) | (with_reducible refine Kd.C_alloc ?_ _) | (with_reducible refine Kd.C_drewN ?_ _) | (with_reducible refine Kd.C_drew ?_))); (case side2 => exact HC1.out); rintro e w' ⟨rfl, ⟨nd, rfl⟩⟩) | (go_at_call 17; (with_reducible refine (pennantref02_Add.calls k a0 _ _ l1 t113 _ ?side1 ?side2 A11.out).mono ?_); (case side1 => repeat (first | exact (Kd.C_below HR1.out (by repeat (first | (with_reducible first | exact HB.out | apply below_alloc | apply pw_below_drewN | apply below_drew1) | exact HB.out))) | (with_reducible refine Kd.C_alloc ?_ _) | (with_reducible refine Kd.C_drewN ?_ _) | (with_reducible refine Kd.C_drew ?_))); (case side2 => exact HC1.out); rintro e w' ⟨rfl, ⟨nd, rfl⟩⟩))
        go_ret
        exact ⟨by first | rfl | (simp [errW_none, errW_some] <;> rfl) | (simp [*, errW_none, errW_some] <;> rfl), by repeat (first | (with_reducible first | exact HB.out | apply below_alloc | apply pw_below_drewN | apply below_drew1) | exact HB.out)⟩
      · rw [if_neg c9] at H
        have c9b0 : (t110 == t111) = false := beq_eq_false_iff_ne.mpr c9
        have c9b1 : (t110 != t111) = true := bne_iff_ne.mpr c9
        obtain rfl := Option.some.inj H
        go_enter Tryd.func3, Tryd.ntmps3
        go_wp2_with (first | ((with_reducible refine gate_callee (f := 13) rfl ?_); refine goesL_ (some 6) rfl rfl Tryd.func13 (by kernel_rfl) rfl #[] rfl (by (try simp only [List.map_toArray, List.map_cons, List.map_nil]); first | done | rfl | (simp only [List.length_drop, List.length_take]; rfl)) ?_; (with_reducible refine (pennantlaw02_awake.calls k  true _ ?sideT A3.out).mono ?_); (case sideT => first | exact HT.out | (with_reducible refine TabOk.drewN ?_ _; exact HT.out) | exact HT.out.below (by repeat (first | (with_reducible first | exact HB.out | apply below_alloc | apply pw_below_drewN | apply below_drew1) | exact HB.out)) | exact HT.out.below (by repeat (first | (with_reducible first | exact HBW.out | apply below_alloc | apply pw_below_drewN | apply below_drew1) | exact HBW.out))); rintro e w13 ⟨rfl, hb⟩; refine ⟨_, rfl, ?_⟩; have n0_ := Aside0.mk (below_step (by repeat (first | (with_reducible first | exact HB.out | apply below_alloc | apply pw_below_drewN | apply below_drew1) | exact HB.out)) hb); clear HB; have HB := n0_; clear n0_; (try clear hb); (try clear hb2); (try clear hk); (try clear hi)) | (go_at_call 14; (with_reducible refine (crc_Sum.calls k _ _ l1 t110 _ ?side1 ?side2 ?sideT A7.out).mono ?_); (case sideT => first | exact HT.out | (with_reducible refine TabOk.drewN ?_ _; exact HT.out) | exact HT.out.below (by repeat (first | (with_reducible first | exact HB.out | apply below_alloc | apply pw_below_drewN | apply below_drew1) | exact HB.out)) | exact HT.out.below (by repeat (first | (with_reducible first | exact HBW.out | apply below_alloc | apply pw_below_drewN | apply below_drew1) | exact HBW.out))); (case side1 => repeat (first | exact (Kd.C_below HR1.out HB.out) | (with_reducible refine Kd.C_alloc ?_ _) | (with_reducible refine Kd.C_drewN ?_ _) | (with_reducible refine Kd.C_drew ?_))); (case side2 => exact HC1.out); rintro e w' ⟨rfl, ⟨nd, rfl⟩⟩) | (go_at_call 15; (with_reducible refine (pennantref02_Sum.calls k _ _ l1 t111 _ ?side1 ?side2 A8.out).mono ?_); (case side1 => repeat (first | exact (Kd.C_below HR1.out (by repeat (first | (with_reducible first | exact HB.out | apply below_alloc | apply pw_below_drewN | apply below_drew1) | exact HB.out))) | (with_reducible refine Kd.C_alloc ?_ _) | (with_reducible refine Kd.C_drewN ?_ _) | (with_reducible refine Kd.C_drew ?_))); (case side2 => exact HC1.out); rintro e w' ⟨rfl, ⟨nd, rfl⟩⟩))
        go_ret
        exact ⟨by first | rfl | (simp [errW_none, errW_some] <;> rfl) | (simp [*, errW_none, errW_some] <;> rfl), by repeat (first | (with_reducible first | exact HB.out | apply below_alloc | apply pw_below_drewN | apply below_drew1) | exact HB.out)⟩
    · replace c6 := Bool.eq_false_iff.mpr c6
      subst c6
      have H1 : (some false) = some r := by rw [if_neg (show ¬ (false = true) by decide)] at H; exact H
      clear H
      have H := H1
      clear H1
      obtain rfl := Option.some.inj H
      go_enter Tryd.func3, Tryd.ntmps3
      go_wp2_with (first | ((with_reducible refine gate_callee (f := 13) rfl ?_); refine goesL_ (some 6) rfl rfl Tryd.func13 (by kernel_rfl) rfl #[] rfl (by (try simp only [List.map_toArray, List.map_cons, List.map_nil]); first | done | rfl | (simp only [List.length_drop, List.length_take]; rfl)) ?_; (with_reducible refine (pennantlaw02_awake.calls k  false _ ?sideT A3.out).mono ?_); (case sideT => first | exact HT.out | (with_reducible refine TabOk.drewN ?_ _; exact HT.out) | exact HT.out.below (by repeat (first | (with_reducible first | exact HB.out | apply below_alloc | apply pw_below_drewN | apply below_drew1) | exact HB.out)) | exact HT.out.below (by repeat (first | (with_reducible first | exact HBW.out | apply below_alloc | apply pw_below_drewN | apply below_drew1) | exact HBW.out))); rintro e w14 ⟨rfl, hb⟩; refine ⟨_, rfl, ?_⟩; have n0_ := Aside0.mk (below_step (by repeat (first | (with_reducible first | exact HB.out | apply below_alloc | apply pw_below_drewN | apply below_drew1) | exact HB.out)) hb); clear HB; have HB := n0_; clear n0_; (try clear hb); (try clear hb2); (try clear hk); (try clear hi)))
      go_ret
      exact ⟨by first | rfl | (simp [errW_none, errW_some] <;> rfl) | (simp [*, errW_none, errW_some] <;> rfl), by repeat (first | (with_reducible first | exact HB.out | apply below_alloc | apply pw_below_drewN | apply below_drew1) | exact HB.out)⟩

/-- THE ONE PURE STATEMENT of pennantlaw02_CrcSums: yours. -/
def pennantlaw02_CrcSums.Pure : Prop := ∀ (a0 : Int) (l1 : List Int), (Lit.int .u32 a0).wf = true → l1.length ≤ maxLen → l1.length * 1 ≤ 140737488351232 → (∀ x ∈ l1, (Lit.int .u8 x).wf = true) → ∃ k, pennantlaw02_CrcSums.f k a0 l1 = some true
theorem pennantlaw02_CrcSums.walk (P : pennantlaw02_CrcSums.Pure) (a0 : Int) (a1 : Option Addr) (len1 cap1 : Nat) (z1 : List Int) (w : World) (hT : TabOk w) (w0 : (Lit.int .u32 a0).wf = true) (w1 : (a1 = none ∧ len1 = 0 ∧ cap1 = 0 ∧ z1 = []) ∨ ∃ x, a1 = some x ∧ len1 ≤ cap1 ∧ cap1 ≤ maxLen ∧ z1.length = cap1 ∧ (∀ i, i < z1.length → w.cell? (x.add i) = some (.int .u8 (z1.getD i 0))) ∧ ∀ n ∈ z1, (Lit.int .u8 n).wf = true) (y1 : len1 * 1 ≤ 140737488351232) :
    Calls Tryd.prog 3 #[.int .u32 a0, .slice a1 len1 cap1] w fun e w' => e = .returned (.bool true) ∧ Below w.heap.size w w' := by
  obtain ⟨l1, rfl, hr1, hm1, hw1, hc1⟩ := ReadsInt.ofRowC w1
  obtain ⟨k, h⟩ := P a0 l1 w0 hm1 y1 hw1
  refine (pennantlaw02_CrcSums.calls k a0 _ _ l1 true w (Kd.C_of_reads (d := (0 : Int)) (h1 := fun _ => rfl) hr1) hc1 hT h).mono ?_
  rintro e w' ⟨rfl, hd⟩
  exact ⟨rfl, hd⟩

end Go.Proofs.YtlbmfbbdfmmfnaaDoor.PCrcSums
