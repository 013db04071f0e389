-- WRITTEN BY A TURNED COPY of the print tool, with hand-written blocks: a text of this seat
import Derived.Test.YtlbmfbbdfmmfnaaDoorPCrcSealsx0
namespace Go.Proofs.YtlbmfbbdfmmfnaaDoor.PCrcSeals
open Go.RowKit Go.Proofs.YtlbmfbbdfmmfnaaDoorW.PrintWords Go.Proofs.YtlbmfbbdfmmfnaaDoorW.PrintLast Go.Proofs.YtlbmfbbdfmmfnaaDoorW.PrintMore
attribute [local go_sem] max2_int min2_int max_two min_two max_three min_three max_four min_four   -- for this text's walks alone
set_option linter.unusedVariables false
set_option linter.unusedSimpArgs false

/-! ### crc_Add: function 16 -/
-- BY HAND: the loop over the bytes, the loop of two steps within, the table's cells out of TabOk
def crc_Add.f (k : Nat) (a0 : Int) (l1 : List Int) : Option (Int) := if 0 ≤ a0 ∧ a0 < 4294967296 ∧ ∀ c ∈ l1, 0 ≤ c ∧ c ≤ 255 then some (crcFold (bits .and .u32 a0 16777215) l1) else none
theorem crc_Add.mono : ∀ a0 a1 k, LeO (crc_Add.f k a0 a1) (crc_Add.f (k + 1) a0 a1) := fun _ _ _ => LeO.refl _
set_option maxHeartbeats 1600000 in
set_option maxRecDepth 100000 in
theorem crc_Add.calls (k : Nat) (a0 : Int) (A1 : Option Addr) (c1 : Nat) (l1 : List Int) (r : Int) (w : World) (hr1 : Kd.C (Kd.int .u8) w A1 l1.length l1) (hc1 : l1.length ≤ c1) (hT : TabOk w) (h : crc_Add.f k a0 l1 = some r) :
    Calls Tryd.prog 16 #[.int .u32 a0, .slice A1 l1.length c1] w fun e w' => e = .returned (.int .u32 r) ∧ Drawn0 w w' := by
  have hl : l1.length ≤ 9223372036854775807 := hr1.2.1
  have HR1 := Aside0.mk hr1
  have HT := Aside0.mk hT
  unfold crc_Add.f at h
  split at h
  case isFalse => cases h
  case isTrue hq =>
  obtain ⟨ha0, ha1, hb⟩ := hq
  have hm := crcMask_range a0 ha0 ha1
  obtain ⟨s0, hs0⟩ : ∃ s0, bits .and .u32 a0 16777215 = s0 := ⟨_, rfl⟩
  rw [hs0] at h hm
  obtain rfl := Option.some.inj h
  have HS0 := Aside0.mk hs0
  have HB := Aside0.mk hb
  clear hr1 hT hb h hc1 hs0 ha0 ha1
  obtain ⟨hm0, hm1⟩ := hm
  go_enter Tryd.func16, Tryd.ntmps16
  go_wp2
  go_loopg [5, 12] l1.length (fun kq v5 v12 w' => ∃ (i : Nat), v5 = .int .u32 (crcFold s0 (l1.take i)) ∧ v12 = .int .i64 i ∧ i ≤ l1.length ∧ l1.length - i ≤ kq ∧ Drawn0 w w')
  case atStart => exact ⟨0, by rw [HS0.out]; rfl, rfl, Nat.zero_le _, by omega, Drawn0.refl _⟩
  case round =>
    obtain ⟨i, rfl, rfl, hi, hk, ⟨m1, rfl⟩⟩ := hrel
    by_cases c : i < l1.length
    · have hlt : (i : Int) < (l1.length : Int) := by omega
      obtain ⟨ad, e, hx⟩ := Kd.at_int HR1.out i (by omega) hlt
      cases e
      have hrd : rd l1 i = l1[i] := by simp [rd, List.getD_eq_getElem?_getD, List.getElem?_eq_getElem c]
      have hcb := HB.out l1[i] (List.getElem_mem c)
      have hsr := crcFold_range (l1.take i) s0 hm0 hm1 (fun x hx => HB.out x (List.mem_of_mem_take hx))
      have hnx : crcFold s0 (l1.take (i + 1)) = crcByte (crcFold s0 (l1.take i)) l1[i] := crcFold_take s0 l1 i c
      obtain ⟨cc, hcc⟩ : ∃ cc, l1[i] = cc := ⟨_, rfl⟩
      obtain ⟨s, hs⟩ : ∃ s, crcFold s0 (l1.take i) = s := ⟨_, rfl⟩
      obtain ⟨s', hs'⟩ : ∃ s, crcFold s0 (l1.take (i + 1)) = s := ⟨_, rfl⟩
      rw [Int.toNat_natCast] at hx
      rw [hrd] at hx
      rw [hcc] at hx hcb hnx
      rw [hs] at hsr hnx ⊢
      rw [hs'] at hnx
      have hmr := crcMix_range s cc hsr.1 hsr.2 hcb.1 hcb.2
      obtain ⟨hb0, hb1⟩ := hcb
      obtain ⟨hsr0, hsr1⟩ := hsr
      have HN := Aside0.mk hnx
      have HS' := Aside0.mk hs'
      clear hcc hs hrd hnx hs'
      go_wp2
      go_loopg [5, 21] 2 (fun kq v5 v21 w' => ∃ (j : Nat), v5 = .int .u32 (crcNibs (crcMix s cc) j) ∧ v21 = .int .i64 j ∧ j ≤ 2 ∧ 2 - j ≤ kq ∧ Drawn0 w w')
      case atStart => exact ⟨0, rfl, rfl, by omega, by omega, ⟨m1, rfl⟩⟩
      case round =>
        obtain ⟨j, rfl, rfl, hj, hk2, ⟨m2, rfl⟩⟩ := hrel
        by_cases c2 : j < 2
        · have hq := crcNibs_range (crcMix s cc) hmr.1 hmr.2 j
          obtain ⟨s2, hs2⟩ : ∃ s2, crcNibs (crcMix s cc) j = s2 := ⟨_, rfl⟩
          have hs3 : crcNibs (crcMix s cc) (j + 1) = crcNib s2 := by rw [← hs2]; rfl
          rw [hs2] at hq ⊢
          have HS3 := Aside0.mk hs3
          clear hs2 hs3
          obtain ⟨hq0, hq1⟩ := hq
          have ht := HT.out (s2 / 1048576).toNat (by omega)
          go_wp2
          go_roundg (2 - (j + 1))
          case rel => exact ⟨j + 1, by rw [HS3.out]; rfl, by go_num, by omega, by omega, ⟨m2, rfl⟩⟩
          case measure => omega
        · obtain rfl : j = 2 := by omega
          have hs3 : crcNibs (crcMix s cc) 2 = s' := by rw [HN.out]; rfl
          rw [hs3]
          clear hs3
          go_wp2
          go_roundg (l1.length - (i + 1))
          case rel => exact ⟨i + 1, by rw [HS'.out], by go_num, by omega, by omega, ⟨m2, rfl⟩⟩
          case measure => omega
    · obtain rfl : i = l1.length := by omega
      rw [List.take_length]
      go_wp2
      go_ret
      exact ⟨rfl, ⟨m1, rfl⟩⟩

/-! ### crc_Sum: function 14 -/
def crc_Sum.f (k : Nat) (l0 : List Int) : Option (Int) := (crc_Add.f k 11994318 l0).bind fun t102 => (some t102)
theorem crc_Sum.mono : ∀ a0 k, LeO (crc_Sum.f k a0) (crc_Sum.f (k + 1) a0) := by
  intro a0 k
  unfold crc_Sum.f
  repeat' first
      | (with_reducible exact crc_Add.mono _ _ _)
      | (with_reducible exact LeO.refl _)
      | (with_reducible exact LeO.none _)
      | (with_reducible refine LeO.ite ?_ ?_)
      | (with_reducible refine LeO.bind ?_ (fun _ => ?_))
      | exact crc_Add.mono _ _ _
      | exact LeO.none _
      | refine LeO.ite ?_ ?_
      | refine LeO.bind ?_ (fun _ => ?_)
set_option maxHeartbeats 8000000 in
set_option maxRecDepth 100000 in
theorem crc_Sum.calls (k : Nat) (A0 : Option Addr) (c0 : Nat) (l0 : List Int) (r : Int) (w : World) (hr0 : Kd.C (Kd.int .u8) w A0 l0.length l0) (hc0 : l0.length ≤ c0) (hT : TabOk w) (h : crc_Sum.f k l0 = some r) :
    Calls Tryd.prog 14 #[.slice A0 l0.length c0] w fun e w' => e = .returned (.int .u32 r) ∧ Drawn0 w w' := by
  have HT := Aside0.mk hT
  clear hT
  have HR0 := Aside0.mk hr0
  have HC0 := Aside0.mk hc0
  clear hr0 hc0
  have H : ((crc_Add.f k 11994318 l0).bind fun t102 => (some t102)) = some r := h
  clear h
  replace H := Option.bind_eq_some_iff.mp H
  obtain ⟨t102, A20, H⟩ := H
  replace H : (some t102) = some r := H
  have A2 := Aside0.mk A20
  clear A20
  obtain rfl := Option.some.inj H
  go_enter Tryd.func14, Tryd.ntmps14
  go_wp2_with (first | ((with_reducible refine gate_callee (f := 16) rfl ?_); refine goesL_ (some 4) rfl rfl Tryd.func16 (by kernel_rfl) rfl #[.int .u32 11994318, .slice A0 l0.length c0] rfl (by (try simp only [List.map_toArray, List.map_cons, List.map_nil]); first | done | rfl | (simp only [List.length_drop, List.length_take]; rfl)) ?_; (with_reducible refine (crc_Add.calls k 11994318 _ _ l0 t102 _ ?side1 ?side2 ?sideT A2.out).mono ?_); (case sideT => first | exact HT.out | (with_reducible refine TabOk.drewN ?_ _; exact HT.out) | exact HT.out.below (by repeat (first | (with_reducible first | exact HB.out | apply below_alloc | apply pw_below_drewN | apply below_drew1) | exact HB.out)) | exact HT.out.below (by repeat (first | (with_reducible first | exact HBW.out | apply below_alloc | apply pw_below_drewN | apply below_drew1) | exact HBW.out))); (case side1 => repeat (first | exact HR0.out | (with_reducible refine Kd.C_alloc ?_ _) | (with_reducible refine Kd.C_drewN ?_ _) | (with_reducible refine Kd.C_drew ?_))); (case side2 => exact HC0.out); rintro e w' ⟨rfl, ⟨nd, rfl⟩⟩; refine ⟨_, rfl, ?_⟩))
  go_ret
  exact ⟨by first | rfl | (simp; done) | (simp [*]; done), by repeat (first | exact Drawn0.refl _ | apply Drawn0.step)⟩

/-! ### pennantlaw02_awake: function 13 -/
-- BY HAND: the literal's row bears the run-time's mark behind its conversion
def pennantlaw02_awake.f (k : Nat)  : Option (Bool) := (crc_Sum.f k (([49, 50, 51, 52, 53, 54, 55, 56, 57] : List Int))).bind fun t106 => (some (t106 == 2215682))
theorem pennantlaw02_awake.mono : ∀ k, LeO (pennantlaw02_awake.f k ) (pennantlaw02_awake.f (k + 1) ) := fun k => LeO.bind (crc_Sum.mono _ k) (fun _ => LeO.refl _)
theorem awake_row (w : World) : Kd.C (Kd.int .u8) (w.alloc (.cells #[.int .u8 49, .int .u8 50, .int .u8 51, .int .u8 52, .int .u8 53, .int .u8 54, .int .u8 55, .int .u8 56, .int .u8 57] 5 (9, 10))) (some ⟨w.heap.size, 0, none⟩) ([49, 50, 51, 52, 53, 54, 55, 56, 57] : List Int).length [49, 50, 51, 52, 53, 54, 55, 56, 57] := by
  refine Kd.C_of_reads (d := (0 : Int)) (h1 := fun _ => rfl) ⟨rfl, by decide, fun _ => ⟨_, rfl, fun j hj => ?_⟩⟩
  rw [add_plain]
  have e := World.cell?_alloc_mark w #[.int .u8 49, .int .u8 50, .int .u8 51, .int .u8 52, .int .u8 53, .int .u8 54, .int .u8 55, .int .u8 56, .int .u8 57] 5 (9, 10) j
  rw [e]
  match j, hj with
  | 0, _ => rfl
  | 1, _ => rfl
  | 2, _ => rfl
  | 3, _ => rfl
  | 4, _ => rfl
  | 5, _ => rfl
  | 6, _ => rfl
  | 7, _ => rfl
  | 8, _ => rfl
set_option maxHeartbeats 1600000 in
set_option maxRecDepth 100000 in
theorem pennantlaw02_awake.calls (k : Nat)  (r : Bool) (w : World) (hT : TabOk w) (h : pennantlaw02_awake.f k  = some r) :
    Calls Tryd.prog 13 #[] w fun e w' => e = .returned (.bool r) ∧ Below w.heap.size w w' := by
  obtain ⟨t, hs, h⟩ := Option.bind_eq_some_iff.1 h
  obtain rfl := Option.some.inj h
  have HS := Aside0.mk (crc_Sum.calls k _ 9 _ t _ (awake_row w) (by decide) (hT.below ((Below.refl _ w).alloc (Nat.le_refl _) _)) hs)
  clear hs h hT
  have kc := fun (w : World) (C : Array Value) (n c : Nat) => Lib.run_convert_bytes_const (P := Tryd.prog) w 23 5 C n c Tryd.underlying23 Tryd.underlying5
  go_enter Tryd.func13, Tryd.ntmps13
  go_wp2_with (go_at_call 14; refine HS.out.mono ?_; rintro e w' ⟨rfl, ⟨nd, rfl⟩⟩)
  go_ret
  exact ⟨rfl, pw_below_drewN ((Below.refl _ _).alloc (Nat.le_refl _) _) _⟩

/-! ### crc_Open: function 18 -/
-- BY HAND: the guarded test, the cut
def crc_Open.f (k : Nat) (l0 : List Int) : Option (List Int × Bool) := if l0.length < 3 then some ([], false) else (crc_Sum.f k l0).bind fun t => if t = 0 then (if l0.length < 140737488355328 then some (l0.take (l0.length - 3), true) else none) else some ([], false)
theorem crc_Open.mono : ∀ a0 k, LeO (crc_Open.f k a0) (crc_Open.f (k + 1) a0) := by
  intro a0 k
  exact LeO.ite (LeO.refl _) (LeO.bind (crc_Sum.mono a0 k) (fun _ => LeO.refl _))
set_option maxHeartbeats 1600000 in
set_option maxRecDepth 100000 in
theorem crc_Open.calls (k : Nat) (A0 : Option Addr) (c0 : Nat) (l0 : List Int) (r1 : List Int) (r2 : Bool) (w : World) (hr0 : Kd.C (Kd.int .u8) w A0 l0.length l0) (hc0 : l0.length ≤ c0) (hT : TabOk w) (h : crc_Open.f k l0 = some (r1, r2)) :
    Calls Tryd.prog 18 #[.slice A0 l0.length c0] w fun e w' => ∃ v0_ : Value, e = .returned (.tuple #[v0_, .bool r2]) ∧ Kd.R (Kd.int .u8) 5 w' w.heap.size (fun _ => True) v0_ r1 ∧ Below w.heap.size w w' := by
  have hl : l0.length ≤ 9223372036854775807 := hr0.2.1
  unfold crc_Open.f at h
  by_cases c : l0.length < 3
  · rw [if_pos c] at h
    simp only [Option.some.injEq, Prod.mk.injEq] at h
    obtain ⟨rfl, rfl⟩ := h
    have hd : decide ((l0.length : Int) - 3 < 0) = true := decide_eq_true (by omega)
    have hi : (l0.length : Int) - 3 < 0 := by omega
    clear hr0 hT
    go_enter Tryd.func18, Tryd.ntmps18
    go_wp2
    go_ret2
    exact ⟨_, rfl, Kd.R_nil _ _ _ _ _, Below.refl _ _⟩
  · rw [if_neg c] at h
    obtain ⟨t, hs, h⟩ := Option.bind_eq_some_iff.1 h
    have HS := Aside0.mk (crc_Sum.calls k A0 c0 l0 t w hr0 hc0 hT hs)
    have HR0 := Aside0.mk hr0
    have hd : ¬ (l0.length : Int) - 3 < 0 := by omega
    have hd2 : decide ((l0.length : Int) - 3 < 0) = false := decide_eq_false (by omega)
    have HB := Aside0.mk (Below.refl w.heap.size w)
    by_cases c2 : t = 0
    · rw [if_pos c2] at h
      split at h
      case isFalse => cases h
      case isTrue c3 =>
      subst c2
      simp only [Option.some.injEq, Prod.mk.injEq] at h
      obtain ⟨h1, rfl⟩ := h
      have H1 := Aside0.mk h1
      obtain ⟨i09, hi09, _, hsz9, _⟩ := info_parts info5
      obtain ⟨hcut, hA, hC⟩ := print_take_of (P := Tryd.prog) (Value.int .u8) 0 23 5 .i64 Tryd.underlying23 hi09 hsz9 A0 c0 l0 ((l0.length : Int) - 3) (by omega) (by omega) hc0
      have e3 : ((l0.length : Int) - 3).toNat = l0.length - 3 := by omega
      rw [e3, h1] at hcut hA hC
      have HR1 := Aside0.mk (Kd.C_of_reads (h1 := fun _ => rfl) (hA _ (Kd.reads_of_C HR0.out)))
      have hr1 : r1.length ≤ 140737488355328 := by rw [← h1, List.length_take]; omega
      clear hr0 hT hs h1 hA hC hi09 hsz9 e3
      go_enter Tryd.func18, Tryd.ntmps18
      go_wp2_with (first
        | (go_at_call 14; refine HS.out.mono ?_; rintro e w' ⟨rfl, ⟨nd, rfl⟩⟩)
        | ((with_reducible refine gate_dst (N := 15) rfl ?_); refine Kd.R_lit (Kd.int .u8) _ 5 ?hg (N := 15) ?hd (xs := ([] : List Int)) (inner := []) (ok := fun _ => True) (okp := fun _ => True) ?hr ?hp (fun _ hk => hk) trivial (Below.refl _ _) (Nat.le_refl _) (by simp) ?_; (case hd => rfl); (case hg => rfl); (case hr => first | (go_simp; done) | (go_simp; rfl)); (case hp => exact (Reps.none _ _)); intro v145 w9 ho10 hb hg_ hnew_; clear hg_ hnew_; have n0_ := Aside0.mk (Kd.R_lower ho10 (below_size (pw_below_drewN HB.out _))); have n1_ := Aside0.mk (below_step (pw_below_drewN HB.out _) hb); clear HB; have HO1 := n0_; have HB := n1_; clear n0_ n1_; clear hb ho10; obtain ⟨Av1, cv1, ev1⟩ := Kd.R_slice HO1.out; subst ev1)
        | ((with_reducible refine gate_builtin (b := .append) (xs := #[.tmp 15, .tmp 18]) rfl ?_); at_builtin; refine Kd.R_append_rows (Kd.int .u8) (w0 := w) w.heap.size rfl (.tmp 15) (.tmp 18) 23 5 (.int .u8 0) 1 rfl Tryd.underlying23 info5 rfl (by decide) (by omega) _ [] r1 _ _ _ (fun _ => True) (fun _ => False) rfl rfl HO1.out (Kd.C_below HR1.out HB.out) (fun _ _ h => h) (fun _ h => h.elim) (fun _ _ => trivial) HB.out HB.out.size (by simp; omega) ?_; intro v2 w2 ho hb hg hat; have HO2 := Aside0.mk ho; clear HB HO1; have HB := Aside0.mk hb; clear ho hb hg hat))
      go_ret2
      exact ⟨_, rfl, Kd.R_mono HO2.out (fun _ _ => trivial), HB.out⟩
    · rw [if_neg c2] at h
      simp only [Option.some.injEq, Prod.mk.injEq] at h
      obtain ⟨rfl, rfl⟩ := h
      have c2b : (t == 0) = false := beq_eq_false_iff_ne.mpr c2
      have c2c : (t != 0) = true := bne_iff_ne.mpr c2
      clear hr0 hT hs c2
      go_enter Tryd.func18, Tryd.ntmps18
      go_wp2_with (go_at_call 14; refine HS.out.mono ?_; rintro e w' ⟨rfl, ⟨nd, rfl⟩⟩)
      go_ret2
      exact ⟨_, rfl, Kd.R_nil _ _ _ _ _, pw_below_drewN HB.out _⟩

/-! ### pennantref02_Add: function 17 -/
mutual
def pennantref02_Add.l0 : Nat → List Int → Int → Int → Option (Int)
  | 0, _, _, _ => none
  | k + 1, x1, x5, x6 => if x6 < (x1.length : Int) then (if 0 ≤ x6 then (pennantref02_Add.l1 k x1 (Go.bits .xor .u32 x5 ((((rd x1 x6) % 4294967296) * 65536) % 4294967296)) x6 0) else (none)) else (some x5)
def pennantref02_Add.l1 : Nat → List Int → Int → Int → Int → Option (Int)
  | 0, _, _, _, _ => none
  | k + 1, x1, x5, x6, x7 => if x7 < 8 then (if ((2 * x5) % 4294967296) ≥ 16777216 then (pennantref02_Add.l1 k x1 (Go.bits .xor .u32 ((2 * x5) % 4294967296) 25578747) x6 (wrap64 (x7 + 1))) else (pennantref02_Add.l1 k x1 ((2 * x5) % 4294967296) x6 (wrap64 (x7 + 1)))) else (pennantref02_Add.l0 k x1 x5 (wrap64 (x6 + 1)))
end
def pennantref02_Add.f (k : Nat) (a0 : Int) (l1 : List Int) : Option (Int) := pennantref02_Add.l0 k l1 (Int.tmod a0 16777216) 0
theorem pennantref02_Add.mono_l : ∀ k, (∀ y0 y1 y2, LeO (pennantref02_Add.l0 k y0 y1 y2) (pennantref02_Add.l0 (k + 1) y0 y1 y2)) ∧ (∀ y0 y1 y2 y3, LeO (pennantref02_Add.l1 k y0 y1 y2 y3) (pennantref02_Add.l1 (k + 1) y0 y1 y2 y3))
  | 0 => ⟨fun _ _ _ r h => by simp [pennantref02_Add.l0] at h, fun _ _ _ _ r h => by simp [pennantref02_Add.l1] at h⟩
  | k + 1 => by
    obtain ⟨ih0, ih1⟩ := pennantref02_Add.mono_l k
    refine ⟨?_, ?_⟩
    · intro y0 y1 y2
      unfold pennantref02_Add.l0
      repeat' first
      | (with_reducible exact ih0 _ _ _)
      | (with_reducible exact ih1 _ _ _ _)
      | (with_reducible exact LeO.refl _)
      | (with_reducible exact LeO.none _)
      | (with_reducible refine LeO.ite ?_ ?_)
      | (with_reducible refine LeO.bind ?_ (fun _ => ?_))
      | exact ih0 _ _ _
      | exact ih1 _ _ _ _
      | exact LeO.none _
      | refine LeO.ite ?_ ?_
      | refine LeO.bind ?_ (fun _ => ?_)
    · intro y0 y1 y2 y3
      unfold pennantref02_Add.l1
      repeat' first
      | (with_reducible exact ih0 _ _ _)
      | (with_reducible exact ih1 _ _ _ _)
      | (with_reducible exact LeO.refl _)
      | (with_reducible exact LeO.none _)
      | (with_reducible refine LeO.ite ?_ ?_)
      | (with_reducible refine LeO.bind ?_ (fun _ => ?_))
      | exact ih0 _ _ _
      | exact ih1 _ _ _ _
      | exact LeO.none _
      | refine LeO.ite ?_ ?_
      | refine LeO.bind ?_ (fun _ => ?_)
theorem pennantref02_Add.mono : ∀ a0 a1 k, LeO (pennantref02_Add.f k a0 a1) (pennantref02_Add.f (k + 1) a0 a1) := by
  intro a0 a1 k
  obtain ⟨ih0, ih1⟩ := pennantref02_Add.mono_l k
  unfold pennantref02_Add.f
  repeat' first
      | (with_reducible exact ih0 _ _ _)
      | (with_reducible exact ih1 _ _ _ _)
      | (with_reducible exact LeO.refl _)
      | (with_reducible exact LeO.none _)
      | (with_reducible refine LeO.ite ?_ ?_)
      | (with_reducible refine LeO.bind ?_ (fun _ => ?_))
      | exact ih0 _ _ _
      | exact ih1 _ _ _ _
      | exact LeO.none _
      | refine LeO.ite ?_ ?_
      | refine LeO.bind ?_ (fun _ => ?_)
set_option maxHeartbeats 8000000 in
set_option maxRecDepth 100000 in
theorem pennantref02_Add.calls (k : Nat) (a0 : Int) (A1 : Option Addr) (c1 : Nat) (l1 : List Int) (r : Int) (w : World) (hr1 : Kd.C (Kd.int .u8) w A1 l1.length l1) (hc1 : l1.length ≤ c1) (h : pennantref02_Add.f k a0 l1 = some r) :
    Calls Tryd.prog 17 #[.int .u32 a0, .slice A1 l1.length c1] w fun e w' => e = .returned (.int .u32 r) ∧ Drawn0 w w' := by
  have HR1 := Aside0.mk hr1
  have HC1 := Aside0.mk hc1
  clear hr1 hc1
  have H : (pennantref02_Add.l0 k l1 (Int.tmod a0 16777216) 0) = some r := h
  clear h
  have H' := Aside0.mk H
  clear H
  go_enter Tryd.func17, Tryd.ntmps17
  go_wp2
  go_loopg [5, 6] k (fun kq v5 v6 w' => ∃ (x5_1 : Int) (x6_1 : Int), v5 = .int .u32 x5_1 ∧ v6 = .int .i64 x6_1 ∧ Aside0 (pennantref02_Add.l0 kq l1 x5_1 x6_1 = some r) ∧ Aside0 (kq ≤ k) ∧ Drawn0 w w')
  case atStart => exact ⟨(Int.tmod a0 16777216), (0), (by first | rfl | (simp; done) | (simp [*]; done)), (by first | rfl | (simp; done) | (simp [*]; done)), H', ⟨Nat.le_refl _⟩, by repeat (first | exact Drawn0.refl _ | apply Drawn0.step)⟩
  case round =>
    clear H'
    try clear c1
    try clear p2
    obtain ⟨x5_1, x6_1, rfl, rfl, HA, HK1, ⟨m1, rfl⟩⟩ := hrel
    cases gk with
    | zero => exact absurd HA.out (by simp [pennantref02_Add.l0])
    | succ k1 =>
      have H := HA.out
      clear HA
      simp only [pennantref02_Add.l0] at H
      by_cases c3 : x6_1 < (l1.length : Int)
      · rw [if_pos c3] at H
        have c3b0 : decide (x6_1 < (l1.length : Int)) = true := decide_eq_true c3
        clear c3
        by_cases c4 : 0 ≤ x6_1
        · rw [if_pos c4] at H
          have c4b0 : decide (0 ≤ x6_1) = true := decide_eq_true c4
          clear c4
          have H' := Aside0.mk H
          clear H
          have p108 : 0 ≤ (x6_1 : Int) := of_decide_eq_true (by first | (with_reducible assumption) | assumption)
          have q108 : x6_1 < (l1.length : Int) := of_decide_eq_true (by first | (with_reducible assumption) | assumption)
          obtain ⟨ad108, e108, hx108_0⟩ := Kd.at_int HR1.out x6_1 p108 q108
          cases e108
          replace p108 := eq_true p108
          replace q108 := eq_true q108
          go_wp2
          go_loopg [5, 7] k1 (fun kq v5 v7 w' => ∃ (x5_2 : Int) (x7_2 : Int), v5 = .int .u32 x5_2 ∧ v7 = .int .i64 x7_2 ∧ Aside0 (pennantref02_Add.l1 kq l1 x5_2 x6_1 x7_2 = some r) ∧ Aside0 (kq ≤ k1) ∧ Drawn0 w w')
          case atStart => exact ⟨(Go.bits .xor .u32 x5_1 ((((rd l1 x6_1) % 4294967296) * 65536) % 4294967296)), (0), (by first | rfl | (simp; done) | (simp [*]; done)), (by first | rfl | (simp; done) | (simp [*]; done)), H', ⟨Nat.le_refl _⟩, by repeat (first | exact Drawn0.refl _ | apply Drawn0.step)⟩
          case round =>
            clear H'
            try clear c1
            try clear p1
            try clear q1
            try clear hx1
            try clear p2
            try clear c3
            try clear c3b0
            try clear c4
            try clear c4b0
            try clear hx108_0
            try clear p108
            try clear p2
            try clear q108
            obtain ⟨x5_2, x7_2, rfl, rfl, HA, HK2, ⟨m2, rfl⟩⟩ := hrel
            cases gk with
            | zero => exact absurd HA.out (by simp [pennantref02_Add.l1])
            | succ k2 =>
              have H := HA.out
              clear HA
              simp only [pennantref02_Add.l1] at H
              by_cases c5 : x7_2 < 8
              · rw [if_pos c5] at H
                have c5b0 : decide (x7_2 < 8) = true := decide_eq_true c5
                clear c5
                by_cases c6 : ((2 * x5_2) % 4294967296) ≥ 16777216
                · rw [if_pos c6] at H
                  have c6b0 : decide (16777216 ≤ ((2 * x5_2) % 4294967296)) = true := decide_eq_true c6
                  clear c6
                  have H' := Aside0.mk H
                  clear H
                  go_wp2
                  go_roundg k2
                  case measure => have := HK1.out; have := HK2.out; omega
                  case rel => exact ⟨(Go.bits .xor .u32 ((2 * x5_2) % 4294967296) 25578747), (wrap64 (x7_2 + 1)), (by first | rfl | (simp; done) | (simp [*]; done)), (by first | rfl | (simp; done) | (simp [*]; done)), H', ⟨by have := HK1.out; have := HK2.out; omega⟩, by repeat (first | exact Drawn0.refl _ | apply Drawn0.step)⟩
                · rw [if_neg c6] at H
                  have c6b0 : decide (16777216 ≤ ((2 * x5_2) % 4294967296)) = false := decide_eq_false c6
                  clear c6
                  have H' := Aside0.mk H
                  clear H
                  go_wp2
                  go_roundg k2
                  case measure => have := HK1.out; have := HK2.out; omega
                  case rel => exact ⟨((2 * x5_2) % 4294967296), (wrap64 (x7_2 + 1)), (by first | rfl | (simp; done) | (simp [*]; done)), (by first | rfl | (simp; done) | (simp [*]; done)), H', ⟨by have := HK1.out; have := HK2.out; omega⟩, by repeat (first | exact Drawn0.refl _ | apply Drawn0.step)⟩
              · rw [if_neg c5] at H
                have c5b0 : decide (x7_2 < 8) = false := decide_eq_false c5
                clear c5
                have H' := Aside0.mk H
                clear H
                go_wp2
                go_roundg k2
                case measure => have := HK1.out; have := HK2.out; omega
                case rel => exact ⟨(x5_2), (wrap64 (x6_1 + 1)), (by first | rfl | (simp; done) | (simp [*]; done)), (by first | rfl | (simp; done) | (simp [*]; done)), H', ⟨by have := HK1.out; have := HK2.out; omega⟩, by repeat (first | exact Drawn0.refl _ | apply Drawn0.step)⟩
        · rw [if_neg c4] at H
          exact absurd H (by simp)
      · rw [if_neg c3] at H
        have c3b0 : decide (x6_1 < (l1.length : Int)) = false := decide_eq_false c3
        clear c3
        obtain rfl := Option.some.inj H
        go_wp2
        go_ret
        exact ⟨by first | rfl | (simp; done) | (simp [*]; done), by repeat (first | exact Drawn0.refl _ | apply Drawn0.step)⟩

/-! ### pennantref02_Sum: function 15 -/
def pennantref02_Sum.f (k : Nat) (l0 : List Int) : Option (Int) := (pennantref02_Add.f k 11994318 l0).bind fun t109 => (some t109)
theorem pennantref02_Sum.mono : ∀ a0 k, LeO (pennantref02_Sum.f k a0) (pennantref02_Sum.f (k + 1) a0) := by
  intro a0 k
  unfold pennantref02_Sum.f
  repeat' first
      | (with_reducible exact pennantref02_Add.mono _ _ _)
      | (with_reducible exact LeO.refl _)
      | (with_reducible exact LeO.none _)
      | (with_reducible refine LeO.ite ?_ ?_)
      | (with_reducible refine LeO.bind ?_ (fun _ => ?_))
      | exact pennantref02_Add.mono _ _ _
      | exact LeO.none _
      | refine LeO.ite ?_ ?_
      | refine LeO.bind ?_ (fun _ => ?_)
set_option maxHeartbeats 8000000 in
set_option maxRecDepth 100000 in
theorem pennantref02_Sum.calls (k : Nat) (A0 : Option Addr) (c0 : Nat) (l0 : List Int) (r : Int) (w : World) (hr0 : Kd.C (Kd.int .u8) w A0 l0.length l0) (hc0 : l0.length ≤ c0) (h : pennantref02_Sum.f k l0 = some r) :
    Calls Tryd.prog 15 #[.slice A0 l0.length c0] w fun e w' => e = .returned (.int .u32 r) ∧ Drawn0 w w' := by
  have HR0 := Aside0.mk hr0
  have HC0 := Aside0.mk hc0
  clear hr0 hc0
  have H : ((pennantref02_Add.f k 11994318 l0).bind fun t109 => (some t109)) = some r := h
  clear h
  replace H := Option.bind_eq_some_iff.mp H
  obtain ⟨t109, A20, H⟩ := H
  replace H : (some t109) = some r := H
  have A2 := Aside0.mk A20
  clear A20
  obtain rfl := Option.some.inj H
  go_enter Tryd.func15, Tryd.ntmps15
  go_wp2_with (first | ((with_reducible refine gate_callee (f := 17) rfl ?_); refine goesL_ (some 4) rfl rfl Tryd.func17 (by kernel_rfl) rfl #[.int .u32 11994318, .slice A0 l0.length c0] rfl (by (try simp only [List.map_toArray, List.map_cons, List.map_nil]); first | done | rfl | (simp only [List.length_drop, List.length_take]; rfl)) ?_; (with_reducible refine (pennantref02_Add.calls k 11994318 _ _ l0 t109 _ ?side1 ?side2 A2.out).mono ?_); (case side1 => repeat (first | exact HR0.out | (with_reducible refine Kd.C_alloc ?_ _) | (with_reducible refine Kd.C_drewN ?_ _) | (with_reducible refine Kd.C_drew ?_))); (case side2 => exact HC0.out); rintro e w' ⟨rfl, ⟨nd, rfl⟩⟩; refine ⟨_, rfl, ?_⟩))
  go_ret
  exact ⟨by first | rfl | (simp; done) | (simp [*]; done), by repeat (first | exact Drawn0.refl _ | apply Drawn0.step)⟩

/-! ### pennantref02_Seal: function 21 -/
def pennantref02_Seal.f (k : Nat) (l0 : List Int) : Option (List Int) := (pennantref02_Sum.f k l0).bind fun t110 => ((some (([] : List Int) : List Int)).bind fun y111 => (if y111.length + l0.length < 140737488355328 then ((some (y111 ++ l0 : List Int)).bind fun y114 => ((some (([((Int.tdiv t110 65536) % 4294967296) % 256, ((Int.tdiv t110 256) % 4294967296) % 256, (Int.tmod t110 256) % 256] : List Int) : List Int)).bind fun y117 => (if y114.length + y117.length < 140737488355328 then (some (y114 ++ y117)) else (none)))) else (none)))
theorem pennantref02_Seal.mono : ∀ a0 k, LeO (pennantref02_Seal.f k a0) (pennantref02_Seal.f (k + 1) a0) := by
  intro a0 k
  unfold pennantref02_Seal.f
  repeat' first
      | (with_reducible exact pennantref02_Sum.mono _ _)
      | (with_reducible exact LeO.refl _)
      | (with_reducible exact LeO.none _)
      | (with_reducible refine LeO.ite ?_ ?_)
      | (with_reducible refine LeO.bind ?_ (fun _ => ?_))
      | exact pennantref02_Sum.mono _ _
      | exact LeO.none _
      | refine LeO.ite ?_ ?_
      | refine LeO.bind ?_ (fun _ => ?_)
set_option maxHeartbeats 8000000 in
set_option maxRecDepth 100000 in
theorem pennantref02_Seal.calls (k : Nat) (A0 : Option Addr) (c0 : Nat) (l0 : List Int) (r : List Int) (w : World) (hr0 : Kd.C (Kd.int .u8) w A0 l0.length l0) (hc0 : l0.length ≤ c0) (h : pennantref02_Seal.f k l0 = some r) :
    Calls Tryd.prog 21 #[.slice A0 l0.length c0] w fun e w' => ∃ v0_ : Value, e = .returned (v0_) ∧ Kd.R (Kd.int .u8) 5 w' w.heap.size (fun _ => True) v0_ r ∧ Below w.heap.size w w' := by
  have HR0 := Aside0.mk hr0
  have HC0 := Aside0.mk hc0
  clear hr0 hc0
  have HB := Aside0.mk (Below.refl w.heap.size w)
  have H : ((pennantref02_Sum.f k l0).bind fun t110 => ((some (([] : List Int) : List Int)).bind fun y111 => (if y111.length + l0.length < 140737488355328 then ((some (y111 ++ l0 : List Int)).bind fun y114 => ((some (([((Int.tdiv t110 65536) % 4294967296) % 256, ((Int.tdiv t110 256) % 4294967296) % 256, (Int.tmod t110 256) % 256] : List Int) : List Int)).bind fun y117 => (if y114.length + y117.length < 140737488355328 then (some (y114 ++ y117)) else (none)))) else (none)))) = some r := h
  clear h
  replace H := Option.bind_eq_some_iff.mp H
  obtain ⟨t110, A20, H⟩ := H
  replace H : ((some (([] : List Int) : List Int)).bind fun y111 => (if y111.length + l0.length < 140737488355328 then ((some (y111 ++ l0 : List Int)).bind fun y114 => ((some (([((Int.tdiv t110 65536) % 4294967296) % 256, ((Int.tdiv t110 256) % 4294967296) % 256, (Int.tmod t110 256) % 256] : List Int) : List Int)).bind fun y117 => (if y114.length + y117.length < 140737488355328 then (some (y114 ++ y117)) else (none)))) else (none))) = some r := H
  have A2 := Aside0.mk A20
  clear A20
  obtain ⟨y111, hy111⟩ : ∃ y_ : List Int, y_ = (([] : List Int)) := ⟨_, rfl⟩
  replace H : (if y111.length + l0.length < 140737488355328 then ((some (y111 ++ l0 : List Int)).bind fun y114 => ((some (([((Int.tdiv t110 65536) % 4294967296) % 256, ((Int.tdiv t110 256) % 4294967296) % 256, (Int.tmod t110 256) % 256] : List Int) : List Int)).bind fun y117 => (if y114.length + y117.length < 140737488355328 then (some (y114 ++ y117)) else (none)))) else (none)) = some r := by first | (rw [hy111]; with_reducible exact H) | (have H2_ := (Option.bind_some _ _).symm.trans H; rw [hy111]; with_reducible exact H2_) | (have H2_ := (Option.bind_some _ _).symm.trans H; with_reducible exact H2_) | with_reducible exact H | (rw [hy111]; exact H) | exact H
  have Ny111 := Aside0.mk hy111
  clear hy111
  by_cases c3 : y111.length + l0.length < 140737488355328
  · rw [if_pos c3] at H
    have LMc3 := Aside0.mk c3
    clear c3
    obtain ⟨y114, hy114⟩ : ∃ y_ : List Int, y_ = (y111 ++ l0) := ⟨_, rfl⟩
    replace H : ((some (([((Int.tdiv t110 65536) % 4294967296) % 256, ((Int.tdiv t110 256) % 4294967296) % 256, (Int.tmod t110 256) % 256] : List Int) : List Int)).bind fun y117 => (if y114.length + y117.length < 140737488355328 then (some (y114 ++ y117)) else (none))) = some r := by first | (rw [hy114]; with_reducible exact H) | (have H2_ := (Option.bind_some _ _).symm.trans H; rw [hy114]; with_reducible exact H2_) | (have H2_ := (Option.bind_some _ _).symm.trans H; with_reducible exact H2_) | with_reducible exact H | (rw [hy114]; exact H) | exact H
    have Ny114 := Aside0.mk hy114
    clear hy114
    obtain ⟨y117, hy117⟩ : ∃ y_ : List Int, y_ = (([((Int.tdiv t110 65536) % 4294967296) % 256, ((Int.tdiv t110 256) % 4294967296) % 256, (Int.tmod t110 256) % 256] : List Int)) := ⟨_, rfl⟩
    replace H : (if y114.length + y117.length < 140737488355328 then (some (y114 ++ y117)) else (none)) = some r := by first | (rw [hy117]; with_reducible exact H) | (have H2_ := (Option.bind_some _ _).symm.trans H; rw [hy117]; with_reducible exact H2_) | (have H2_ := (Option.bind_some _ _).symm.trans H; with_reducible exact H2_) | with_reducible exact H | (rw [hy117]; exact H) | exact H
    have Ny117 := Aside0.mk hy117
    clear hy117
    by_cases c4 : y114.length + y117.length < 140737488355328
    · rw [if_pos c4] at H
      have LMc4 := Aside0.mk c4
      clear c4
      obtain ⟨y120, hy120⟩ : ∃ y_ : List Int, y_ = (y114 ++ y117) := ⟨_, rfl⟩
      replace H : (some y120) = some r := by first | (rw [hy120]; with_reducible exact H) | (have H2_ := (Option.bind_some _ _).symm.trans H; rw [hy120]; with_reducible exact H2_) | (have H2_ := (Option.bind_some _ _).symm.trans H; with_reducible exact H2_) | with_reducible exact H | (rw [hy120]; exact H) | exact H
      have Ny120 := Aside0.mk hy120
      clear hy120
      obtain rfl := Option.some.inj H
      go_enter Tryd.func21, Tryd.ntmps21
      go_wp2_with (first | ((with_reducible refine gate_callee (f := 15) rfl ?_); refine goesL_ (some 5) rfl rfl Tryd.func15 (by kernel_rfl) rfl #[.slice A0 l0.length c0] rfl (by (try simp only [List.map_toArray, List.map_cons, List.map_nil]); first | done | rfl | (simp only [List.length_drop, List.length_take]; rfl)) ?_; (with_reducible refine (pennantref02_Sum.calls k _ _ l0 t110 _ ?side1 ?side2 A2.out).mono ?_); (case side1 => repeat (first | exact HR0.out | (with_reducible refine Kd.C_alloc ?_ _) | (with_reducible refine Kd.C_drewN ?_ _) | (with_reducible refine Kd.C_drew ?_))); (case side2 => exact HC0.out); rintro e w' ⟨rfl, ⟨nd, rfl⟩⟩; refine ⟨_, rfl, ?_⟩) | ((with_reducible refine gate_dst (N := 6) rfl ?_); refine Kd.R_lit (Kd.int .u8) _ 5 ?hg (N := 6) ?hd (xs := ([] : List Int)) (inner := []) (ok := fun _ => True) (okp := fun _ => True) ?hr ?hp (fun _ hk => hk) trivial (Below.refl _ _) (Nat.le_refl _) (by simp) ?_; (case hd => rfl); (case hg => rfl); (case hr => first | (go_simp; done) | (go_simp; rfl)); (case hp => exact (Reps.none _ _)); intro v112 w5 ho6 hb hg_ hnew_; clear hg_ hnew_; (first | rw [← Ny111.out] at ho6 | (simp only [Int.reduceToNat] at ho6; rw [← Ny111.out] at ho6)); have n0_ := Aside0.mk (Kd.R_lower ho6 (below_size (by repeat (first | (with_reducible first | exact HB.out | apply below_alloc | apply pw_below_drewN | apply below_drew1) | exact HB.out)))); have n1_ := Aside0.mk (below_step (by repeat (first | (with_reducible first | exact HB.out | apply below_alloc | apply pw_below_drewN | apply below_drew1) | exact HB.out)) hb); clear HB; have HO113 := n0_; have HB := n1_; clear n0_ n1_; clear hb ho6) | ((with_reducible refine gate_builtin (b := .append) (xs := #[.tmp 6, .tmp 7]) rfl ?_); at_builtin; refine Kd.R_append_rows (Kd.int .u8) (w0 := w) w.heap.size rfl (.tmp 6) (.tmp 7) 23 5 (.int .u8 0) 1 rfl Tryd.underlying23 info5 rfl (by decide) (by omega) v112 y111 l0 _ _ _ (fun _ => True) (fun _ => False) rfl rfl ?aO ?aR (fun _ _ h => h) (fun _ h => h.elim) ?aF ?aB ?aS ?aL ?_; (case aR => repeat (first | exact (Kd.C_below HR0.out HB.out) | (with_reducible refine Kd.C_alloc ?_ _) | (with_reducible refine Kd.C_drewN ?_ _) | (with_reducible refine Kd.C_drew ?_))); (case aB => exact (by repeat (first | (with_reducible first | exact HB.out | apply below_alloc | apply pw_below_drewN | apply below_drew1) | exact HB.out))); (case aF => exact (fun _ _ => trivial)); (case aO => exact (by (with_reducible repeat (first | apply Kd.R_alloc | apply Kd.R_drewN | apply Kd.R_drew)); exact HO113.out)); (case aS => exact (below_size (by repeat (first | (with_reducible first | exact HB.out | apply below_alloc | apply pw_below_drewN | apply below_drew1) | exact HB.out)))); (case aL => have := LMc3.out; omega); intro v115 w7 ho hb hg hat; rw [← Ny114.out] at ho; have n0_ := Aside0.mk (hb); have n1_ := Aside0.mk (ho); clear HB; clear HO113; have HB := n0_; have HO116 := n1_; clear n0_ n1_; clear ho hb hg hat) | ((with_reducible refine gate_dst (N := 19) rfl ?_); refine Kd.R_lit (Kd.int .u8) _ 5 ?hg (N := 19) ?hd (xs := ([((Int.tdiv t110 65536) % 4294967296) % 256, ((Int.tdiv t110 256) % 4294967296) % 256, (Int.tmod t110 256) % 256] : List Int)) (inner := [.int .u8 (((Int.tdiv t110 65536) % 4294967296) % 256), .int .u8 (((Int.tdiv t110 256) % 4294967296) % 256), .int .u8 ((Int.tmod t110 256) % 256)]) (ok := fun _ => True) (okp := fun _ => True) ?hr ?hp (fun _ hk => hk) trivial (Below.refl _ _) (Nat.le_refl _) (by simp) ?_; (case hd => rfl); (case hg => rfl); (case hr => first | (go_simp; done) | (go_simp; rfl)); (case hp => exact (Reps.one (show Kd.M (Kd.int .u8) _ _ _ (((Int.tdiv t110 65536) % 4294967296) % 256) [.int .u8 (((Int.tdiv t110 65536) % 4294967296) % 256)] from rfl) (Reps.one (show Kd.M (Kd.int .u8) _ _ _ (((Int.tdiv t110 256) % 4294967296) % 256) [.int .u8 (((Int.tdiv t110 256) % 4294967296) % 256)] from rfl) (Reps.one (show Kd.M (Kd.int .u8) _ _ _ ((Int.tmod t110 256) % 256) [.int .u8 ((Int.tmod t110 256) % 256)] from rfl) (Reps.none _ _))))); intro v118 w8 ho9 hb hg_ hnew_; clear hg_ hnew_; (first | rw [← Ny117.out] at ho9 | (simp only [Int.reduceToNat] at ho9; rw [← Ny117.out] at ho9)); have n0_ := Aside0.mk (Kd.R_elder' (by (with_reducible repeat (first | apply Kd.R_alloc | apply Kd.R_drewN | apply Kd.R_drew)); exact HO116.out) (Kd.R_base ho9) hb); have n1_ := Aside0.mk (Kd.R_lower (Kd.R_new' ho9 (Kd.R_lt (by (with_reducible repeat (first | apply Kd.R_alloc | apply Kd.R_drewN | apply Kd.R_drew)); exact HO116.out))) (below_size (by repeat (first | (with_reducible first | exact HB.out | apply below_alloc | apply pw_below_drewN | apply below_drew1) | exact HB.out)))); have n2_ := Aside0.mk (below_step (by repeat (first | (with_reducible first | exact HB.out | apply below_alloc | apply pw_below_drewN | apply below_drew1) | exact HB.out)) hb); clear HO116; clear HB; have HO116 := n0_; have HO119 := n1_; have HB := n2_; clear n0_ n1_ n2_; clear hb ho9; obtain ⟨Ao11, co11, eo11⟩ := Kd.R_slice HO119.out; subst eo11) | ((with_reducible refine gate_builtin (b := .append) (xs := #[.tmp 8, .tmp 19]) rfl ?_); at_builtin; refine Kd.R_append_rows (Kd.int .u8) (w0 := w) w.heap.size rfl (.tmp 8) (.tmp 19) 23 5 (.int .u8 0) 1 rfl Tryd.underlying23 info5 rfl (by decide) (by omega) v115 y114 y117 _ _ _ (fun k_ => some k_ ≠ (.slice Ao11 y117.length co11 : Value).ownBlock) (fun _ => False) rfl rfl ?aO ?aR (fun _ _ h => h) (fun _ h => h.elim) ?aF ?aB ?aS ?aL ?_; (case aR => repeat (first | exact (Kd.R_reads' HO119.out).2.2 | (with_reducible refine Kd.C_alloc ?_ _) | (with_reducible refine Kd.C_drewN ?_ _) | (with_reducible refine Kd.C_drew ?_))); (case aB => exact (by repeat (first | (with_reducible first | exact HB.out | apply below_alloc | apply pw_below_drewN | apply below_drew1) | exact HB.out))); (case aF => exact (fun k_ hk => Kd.fresh' (Kd.R_lt (by (with_reducible repeat (first | apply Kd.R_alloc | apply Kd.R_drewN | apply Kd.R_drew)); exact HO119.out)) k_ hk)); (case aO => exact (by (with_reducible repeat (first | apply Kd.R_alloc | apply Kd.R_drewN | apply Kd.R_drew)); exact Kd.R_mono HO116.out (fun _ hk => hk.2))); (case aS => exact (below_size (by repeat (first | (with_reducible first | exact HB.out | apply below_alloc | apply pw_below_drewN | apply below_drew1) | exact HB.out)))); (case aL => have := LMc4.out; omega); intro v121 w10 ho hb hg hat; rw [← Ny120.out] at ho; have n0_ := Aside0.mk (Kd.R_after (ok := (fun _ => True)) (by (with_reducible repeat (first | apply Kd.R_alloc | apply Kd.R_drewN | apply Kd.R_drew)); exact HO119.out) hg hat); have n1_ := Aside0.mk (hb); have n2_ := Aside0.mk (ho); clear HO119; clear HB; clear HO116; have HO119 := n0_; have HB := n1_; have HO122 := n2_; clear n0_ n1_ n2_; clear ho hb hg hat))
      go_ret
      exact ⟨_, by first | rfl | (simp [errW_none, errW_some] <;> rfl) | (simp [*, errW_none, errW_some] <;> rfl), by (with_reducible repeat (first | apply Kd.R_alloc | apply Kd.R_drewN | apply Kd.R_drew)); exact Kd.R_mono HO122.out (fun _ hk => trivial), by repeat (first | (with_reducible first | exact HB.out | apply below_alloc | apply pw_below_drewN | apply below_drew1) | exact HB.out)⟩
    · rw [if_neg c4] at H
      exact absurd H (by simp)
  · rw [if_neg c3] at H
    exact absurd H (by simp)

/-! ### pennantref02_Open: function 19 -/
-- BY HAND: the test over two strings draws its order
def pennantref02_Open.f (k : Nat) (l0 : List Int) : Option (List Int × Bool) := if l0.length < 3 then some ([], false) else (pennantref02_Seal.f k (l0.take (l0.length - 3))).bind fun t => if (strOfNums t).toList = (strOfNums l0).toList then (if l0.length < 140737488355328 then some (l0.take (l0.length - 3), true) else none) else some ([], false)
theorem pennantref02_Open.mono : ∀ a0 k, LeO (pennantref02_Open.f k a0) (pennantref02_Open.f (k + 1) a0) := by
  intro a0 k
  exact LeO.ite (LeO.refl _) (LeO.bind (pennantref02_Seal.mono _ k) (fun _ => LeO.refl _))
theorem below_undrew {w w1 : World} (h : Below w.drew.heap.size w.drew w1) : Below w.heap.size w w1 := ⟨h.os, h.tape, h.output, h.size, h.block⟩
set_option maxHeartbeats 1600000 in
set_option maxRecDepth 100000 in
theorem pennantref02_Open.calls (k : Nat) (A0 : Option Addr) (c0 : Nat) (l0 : List Int) (r1 : List Int) (r2 : Bool) (w : World) (hr0 : Kd.C (Kd.int .u8) w A0 l0.length l0) (hc0 : l0.length ≤ c0) (h : pennantref02_Open.f k l0 = some (r1, r2)) :
    Calls Tryd.prog 19 #[.slice A0 l0.length c0] w fun e w' => ∃ v0_ : Value, e = .returned (.tuple #[v0_, .bool r2]) ∧ Kd.R (Kd.int .u8) 5 w' w.heap.size (fun _ => True) v0_ r1 ∧ Below w.heap.size w w' := by
  have hl : l0.length ≤ 9223372036854775807 := hr0.2.1
  unfold pennantref02_Open.f at h
  by_cases c : l0.length < 3
  · rw [if_pos c] at h
    simp only [Option.some.injEq, Prod.mk.injEq] at h
    obtain ⟨rfl, rfl⟩ := h
    have hi : (l0.length : Int) < 3 := by omega
    clear hr0
    go_enter Tryd.func19, Tryd.ntmps19
    go_wp2
    go_ret2
    exact ⟨_, rfl, Kd.R_nil _ _ _ _ _, Below.refl _ _⟩
  · rw [if_neg c] at h
    obtain ⟨t, hs, h⟩ := Option.bind_eq_some_iff.1 h
    have hd2 : decide ((l0.length : Int) < 3) = false := decide_eq_false (by omega)
    have hd3 : ¬ (l0.length : Int) < 3 := by omega
    obtain ⟨i09, hi09, _, hsz9, _⟩ := info_parts info5
    obtain ⟨hcut, hA, hC⟩ := print_take_of (P := Tryd.prog) (Value.int .u8) 0 23 5 .i64 Tryd.underlying23 hi09 hsz9 A0 c0 l0 ((l0.length : Int) - 3) (by omega) (by omega) hc0
    have e3 : ((l0.length : Int) - 3).toNat = l0.length - 3 := by omega
    rw [e3] at hcut hA hC
    have hq2 : (l0.take (l0.length - 3)).length ≤ l0.length := by rw [List.length_take]; omega
    obtain ⟨q, hq⟩ : ∃ q, l0.take (l0.length - 3) = q := ⟨_, rfl⟩
    rw [hq] at hcut hA hC hs h hq2
    have HR0 := Aside0.mk hr0
    have HR1 := Aside0.mk (Kd.C_of_reads (h1 := fun _ => rfl) (hA _ (Kd.reads_of_C hr0)))
    have HS := Aside0.mk (fun (w1 : World) (hb : Below w.heap.size w w1) => pennantref02_Seal.calls k A0 c0 q t w1 (Kd.C_below HR1.out hb) hC hs)
    have HCV := Aside0.mk (fun (W : World) (h : Kd.C (Kd.int .u8) W A0 l0.length l0) => Kd.C_string (P := Tryd.prog) (src := 23) (dst := 9) (e := 5) (c := c0) Tryd.underlying23 Tryd.underlying5 Tryd.underlying9 h)
    have h0 := HCV.out w.drew hr0
    clear hr0 hA hC hi09 hsz9 e3 hq hs
    by_cases c2 : (strOfNums t).toList = (strOfNums l0).toList
    · rw [if_pos c2] at h
      split at h
      case isFalse => cases h
      case isTrue c3 =>
      simp only [Option.some.injEq, Prod.mk.injEq] at h
      obtain ⟨rfl, rfl⟩ := h
      have hn1 : ((strOfNums t).toList == (strOfNums l0).toList) = true := beq_iff_eq.mpr c2
      have hn2 : ((strOfNums t).toList != (strOfNums l0).toList) = false := bne_eq_false_iff_eq.mpr c2
      clear c2
      go_enter Tryd.func19, Tryd.ntmps19
      go_wp2
      go_region_with (go_at_call 21; refine (HS.out _ ((Below.refl _ _).drew)).mono ?_; rintro e w1 ⟨v0, rfl, hR, hb0⟩; have hb := below_undrew hb0; clear hb0; have h1 := HCV.out w1 (Kd.C_below HR0.out hb); obtain ⟨Av1, cv1, ev1⟩ := Kd.R_slice hR; subst ev1; have h2 := Kd.C_string (P := Tryd.prog) (src := 23) (dst := 9) (e := 5) (c := cv1) Tryd.underlying23 Tryd.underlying5 Tryd.underlying9 (Kd.R_reads' hR).2.2; have HB := Aside0.mk hb; clear hb hR)
      all_goals go_wp2_with (first
        | ((with_reducible refine gate_dst (N := 19) rfl ?_); refine Kd.R_lit (Kd.int .u8) _ 5 ?hg (N := 19) ?hd (xs := ([] : List Int)) (inner := []) (ok := fun _ => True) (okp := fun _ => True) ?hr ?hp (fun _ hk => hk) trivial (Below.refl _ _) (Nat.le_refl _) (by simp) ?_; (case hd => rfl); (case hg => rfl); (case hr => first | (go_simp; done) | (go_simp; rfl)); (case hp => exact (Reps.none _ _)); intro v145 w9 ho10 hb hg_ hnew_; clear hg_ hnew_; have n0_ := Aside0.mk (Kd.R_lower ho10 (below_size HB.out)); have n1_ := Aside0.mk (below_step HB.out hb); clear HB; have HO1 := n0_; have HB := n1_; clear n0_ n1_; clear hb ho10; obtain ⟨Av1, cv1, ev1⟩ := Kd.R_slice HO1.out; subst ev1)
        | ((with_reducible refine gate_builtin (b := .append) (xs := #[.tmp 19, .tmp 20]) rfl ?_); at_builtin; refine Kd.R_append_rows (Kd.int .u8) (w0 := w) w.heap.size rfl (.tmp 19) (.tmp 20) 23 5 (.int .u8 0) 1 rfl Tryd.underlying23 info5 rfl (by decide) (by omega) _ [] q _ _ _ (fun _ => True) (fun _ => False) rfl rfl HO1.out (Kd.C_below HR1.out HB.out) (fun _ _ h => h) (fun _ h => h.elim) (fun _ _ => trivial) HB.out HB.out.size (by simp; omega) ?_; intro v2 w2 ho hb hg hat; have HO2 := Aside0.mk ho; clear HB HO1; have HB := Aside0.mk hb; clear ho hb hg hat))
      all_goals go_ret2
      all_goals exact ⟨_, rfl, Kd.R_mono HO2.out (fun _ _ => trivial), HB.out⟩
    · rw [if_neg c2] at h
      simp only [Option.some.injEq, Prod.mk.injEq] at h
      obtain ⟨rfl, rfl⟩ := h
      have hn1 : ((strOfNums t).toList == (strOfNums l0).toList) = false := beq_eq_false_iff_ne.mpr c2
      have hn2 : ((strOfNums t).toList != (strOfNums l0).toList) = true := bne_iff_ne.mpr c2
      clear c2
      go_enter Tryd.func19, Tryd.ntmps19
      go_wp2
      go_region_with (go_at_call 21; refine (HS.out _ ((Below.refl _ _).drew)).mono ?_; rintro e w1 ⟨v0, rfl, hR, hb0⟩; have hb := below_undrew hb0; clear hb0; have h1 := HCV.out w1 (Kd.C_below HR0.out hb); obtain ⟨Av1, cv1, ev1⟩ := Kd.R_slice hR; subst ev1; have h2 := Kd.C_string (P := Tryd.prog) (src := 23) (dst := 9) (e := 5) (c := cv1) Tryd.underlying23 Tryd.underlying5 Tryd.underlying9 (Kd.R_reads' hR).2.2; have HB := Aside0.mk hb; clear hb hR)
      all_goals go_wp2
      all_goals go_ret2
      all_goals exact ⟨_, rfl, Kd.R_nil _ _ _ _ _, HB.out⟩

/-! ### crc_Seal: function 20 -/
-- BY HAND: make([]byte, 0, len(b)+3), the two appends
def crc_Seal.f (k : Nat) (l0 : List Int) : Option (List Int) := (crc_Sum.f k l0).bind fun t => if l0.length + 3 < 140737488355328 ∧ 0 ≤ t ∧ t < 16777216 then some (l0 ++ [t / 65536, t / 256 % 256, t % 256]) else none
theorem crc_Seal.mono : ∀ a0 k, LeO (crc_Seal.f k a0) (crc_Seal.f (k + 1) a0) := by
  intro a0 k
  exact LeO.bind (crc_Sum.mono a0 k) (fun _ => LeO.refl _)
theorem R_makecap {P : Program} {ops : Array Oper} {rest : List Oper} {o : Oper} {a : Act} {Q : Exit → Act → World → Prop} {w0 W : World} (base e : Nat) (hgd : o.guard = none) (t : TypeId) (x y : Operand) (ho : o.op = .makeSlice t x y) (C : Int) (n : Nat) (hx : a.eval x = .int .i64 0) (hy : a.eval y = .int .i64 C) (hC : C = (n : Int))
    (ht : P.underlying t = some (.slice e)) (z : Value) (k : IntKind) (bytes : Nat) (hinfo : (P.info? e).map (fun i => (i.zero, i.size, i.bytes)) = some (some z, 1, bytes)) (hn : bytes * n ≤ 281474976710656) (hm : n ≤ maxLen)
    (HB : Below base w0 W) (hbase : base ≤ W.heap.size)
    (h : ∀ v1 w1, (Kd.int k).R e w1 base (fun _ => True) v1 [] → Below base w0 w1 → W.grownBy w1 none → wpList P ops Q rest (a.put o.dst v1) w1) : wpList P ops Q (o :: rest) a W := by
  obtain ⟨i0, hi, hzz⟩ := Option.map_eq_some_iff.1 hinfo
  simp only [Prod.mk.injEq] at hzz
  obtain ⟨hz0, hz1, hz2⟩ := hzz
  refine wpList_make_own W hgd x y t ho base e i0 z 1 ht hi hz0 hz1 .i64 .i64 C n hx hy hC (by rw [hz2]; exact hn) hm hbase ?_
  intro w' hown hg
  exact h _ w' (Kd.R_of_own (enc := Value.int k) (h1 := fun _ => rfl) hown (fun _ _ => trivial)) (HB.grown hg hbase (fun _ h => by cases h)) hg
set_option maxHeartbeats 1600000 in
set_option maxRecDepth 100000 in
theorem crc_Seal.calls (k : Nat) (A0 : Option Addr) (c0 : Nat) (l0 : List Int) (r : List Int) (w : World) (hr0 : Kd.C (Kd.int .u8) w A0 l0.length l0) (hc0 : l0.length ≤ c0) (hT : TabOk w) (h : crc_Seal.f k l0 = some r) :
    Calls Tryd.prog 20 #[.slice A0 l0.length c0] w fun e w' => ∃ v0_ : Value, e = .returned (v0_) ∧ Kd.R (Kd.int .u8) 5 w' w.heap.size (fun _ => True) v0_ r ∧ Below w.heap.size w w' := by
  obtain ⟨t, hs, h⟩ := Option.bind_eq_some_iff.1 h
  split at h
  case isFalse => cases h
  case isTrue hq =>
  obtain ⟨hlen, ht0, ht1⟩ := hq
  have HS := Aside0.mk (crc_Sum.calls k A0 c0 l0 t w hr0 hc0 hT hs)
  obtain ⟨y, hy⟩ : ∃ y, y = [t / 65536, t / 256 % 256, t % 256] := ⟨_, rfl⟩
  rw [← hy] at h
  obtain rfl := Option.some.inj h
  have HY := Aside0.mk hy
  have hy3 : y.length = 3 := by rw [hy]; rfl
  have HY3 := Aside0.mk hy3
  clear hy hy3
  have HR0 := Aside0.mk hr0
  have HB := Aside0.mk (Below.refl w.heap.size w)
  clear hr0 hs h hT
  go_enter Tryd.func20, Tryd.ntmps20
  go_wp2_with (first
    | (go_at_call 14; refine HS.out.mono ?_; rintro e w' ⟨rfl, ⟨nd, rfl⟩⟩)
    | (at_make; refine R_makecap (w0 := w) w.heap.size 5 rfl 23 _ _ rfl _ (l0.length + 3) rfl rfl (by omega) Tryd.underlying23 (.int .u8 0) .u8 1 info5 (by omega) (by simp only [maxLen]; omega) (pw_below_drewN HB.out _) (Nat.le_refl _) ?_; intro v1 w1 hr hb _; have HO1 := Aside0.mk hr; clear hr HB; have HB := Aside0.mk hb; clear hb; obtain ⟨Av1, cv1, ev1⟩ := Kd.R_slice HO1.out; subst ev1)
    | ((with_reducible refine gate_builtin (b := .append) (xs := #[.tmp 11, .tmp 12]) rfl ?_); at_builtin; refine Kd.R_append_rows (Kd.int .u8) (w0 := w) w.heap.size rfl (.tmp 11) (.tmp 12) 23 5 (.int .u8 0) 1 rfl Tryd.underlying23 info5 rfl (by decide) (by omega) _ [] l0 _ _ _ (fun _ => True) (fun _ => False) rfl rfl HO1.out (Kd.C_below HR0.out HB.out) (fun _ _ h => h) (fun _ h => h.elim) (fun _ _ => trivial) HB.out HB.out.size (by simp; omega) ?_; intro v2 w2 ho hb hg hat; have HO2 := Aside0.mk ho; clear HB HO1; have HB := Aside0.mk hb; clear ho hb hg hat)
    | ((with_reducible refine gate_dst (N := 22) rfl ?_); refine Kd.R_lit (Kd.int .u8) _ 5 ?hg (N := 22) ?hd (xs := [t / 65536, t / 256 % 256, t % 256]) (inner := [.int .u8 (t / 65536), .int .u8 (t / 256 % 256), .int .u8 (t % 256)]) (ok := fun _ => True) (okp := fun _ => True) ?hr ?hp (fun _ hk => hk) trivial (Below.refl _ _) (Nat.le_refl _) (by simp) ?_; (case hd => rfl); (case hg => rfl); (case hr => first | (go_simp; done) | (go_simp; rfl)); (case hp => exact (Reps.one (show Kd.M (Kd.int .u8) _ _ _ (t / 65536) [.int .u8 (t / 65536)] from rfl) (Reps.one (show Kd.M (Kd.int .u8) _ _ _ (t / 256 % 256) [.int .u8 (t / 256 % 256)] from rfl) (Reps.one (show Kd.M (Kd.int .u8) _ _ _ (t % 256) [.int .u8 (t % 256)] from rfl) (Reps.none _ _))))); intro v125 w8 ho9 hb hg_ hnew_; clear hg_ hnew_; rw [← HY.out] at ho9; have n0_ := Aside0.mk (Kd.R_elder' HO2.out (Kd.R_base ho9) hb); have n1_ := Aside0.mk (Kd.R_lower (Kd.R_new' ho9 (Kd.R_lt HO2.out)) HB.out.size); have n2_ := Aside0.mk (below_step HB.out hb); clear HO2 HB; have HO2 := n0_; have HO3 := n1_; have HB := n2_; clear n0_ n1_ n2_; clear hb ho9; obtain ⟨Ao11, co11, eo11⟩ := Kd.R_slice HO3.out; subst eo11)
    | ((with_reducible refine gate_builtin (b := .append) (xs := #[.tmp 13, .tmp 22]) rfl ?_); at_builtin; refine Kd.R_append_rows (Kd.int .u8) (w0 := w) w.heap.size rfl (.tmp 13) (.tmp 22) 23 5 (.int .u8 0) 1 rfl Tryd.underlying23 info5 rfl (by decide) (by omega) v2 ([] ++ l0) y _ _ _ (fun k_ => some k_ ≠ (.slice Ao11 y.length co11 : Value).ownBlock) (fun _ => False) rfl rfl (Kd.R_mono HO2.out (fun _ hk => hk.2)) (Kd.R_reads' HO3.out).2.2 (fun _ _ h => h) (fun _ h => h.elim) (fun k_ hk => Kd.fresh' (Kd.R_lt HO3.out) k_ hk) HB.out HB.out.size (by have := HY3.out; simp; omega) ?_; intro v128 w10 ho hb hg hat; clear HB HO2; have HB := Aside0.mk hb; have HO4 := Aside0.mk ho; clear ho hb hg hat))
  go_ret
  exact ⟨_, rfl, Kd.R_mono HO4.out (fun _ _ => trivial), HB.out⟩

/-! ### pennantlaw02_CrcSeals: function 6 -/
-- BY HAND: the last test draws its order, holds two calls and four conversions; told on the way that answers true alone
def pennantlaw02_CrcSeals.f (k : Nat) (l0 l1 : List Int) : Option Bool := (pennantlaw02_awake.f k).bind fun up => if up = true then (if l0.length > 100000 ∨ l1.length > 100000 then some true else (crc_Open.f k l1).bind fun x => (pennantref02_Open.f k l1).bind fun y => (crc_Seal.f k l0).bind fun s => (pennantref02_Seal.f k l0).bind fun t => if s = t ∧ x = y then some true else none) else none
set_option maxHeartbeats 3200000 in
set_option maxRecDepth 100000 in
theorem pennantlaw02_CrcSeals.calls (k : Nat) (A0 : Option Addr) (c0 : Nat) (l0 : List Int) (A1 : Option Addr) (c1 : Nat) (l1 : List Int) (r : Bool) (w : World) (hr0 : Kd.C (Kd.int .u8) w A0 l0.length l0) (hc0 : l0.length ≤ c0) (hr1 : Kd.C (Kd.int .u8) w A1 l1.length l1) (hc1 : l1.length ≤ c1) (hT : TabOk w) (h : pennantlaw02_CrcSeals.f k l0 l1 = some r) :
    Calls Tryd.prog 6 #[.slice A0 l0.length c0, .slice A1 l1.length c1] w fun e w' => e = .returned (.bool r) ∧ Below w.heap.size w w' := by
  have hl0 : l0.length ≤ 9223372036854775807 := hr0.2.1
  have hl1 : l1.length ≤ 9223372036854775807 := hr1.2.1
  obtain ⟨up, hup, h⟩ := Option.bind_eq_some_iff.1 h
  split at h
  case isFalse => cases h
  case isTrue hu =>
  subst hu
  have HUP := Aside0.mk (pennantlaw02_awake.calls k true w hT hup)
  split at h
  case isTrue c =>
    obtain rfl := Option.some.inj h
    clear hr0 hr1 hT hup h
    by_cases cc : l0.length > 100000
    · have hi : (100000 : Int) < (l0.length : Int) := by omega
      have hd : decide ((100000 : Int) < (l0.length : Int)) = true := decide_eq_true hi
      clear c
      go_enter Tryd.func6, Tryd.ntmps6
      go_wp2_with (go_at_call 13; refine HUP.out.mono ?_; rintro e w1 ⟨rfl, hb⟩; have HB := Aside0.mk hb; clear hb)
      go_ret
      exact ⟨rfl, HB.out⟩
    · have c4 : l1.length > 100000 := by rcases c with h | h; exact absurd h cc; exact h
      have hi : ¬ (100000 : Int) < (l0.length : Int) := by omega
      have hd : decide ((100000 : Int) < (l0.length : Int)) = false := decide_eq_false hi
      have hi2 : (100000 : Int) < (l1.length : Int) := by omega
      have hd2 : decide ((100000 : Int) < (l1.length : Int)) = true := decide_eq_true hi2
      clear c cc c4
      go_enter Tryd.func6, Tryd.ntmps6
      go_wp2_with (go_at_call 13; refine HUP.out.mono ?_; rintro e w1 ⟨rfl, hb⟩; have HB := Aside0.mk hb; clear hb)
      go_ret
      exact ⟨rfl, HB.out⟩
  case isFalse c =>
  obtain ⟨⟨x, is⟩, h1, ha⟩ := Option.bind_eq_some_iff.1 h
  obtain ⟨⟨y, was⟩, h2, hb⟩ := Option.bind_eq_some_iff.1 ha
  obtain ⟨s, h3, hc⟩ := Option.bind_eq_some_iff.1 hb
  obtain ⟨t, h4, hd⟩ := Option.bind_eq_some_iff.1 hc
  clear ha hb hc h
  split at hd
  case isFalse => cases hd
  case isTrue hq =>
  obtain ⟨rfl, hxy⟩ := hq
  simp only [Prod.mk.injEq] at hxy
  obtain ⟨rfl, rfl⟩ := hxy
  obtain rfl := Option.some.inj hd
  clear hd
  have hi : ¬ (100000 : Int) < (l0.length : Int) := by omega
  have hi2 : ¬ (100000 : Int) < (l1.length : Int) := by omega
  have hd : decide ((100000 : Int) < (l0.length : Int)) = false := decide_eq_false hi
  have hd2 : decide ((100000 : Int) < (l1.length : Int)) = false := decide_eq_false hi2
  have H1 := Aside0.mk (fun (W : World) (hb : Below w.heap.size w W) => crc_Open.calls k A1 c1 l1 x is W (Kd.C_below hr1 hb) hc1 (hT.below hb) h1)
  have H2 := Aside0.mk (fun (W : World) (hb : Below w.heap.size w W) => pennantref02_Open.calls k A1 c1 l1 x is W (Kd.C_below hr1 hb) hc1 h2)
  have H3 := Aside0.mk (fun (W : World) (hb : Below w.heap.size w W) => crc_Seal.calls k A0 c0 l0 s W (Kd.C_below hr0 hb) hc0 (hT.below hb) h3)
  have H4 := Aside0.mk (fun (W : World) (hb : Below w.heap.size w W) => pennantref02_Seal.calls k A0 c0 l0 s W (Kd.C_below hr0 hb) hc0 h4)
  have HCV := Aside0.mk (fun (W : World) (A : Option Addr) (c : Nat) (q : List Int) (h : Kd.C (Kd.int .u8) W A q.length q) => Kd.C_string (P := Tryd.prog) (src := 23) (dst := 9) (e := 5) (c := c) Tryd.underlying23 Tryd.underlying5 Tryd.underlying9 h)
  have hs0 : ((strOfNums s).toList == (strOfNums s).toList) = true := beq_self_eq_true _
  have hx0 : ((strOfNums x).toList == (strOfNums x).toList) = true := beq_self_eq_true _
  have hi0 : (is == is) = true := beq_self_eq_true _
  clear hr0 hr1 hT hup h1 h2 h3 h4 c
  go_enter Tryd.func6, Tryd.ntmps6
  go_wp2_with (first
    | (go_at_call 13; refine HUP.out.mono ?_; rintro e w1 ⟨rfl, hb⟩; have HB := Aside0.mk hb; clear hb)
    | (go_at_call 18; refine (H1.out _ HB.out).mono ?_; rintro e w2 ⟨v0, rfl, hR, hb⟩; have HB2 := Aside0.mk (below_step HB.out hb); obtain ⟨Av1, cv1, ev1⟩ := Kd.R_slice hR; subst ev1; have HX := Aside0.mk (Kd.R_reads' hR).2.2; clear HB hb hR; have HB := HB2; clear HB2)
    | (go_at_call 19; refine (H2.out _ HB.out).mono ?_; rintro e w3 ⟨v1, rfl, hR, hb⟩; have HX2 := Aside0.mk (Kd.C_below HX.out hb); have HB2 := Aside0.mk (below_step HB.out hb); obtain ⟨Av2, cv2, ev2⟩ := Kd.R_slice hR; subst ev2; have HY := Aside0.mk (Kd.R_reads' hR).2.2; clear HB hb hR HX; have HB := HB2; clear HB2))
  have c1 := HCV.out w3.drew Av1 cv1 x HX2.out
  have c2 := HCV.out w3.drew Av2 cv2 x HY.out
  go_region_with (first
    | (go_at_call 20; refine (H3.out _ (pw_below_drewN HB.out 1)).mono ?_; rintro e w4 ⟨v3, rfl, hR, hb0⟩; have hb := below_undrew hb0; have HX3 := Aside0.mk (Kd.C_below HX2.out hb); have HY3 := Aside0.mk (Kd.C_below HY.out hb); have HB2 := Aside0.mk (below_step HB.out hb); obtain ⟨Av3, cv3, ev3⟩ := Kd.R_slice hR; subst ev3; have HS := Aside0.mk (Kd.R_reads' hR).2.2; clear HB hb0 hb hR HX2 HY; have HB := HB2; clear HB2; have c3 := HCV.out w4 Av1 cv1 x HX3.out; have c4 := HCV.out w4 Av2 cv2 x HY3.out; have c5 := HCV.out w4 Av3 cv3 s HS.out)
    | (go_at_call 21; refine (H4.out _ HB.out).mono ?_; rintro e w5 ⟨v4, rfl, hR, hb⟩; have HX4 := Aside0.mk (Kd.C_below HX3.out hb); have HY4 := Aside0.mk (Kd.C_below HY3.out hb); have HS4 := Aside0.mk (Kd.C_below HS.out hb); have HB2 := Aside0.mk (below_step HB.out hb); obtain ⟨Av4, cv4, ev4⟩ := Kd.R_slice hR; subst ev4; have HZ := Aside0.mk (Kd.R_reads' hR).2.2; clear HB hb hR HX3 HY3 HS; have HB := HB2; clear HB2; have c6 := HCV.out w5 Av1 cv1 x HX4.out; have c7 := HCV.out w5 Av2 cv2 x HY4.out; have c8 := HCV.out w5 Av3 cv3 s HS4.out; have c9 := HCV.out w5 Av4 cv4 s HZ.out))
  all_goals go_wp2
  all_goals go_ret
  all_goals refine ⟨?_, HB.out⟩
  all_goals (simp [Act.put]; done)
def pennantlaw02_CrcSeals.Pure : Prop := ∀ (l0 : List Int) (l1 : List Int), l0.length ≤ maxLen → l0.length * 1 ≤ 140737488351232 → (∀ x ∈ l0, (Lit.int .u8 x).wf = true) → l1.length ≤ maxLen → l1.length * 1 ≤ 140737488351232 → (∀ x ∈ l1, (Lit.int .u8 x).wf = true) → ∃ k, pennantlaw02_CrcSeals.f k l0 l1 = some true
theorem pennantlaw02_CrcSeals.walk (P : pennantlaw02_CrcSeals.Pure) (a0 : Option Addr) (len0 cap0 : Nat) (z0 : List Int) (a1 : Option Addr) (len1 cap1 : Nat) (z1 : List Int) (w : World) (hT : TabOk w) (w0 : (a0 = none ∧ len0 = 0 ∧ cap0 = 0 ∧ z0 = []) ∨ ∃ x, a0 = some x ∧ len0 ≤ cap0 ∧ cap0 ≤ maxLen ∧ z0.length = cap0 ∧ (∀ i, i < z0.length → w.cell? (x.add i) = some (.int .u8 (z0.getD i 0))) ∧ ∀ n ∈ z0, (Lit.int .u8 n).wf = true) (y0 : len0 * 1 ≤ 140737488351232) (w1 : (a1 = none ∧ len1 = 0 ∧ cap1 = 0 ∧ z1 = []) ∨ ∃ x, a1 = some x ∧ len1 ≤ cap1 ∧ cap1 ≤ maxLen ∧ z1.length = cap1 ∧ (∀ i, i < z1.length → w.cell? (x.add i) = some (.int .u8 (z1.getD i 0))) ∧ ∀ n ∈ z1, (Lit.int .u8 n).wf = true) (y1 : len1 * 1 ≤ 140737488351232) :
    Calls Tryd.prog 6 #[.slice a0 len0 cap0, .slice a1 len1 cap1] w fun e w' => e = .returned (.bool true) ∧ Below w.heap.size w w' := by
  obtain ⟨l0, rfl, hr0, hm0, hw0, hc0⟩ := ReadsInt.ofRowC w0
  obtain ⟨l1, rfl, hr1, hm1, hw1, hc1⟩ := ReadsInt.ofRowC w1
  obtain ⟨k, h⟩ := P l0 l1 hm0 y0 hw0 hm1 y1 hw1
  exact pennantlaw02_CrcSeals.calls k _ _ l0 _ _ l1 true w (Kd.C_of_reads (d := (0 : Int)) (h1 := fun _ => rfl) hr0) hc0 (Kd.C_of_reads (d := (0 : Int)) (h1 := fun _ => rfl) hr1) hc1 hT h

end Go.Proofs.YtlbmfbbdfmmfnaaDoor.PCrcSeals
