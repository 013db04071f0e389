/- The reference's Load. -/
import Derived.Test.YtbmpglchifnelaaLLoad
namespace Go.Proofs.Ytbmpglchifnelaa
open Go.RowKit Go.Maps Go.Proofs.YtbmpglchifnelaaW.PrintWords Go.Proofs.YtbmpglchifnelaaW.PrintLast Go.Proofs.YtbmpglchifnelaaW.PrintMore
set_option linter.unusedVariables false
set_option linter.unusedSimpArgs false
attribute [local go_sem] Oper.semAt_some max2_int min2_int max_two min_two max_three min_three max_four min_four

theorem getD_take (l : List L3) {i k : Nat} (hk : k < i) (hi : i ≤ l.length) : (l.take i)[k]? = some (l.getD k z3) := by
  rw [List.getElem?_take, if_pos hk, List.getD_eq_getElem?_getD, List.getElem?_eq_getElem (by omega)]
  rfl
set_option maxHeartbeats 4000000 in
set_option maxRecDepth 100000 in
theorem rload_calls (A0 : Option Addr) (c0 : Nat) (l : List L3) (w : World) (hC : leaseK.C w A0 l.length l) :
    Calls Try.prog 21 #[.slice A0 l.length c0] w fun e w' => ((Good l ∧ ∃ g rb, e = .returned (.tuple #[.pointer (some ⟨g, 0, none⟩), .int .i64 0]) ∧ RefAt w' w.heap.size g rb l) ∨ (¬ Good l ∧ e = .returned (.tuple #[.pointer none, .int .i64 1]))) ∧ Below w.heap.size w w' := by
  have HC := Aside0.mk hC
  clear hC
  by_cases hlen : 20000 < l.length
  · have hd1 : decide ((20000 : Int) < (l.length : Int)) = true := by simp; omega
    go_enter Try.func21, Try.ntmps21
    go_wp2
    go_ret2
    exact ⟨.inr ⟨fun h => by have := h.len; omega, rfl⟩, Below.refl _ _⟩
  have hd1 : decide ((20000 : Int) < (l.length : Int)) = false := by simp; omega
  go_enter Try.func21, Try.ntmps21
  go_wp2
  go_loopw [4] (fun v4 wr => ∃ (i : Nat), v4 = .int .i64 (i : Int) ∧ i ≤ l.length ∧ Good (l.take i) ∧ Below w.heap.size w wr) (fun v4 wr => l.length - (intOf v4).toNat)
  case atStart => exact ⟨0, rfl, Nat.zero_le _, Good.nil, Below.refl _ _⟩
  case round =>
    obtain ⟨i, rfl, hi, hg, hb⟩ := hrel
    have HG := Aside0.mk hg
    have HB := Aside0.mk hb
    clear hg hb
    by_cases hlt : i < l.length
    · obtain ⟨ad, e, hy0, hy1, hy2⟩ := lease_at HC.out i hlt
      subst e
      have HBAD := Aside0.mk (fun hn => bad_whole hlt HG.out hn)
      have HOK := Aside0.mk ((good_next hlt HG.out).2)
      obtain ⟨x, hx⟩ : ∃ x, l.getD i z3 = x := ⟨_, rfl⟩
      rw [hx] at hy0 hy1 hy2 HBAD HOK
      obtain ⟨x0, x1, x2⟩ := x
      dsimp only at hy0 hy1 hy2
      rw [add_field ad (i * 3) 1 (by omega)] at hy1
      rw [add_field ad (i * 3) 2 (by omega)] at hy2
      have hu0 := pw_cell_below HB.out hy0
      have hu1 := pw_cell_below HB.out hy1
      have hu2 := pw_cell_below HB.out hy2
      have HY1 := Aside0.mk hy1
      have HY2 := Aside0.mk hy2
      have hLl : (l.take i).length = i := by rw [List.length_take]; omega
      have HLL := Aside0.mk hLl
      have WD := Aside0.mk (fun w => isDevice_calls x1 w)
      clear hy0 hy1 hy2 hx hLl
      by_cases hfine : x0 = (i : Int) + 1 ∧ okDev x1 ∧ 0 ≤ x2 ∧ x2 ≤ 1099512676352
      · obtain ⟨rfl, h2, h3, h4⟩ := hfine
        rw [decide_eq_true h2] at WD
        have hda : decide (x2 < 0) = false := by simp; omega
        have hdb : decide ((1099512676352 : Int) < x2) = false := by simp; omega
        have HOK2 := Aside0.mk (fun (ho : 0 < x2 → ofL (l.take i) x1 = none) => HOK.out ⟨by rw [HLL.out], h2, h3, h4, ho, by rw [HLL.out]; omega⟩)
        clear h2 h3 h4
        go_wp2_with (go_at_call 32; ((with_reducible refine (WD.out _).mono ?_); rintro e w' ⟨rfl, rfl⟩))
        obtain ⟨wo, rfl⟩ : ∃ wo, wo = wr := ⟨_, rfl⟩
        go_loopw [6] (fun v6 wr => ∃ (k : Nat), v6 = .int .i64 (k : Int) ∧ k ≤ i ∧ (∀ j, j < k → ¬ (0 < x2 ∧ 0 < (l.getD j z3).2.2 ∧ x1 = (l.getD j z3).2.1)) ∧ Below w.heap.size w wr) (fun v6 wr => i - (intOf v6).toNat)
        case atStart => exact ⟨0, rfl, Nat.zero_le _, fun j hj => absurd hj (by omega), HB.out⟩
        case round =>
          obtain ⟨k, rfl, hk, hne, hbk⟩ := hrel
          have HNE := Aside0.mk hne
          have HBK := Aside0.mk hbk
          clear hne hbk
          have hv1 := pw_cell_below HBK.out HY1.out
          have hv2 := pw_cell_below HBK.out HY2.out
          by_cases hki : k < i
          · obtain ⟨ad2, e, hq0, hq1, hq2⟩ := lease_at HC.out k (by omega)
            cases e
            have HTK := Aside0.mk (getD_take l hki hi)
            obtain ⟨y, hy⟩ : ∃ y, l.getD k z3 = y := ⟨_, rfl⟩
            rw [hy] at hq0 hq1 hq2 HTK
            obtain ⟨y0, y1, y2⟩ := y
            dsimp only at hq0 hq1 hq2
            rw [add_field ad (k * 3) 1 (by omega)] at hq1
            rw [add_field ad (k * 3) 2 (by omega)] at hq2
            have hr1 := pw_cell_below HBK.out hq1
            have hr2 := pw_cell_below HBK.out hq2
            have HY := Aside0.mk hy
            clear hq0 hq1 hq2 hy
            by_cases hall : 0 < x2 ∧ 0 < y2 ∧ x1 = y1
            · obtain ⟨ha, hc, rfl⟩ := hall
              have hda2 : decide ((0 : Int) < x2) = true := by simpa using ha
              have hdc2 : decide ((0 : Int) < y2) = true := by simpa using hc
              have HNG := Aside0.mk (HBAD.out (fun hok => ofL_none.1 (hok.2.2.2.2.1 ha) k _ HTK.out hc rfl))
              clear ha hc
              go_wp2
              go_quiet (fail)
              go_wp2
              go_ret2
              exact ⟨.inr ⟨HNG.out, rfl⟩, pw_below_drewN HBK.out _⟩
            · have HNE2 := Aside0.mk (show ∀ j, j < k + 1 → ¬ (0 < x2 ∧ 0 < (l.getD j z3).2.2 ∧ x1 = (l.getD j z3).2.1) from fun j hj => by
                by_cases e : j = k
                · subst e; rw [HY.out]; exact hall
                · exact HNE.out j (by omega))
              have hways : decide ((0 : Int) < x2) = false ∨ (decide ((0 : Int) < x2) = true ∧ decide ((0 : Int) < y2) = false) ∨ (decide ((0 : Int) < x2) = true ∧ decide ((0 : Int) < y2) = true ∧ (x1 == y1) = false) := by
                by_cases h1 : 0 < x2
                · by_cases h2 : 0 < y2
                  · exact .inr (.inr ⟨decide_eq_true h1, decide_eq_true h2, by simpa using fun h3 => hall ⟨h1, h2, h3⟩⟩)
                  · exact .inr (.inl ⟨decide_eq_true h1, decide_eq_false h2⟩)
                · exact .inl (decide_eq_false h1)
              clear hall
              rcases hways with h1 | ⟨h1, h2⟩ | ⟨h1, h2, h3⟩
              all_goals
                go_wp2
                go_quiet (fail)
                go_wp2
                go_roundw
                case rel => exact ⟨k + 1, by go_num, by omega, HNE2.out, pw_below_drewN HBK.out _⟩
                case measure => simp [intOf]; omega
          · obtain rfl : k = i := by omega
            have hd3 : decide (k < k) = false := by simp
            go_wp2
            go_roundw
            case rel =>
              refine ⟨k + 1, by go_num, by omega, HOK2.out (fun h0 => ?_), HBK.out⟩
              refine ofL_none.2 fun j y hj hy he => ?_
              have hjk : j < k := by have := (List.getElem?_eq_some_iff.1 hj).1; rw [HLL.out] at this; exact this
              have h5 := getD_take l hjk hi
              rw [hj] at h5
              cases h5
              exact HNE.out j hjk ⟨h0, hy, he.symm⟩
            case measure => simp [intOf]; omega
      · have HNG := Aside0.mk (HBAD.out (fun h => hfine ⟨by have := h.1; rw [HLL.out] at this; exact this, h.2.1, h.2.2.1, h.2.2.2.1⟩))
        have hways : ¬ (x0 = (i : Int) + 1) ∨ (x0 = (i : Int) + 1 ∧ decide (okDev x1) = false) ∨ (x0 = (i : Int) + 1 ∧ decide (okDev x1) = true ∧ decide (x2 < 0) = true) ∨ (x0 = (i : Int) + 1 ∧ decide (okDev x1) = true ∧ decide (x2 < 0) = false ∧ decide ((1099512676352 : Int) < x2) = true) := by
          by_cases h1 : x0 = (i : Int) + 1
          · by_cases h2 : okDev x1
            · by_cases h3 : x2 < 0
              · exact .inr (.inr (.inl ⟨h1, decide_eq_true h2, decide_eq_true h3⟩))
              · exact .inr (.inr (.inr ⟨h1, decide_eq_true h2, decide_eq_false h3, decide_eq_true (Decidable.by_contra fun h4 => hfine ⟨h1, h2, by omega, by omega⟩)⟩))
            · exact .inr (.inl ⟨h1, decide_eq_false h2⟩)
          · exact .inl h1
        clear hfine HOK HBAD
        rcases hways with h1 | ⟨rfl, h2⟩ | ⟨rfl, h2, h3⟩ | ⟨rfl, h2, h3, h4⟩
        · have h1a : (x0 == (i : Int) + 1) = false := by simpa using h1
          have h1b : decide (x0 = (i : Int) + 1) = false := by simpa using h1
          obtain ⟨bd, hbd⟩ : ∃ bd, decide (okDev x1) = bd := ⟨_, rfl⟩
          rw [hbd] at WD
          clear hbd
          go_wp2_with (go_at_call 32; ((with_reducible refine (WD.out _).mono ?_); rintro e w' ⟨rfl, rfl⟩))
          go_ret2
          exact ⟨.inr ⟨HNG.out, rfl⟩, HB.out⟩
        all_goals
          rw [h2] at WD
          clear h2
          go_wp2_with (go_at_call 32; ((with_reducible refine (WD.out _).mono ?_); rintro e w' ⟨rfl, rfl⟩))
          go_ret2
          exact ⟨.inr ⟨HNG.out, rfl⟩, HB.out⟩
    · obtain rfl : i = l.length := by omega
      have hd3 : decide (l.length < l.length) = false := by simp
      have HG2 := Aside0.mk (show Good l by have h := HG.out; rw [List.take_length] at h; exact h)
      go_wp2_with (first
        | ((with_reducible refine gate_dst (N := 82) rfl ?_); refine Kd.R_lit leaseK _ 27 ?hg (N := 82) ?hd (xs := ([] : List L3)) (inner := []) (ok := fun _ => True) (okp := fun _ => True) ?hr ?hp (fun _ hk => hk) trivial (Below.refl _ _) (Nat.le_refl _) (by simp) ?_; (case hd => rfl); (case hg => rfl); (case hr => first | (go_simp; done) | (go_simp; rfl)); (case hp => exact (Reps.none _ _)); intro v145 w9 ho10 hb hg_ hnew_; clear hg_ hnew_; have n0_ := Aside0.mk (Kd.R_lower ho10 (below_size HB.out)); have n1_ := Aside0.mk (below_step HB.out hb); clear HB; have HO1 := n0_; have HB := n1_; clear n0_ n1_; clear hb ho10; obtain ⟨Av1, cv1, ev1⟩ := Kd.R_slice HO1.out; subst ev1)
        | ((with_reducible refine gate_builtin (b := .append) (xs := #[.tmp 82, .tmp 83]) rfl ?_); at_builtin; refine Kd.R_append_rows leaseK (Rr := fun x cs => cs = cells3 x) (w0 := w) w.heap.size rfl (.tmp 82) (.tmp 83) 38 27 (.agg #[.int .i64 0, .int .i64 0, .int .i64 0]) 24 rfl Try.underlying38 leaseInfo rfl (by decide) (by omega) _ [] l _ _ _ (fun _ => True) (fun _ => False) rfl rfl HO1.out (ReadsRow.imp_ HC.out HB.out (fun p cs hp => lease_K hp)) (fun x cs h => by rw [h]; exact lease_M _ _ _ x) (fun _ h => h.elim) (fun _ _ => trivial) HB.out HB.out.size (by simp; omega) ?_; intro v2 w2 ho hb hg hat; have HO2 := Aside0.mk ho; clear HB HO1; have HB := Aside0.mk hb; clear ho hb hg hat; obtain ⟨Av2, cv2, ev2⟩ := Kd.R_slice HO2.out; subst ev2))
      go_ret2
      refine ⟨.inl ⟨HG2.out, _, _, rfl, refAt_mk HG2.out HB.out.size (by first | exact blk_new _ _ | (simp; done)) (by simp) (Kd.R_alloc (by have h := HO2.out; rw [List.nil_append] at h; exact Kd.R_mono h (fun _ _ => trivial)) _) rfl⟩, HB.out.alloc HB.out.size _⟩
end Go.Proofs.Ytbmpglchifnelaa
