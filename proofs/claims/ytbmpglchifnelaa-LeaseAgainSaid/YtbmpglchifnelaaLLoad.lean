/- Of which leases there is a table: the law, and the program's Load. -/
import Derived.Test.YtbmpglchifnelaaLStep
import Derived.BigQuiet
import Derived.Deep.QuietTactic
namespace Go.Proofs.Ytbmpglchifnelaa
open Go.RowKit Go.Maps Go.Proofs.YtbmpglchifnelaaW.PrintWords Go.Proofs.YtbmpglchifnelaaW.PrintLast Go.Proofs.YtbmpglchifnelaaW.PrintMore
set_option linter.unusedVariables false
set_option linter.unusedSimpArgs false
attribute [local go_sem] Oper.semAt_some max2_int min2_int max_two min_two max_three min_three max_four min_four

/-- A lease that may stand behind these. -/
def okAt (L : List L3) (x : L3) : Prop := x.1 = (L.length : Int) + 1 ∧ okDev x.2.1 ∧ 0 ≤ x.2.2 ∧ x.2.2 ≤ 1099512676352 ∧ (0 < x.2.2 → ofL L x.2.1 = none) ∧ L.length < 20000
theorem Good.take {L : List L3} (h : Good L) (k : Nat) : Good (L.take k) := by
  have key : ∀ (i : Nat) (x : L3), (L.take k)[i]? = some x → L[i]? = some x := by
    intro i x hi
    rw [List.getElem?_take] at hi
    split at hi
    · exact hi
    · cases hi
  exact ⟨by rw [List.length_take]; have := h.len; omega, fun i x hi => h.ent i x (key i x hi), fun i j x y hi hj => h.one i j x y (key i x hi) (key j y hj)⟩
theorem take_next {L : List L3} {i : Nat} (h : i < L.length) : L.take (i + 1) = L.take i ++ [L.getD i z3] := by
  have e1 : L.getD i z3 = L[i] := by rw [List.getD_eq_getElem?_getD, List.getElem?_eq_getElem h]; rfl
  rw [List.take_succ_eq_append_getElem h, e1]
theorem good_next {L : List L3} {i : Nat} (h : i < L.length) (hg : Good (L.take i)) : Good (L.take (i + 1)) ↔ okAt (L.take i) (L.getD i z3) := by
  have hl : (L.take i).length = i := by rw [List.length_take]; omega
  obtain ⟨x, hx⟩ : ∃ x, L.getD i z3 = x := ⟨_, rfl⟩
  rw [take_next h, hx]
  constructor
  · intro h1
    have hi : (L.take i ++ [x])[i]? = some x := by rw [List.getElem?_append_right (by omega), hl]; simp
    have h2 := h1.ent i x hi
    have h3 := h1.len
    simp only [List.length_append, List.length_singleton, hl] at h3
    refine ⟨by rw [hl]; exact h2.1, ⟨h2.2.1, h2.2.2.1⟩, h2.2.2.2.1, h2.2.2.2.2, fun h0 => ?_, by omega⟩
    refine ofL_none.2 fun k y hk hy he => ?_
    have hkl : k < i := by have := (List.getElem?_eq_some_iff.1 hk).1; omega
    have := h1.one k i y x (by rw [List.getElem?_append_left (by omega)]; exact hk) hi hy h0 he
    omega
  · rintro ⟨h1, h2, h3, h4, h5, h6⟩
    obtain ⟨x0, x1, x2⟩ := x
    dsimp only at h1 h2 h3 h4 h5
    subst h1
    exact hg.append h6 h2 ⟨h3, h4⟩ h5
theorem bad_whole {L : List L3} {i : Nat} (h : i < L.length) (hg : Good (L.take i)) (hn : ¬ okAt (L.take i) (L.getD i z3)) : ¬ Good L := fun hL => hn ((good_next h hg).1 (hL.take (i + 1)))
set_option maxHeartbeats 4000000 in
set_option maxRecDepth 100000 in
theorem load_calls (A0 : Option Addr) (c0 : Nat) (l : List L3) (w : World) (hC : leaseK.C w A0 l.length l) (hwf : ∀ x ∈ l, (Lit.int .i64 x.1).wf = true ∧ (Lit.int .i64 x.2.1).wf = true ∧ (Lit.int .i64 x.2.2).wf = true) (hlen : l.length ≤ 100000) :
    Calls Try.prog 20 #[.slice A0 l.length c0] w fun e w' => ((Good l ∧ ∃ g rb m, e = .returned (.tuple #[.pointer (some ⟨g, 0, none⟩), .int .i64 0]) ∧ TabAt w' w.heap.size g rb m l) ∨ (¬ Good l ∧ e = .returned (.tuple #[.pointer none, .int .i64 1]))) ∧ Below w.heap.size w w' := by
  have HC := Aside0.mk hC
  have HWF := Aside0.mk hwf
  clear hC hwf
  go_enter Try.func20, Try.ntmps20
  go_wp2_with (go_at_call 10; refine (new_calls w).mono ?_; rintro e w1 ⟨g, m, rfl, ht, hb1⟩; have HT1 := Aside0.mk ht; have HB1 := Aside0.mk hb1; clear ht hb1)
  go_loopw [12] (fun v12 wr => ∃ (i : Nat) (rb : Option Nat), v12 = .int .i64 (i : Int) ∧ i ≤ l.length ∧ TabAt wr w.heap.size g rb m (l.take i) ∧ Below w.heap.size w wr) (fun v12 wr => l.length - (intOf v12).toNat)
  case atStart => exact ⟨0, none, rfl, Nat.zero_le _, HT1.out, HB1.out⟩
  case round =>
    obtain ⟨i, rb, rfl, hi, ht, hb⟩ := hrel
    have HT := Aside0.mk ht
    have HB := Aside0.mk hb
    clear ht hb
    by_cases hlt : i < l.length
    · obtain ⟨ad, e, hy0, hy1, hy2⟩ := lease_at HC.out i hlt
      subst e
      have hwx := HWF.out (l.getD i z3) (by rw [List.getD_eq_getElem?_getD, List.getElem?_eq_getElem hlt]; exact List.getElem_mem hlt)
      have HN := Aside0.mk (take_next hlt)
      have HBAD := Aside0.mk (fun hn => bad_whole hlt HT.out.good hn)
      have HOK := Aside0.mk ((good_next hlt HT.out.good).2)
      obtain ⟨x, hx⟩ : ∃ x, l.getD i z3 = x := ⟨_, rfl⟩
      rw [hx] at hy0 hy1 hy2 hwx HN HBAD HOK
      obtain ⟨x0, x1, x2⟩ := x
      dsimp only at hy0 hy1 hy2 hwx
      rw [add_field ad (i * 3) 1 (by omega)] at hy1
      rw [add_field ad (i * 3) 2 (by omega)] at hy2
      have hu0 := pw_cell_below HB.out hy0
      have hu1 := pw_cell_below HB.out hy1
      have hu2 := pw_cell_below HB.out hy2
      have hLl : (l.take i).length = i := by rw [List.length_take]; omega
      obtain ⟨Lt, hLt⟩ : ∃ Lt, l.take i = Lt := ⟨_, rfl⟩
      rw [hLt] at HT HN HBAD HOK hLl
      obtain ⟨A, c, n, D, hbg, hR, ho, hM, hnl, hD⟩ := HT.out.ex
      have HTX := Aside0.mk (HT.out.later (below_alloc (Below.refl wr.heap.size wr) (.cells #[.int .i64 x0, .int .i64 x1, .int .i64 x2] 27)))
      have hcm : (wr.alloc (.cells #[.int .i64 x0, .int .i64 x1, .int .i64 x2] 27)).cell? ⟨g, 1, none⟩ = some (.map (some m)) := (blk_cell (blk_alloc hbg _) 1).trans rfl
      obtain ⟨v, ps, hrun, hv⟩ := World.ownsMap.look_ok (w := (wr.alloc (.cells #[.int .i64 x0, .int .i64 x1, .int .i64 x2] 27)).drew) (e := 3) ((hM.alloc _).drew) keyed3 Try.underlying46 (zero3_run _) (plainElem_int Try.underlying3 (by decide)) (keyOf_int_mk Try.underlying3 hwx.2.1)
      rw [(hD x1).1] at hrun
      have HXW := Aside0.mk hwx
      clear hy0 hy1 hy2 hbg hR ho hM hD hv hwx hnl
      by_cases hok : okAt Lt (x0, x1, x2)
      · have HG := Aside0.mk (HOK.out hok)
        obtain ⟨k1, k2, k3, k4, k5, k6⟩ := hok
        dsimp only at k1 k2 k3 k4 k5
        have HPUT := Aside0.mk (put_calls w.heap.size g m rb Lt x1 x2 ((wr.alloc (.cells #[.int .i64 x0, .int .i64 x1, .int .i64 x2] 27)).drew) (HTX.out.later (below_drew (Below.refl _ _))) (by have := HB.out.size; simp; omega) k6 k2 ⟨k3, k4⟩ k5)
        have WD := Aside0.mk (fun w => within_true x1 1 4096 w k2)
        have WU := Aside0.mk (fun w => within_true x2 0 1099512676352 w ⟨k3, k4⟩)
        rw [hLl] at k1 HPUT
        subst k1
        have hd1 : decide ((20000 : Int) ≤ (i : Int)) = false := by simp; omega
        have HN2 := Aside0.mk (show l.take (i + 1) = Lt ++ [((i : Int) + 1, x1, x2)] from HN.out)
        obtain ⟨tw, htw⟩ : ∃ tw, (ofL Lt x1).isSome = tw := ⟨_, rfl⟩
        rw [htw] at hrun
        have hways : (decide ((0 : Int) < x2) = false) ∨ (decide ((0 : Int) < x2) = true ∧ tw = false) := by
          by_cases h0 : 0 < x2
          · exact .inr ⟨decide_eq_true h0, by rw [← htw, k5 h0]; rfl⟩
          · exact .inl (decide_eq_false h0)
        clear k2 k3 k4 k5 k6 htw hx hLt
        rcases hways with h1 | ⟨h1, rfl⟩
        all_goals
          go_wp2
          go_region
          all_goals
            go_wp2_with (first
              | (go_at_call 22; first | ((with_reducible refine (WD.out _).mono ?_); rintro e w' ⟨rfl, rfl⟩) | ((with_reducible refine (WU.out _).mono ?_); rintro e w' ⟨rfl, rfl⟩))
              | (go_at_call 23; refine HPUT.out.mono ?_; rintro e w4 ⟨rfl, rb4, ht4, han4, hk4⟩; have HT4 := Aside0.mk ht4; have HK4 := Aside0.mk hk4; clear ht4 han4 hk4))
            go_roundw
            case rel =>
              have hb0 : Below w.heap.size w ((wr.alloc (.cells #[.int .i64 ((i : Int) + 1), .int .i64 x1, .int .i64 x2] 27)).drew) := below_drew (HB.out.alloc HB.out.size _)
              exact ⟨i + 1, rb4, by go_num, by omega, by rw [HN2.out]; exact HT4.out, hb0.trans (tab_low (HTX.out.later (below_drew (Below.refl _ _))) HK4.out hb0.size)⟩
            case measure => simp [intOf]; omega
      · have HNG := Aside0.mk (HBAD.out hok)
        have HB4 := Aside0.mk (below_drew (HB.out.alloc HB.out.size (.cells #[.int .i64 x0, .int .i64 x1, .int .i64 x2] 27)))
        obtain ⟨tw, htw⟩ : ∃ tw, (ofL Lt x1).isSome = tw := ⟨_, rfl⟩
        rw [htw] at hrun
        have hways : ¬ (x0 = (i : Int) + 1) ∨ (x0 = (i : Int) + 1 ∧ ¬ okDev x1) ∨ (x0 = (i : Int) + 1 ∧ okDev x1 ∧ ¬ (0 ≤ x2 ∧ x2 ≤ 1099512676352)) ∨ (x0 = (i : Int) + 1 ∧ okDev x1 ∧ (0 ≤ x2 ∧ x2 ≤ 1099512676352) ∧ decide ((0 : Int) < x2) = true ∧ tw = true) ∨ (x0 = (i : Int) + 1 ∧ okDev x1 ∧ (0 ≤ x2 ∧ x2 ≤ 1099512676352) ∧ decide ((0 : Int) < x2) = false ∧ decide ((20000 : Int) ≤ (i : Int)) = true) ∨ (x0 = (i : Int) + 1 ∧ okDev x1 ∧ (0 ≤ x2 ∧ x2 ≤ 1099512676352) ∧ decide ((0 : Int) < x2) = true ∧ tw = false ∧ decide ((20000 : Int) ≤ (i : Int)) = true) := by
          by_cases h1 : x0 = (i : Int) + 1
          · have e1 := h1
            by_cases h2 : okDev x1
            · by_cases h3 : 0 ≤ x2 ∧ x2 ≤ 1099512676352
              · by_cases h4 : 0 < x2
                · cases tw with
                  | true => exact .inr (.inr (.inr (.inl ⟨e1, h2, h3, decide_eq_true h4, rfl⟩)))
                  | false =>
                    refine .inr (.inr (.inr (.inr (.inr ⟨e1, h2, h3, decide_eq_true h4, rfl, decide_eq_true ?_⟩))))
                    refine Decidable.by_contra fun h5 => hok ⟨by rw [hLl]; exact h1, h2, h3.1, h3.2, fun _ => by simpa using htw, by omega⟩
                · refine .inr (.inr (.inr (.inr (.inl ⟨e1, h2, h3, decide_eq_false h4, decide_eq_true ?_⟩))))
                  refine Decidable.by_contra fun h5 => hok ⟨by rw [hLl]; exact h1, h2, h3.1, h3.2, fun h0 => absurd h0 h4, by omega⟩
              · exact .inr (.inr (.inl ⟨e1, h2, h3⟩))
            · exact .inr (.inl ⟨e1, h2⟩)
          · exact .inl h1
        clear hok htw hx hLt
        rcases hways with h1 | ⟨rfl, h2⟩ | ⟨rfl, h2, h3⟩ | ⟨rfl, h2, h3, h4, rfl⟩ | ⟨rfl, h2, h3, h4, h5⟩ | ⟨rfl, h2, h3, h4, rfl, h5⟩
        · have h1a : (x0 == (i : Int) + 1) = false := by simpa using h1
          have h1b : decide (x0 = (i : Int) + 1) = false := by simpa using h1
          go_wp2
          go_region
          all_goals
            go_wp2
            go_ret2
            exact ⟨.inr ⟨HNG.out, rfl⟩, HB4.out⟩
        · have WD := Aside0.mk (fun w => within_false x1 1 4096 w h2)
          clear h2
          go_wp2
          go_region
          all_goals
            go_wp2_with (go_at_call 22; ((with_reducible refine (WD.out _).mono ?_); rintro e w' ⟨rfl, rfl⟩))
            go_ret2
            exact ⟨.inr ⟨HNG.out, rfl⟩, HB4.out⟩
        · have WD := Aside0.mk (fun w => within_true x1 1 4096 w h2)
          have WU := Aside0.mk (fun w => within_false x2 0 1099512676352 w h3)
          clear h2 h3
          go_wp2
          go_region
          all_goals
            go_wp2_with (go_at_call 22; first | ((with_reducible refine (WD.out _).mono ?_); rintro e w' ⟨rfl, rfl⟩) | ((with_reducible refine (WU.out _).mono ?_); rintro e w' ⟨rfl, rfl⟩))
            go_ret2
            exact ⟨.inr ⟨HNG.out, rfl⟩, HB4.out⟩
        all_goals
          have WD := Aside0.mk (fun w => within_true x1 1 4096 w h2)
          have WU := Aside0.mk (fun w => within_true x2 0 1099512676352 w h3)
          clear h2 h3
          go_wp2
          go_region
          all_goals
            go_wp2_with (go_at_call 22; first | ((with_reducible refine (WD.out _).mono ?_); rintro e w' ⟨rfl, rfl⟩) | ((with_reducible refine (WU.out _).mono ?_); rintro e w' ⟨rfl, rfl⟩))
            go_ret2
            exact ⟨.inr ⟨HNG.out, rfl⟩, HB4.out⟩
    · obtain rfl : i = l.length := by omega
      have hd3 : decide (l.length < l.length) = false := by simp
      have HT2 := Aside0.mk (show TabAt wr w.heap.size g rb m l by have h := HT.out; rw [List.take_length] at h; exact h)
      go_wp2
      go_ret2
      exact ⟨.inl ⟨HT2.out.good, _, _, _, rfl, HT2.out⟩, HB.out⟩
end Go.Proofs.Ytbmpglchifnelaa
