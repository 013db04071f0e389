/- The laws' step on two tables that need not be alike: what it leaves. -/
import Derived.Test.YtbmpglchifnelaaLStep
namespace Go.Proofs.Ytbmpglchifnelaa
open Go.RowKit Go.Maps Go.Proofs.YtbmpglchifnelaaW.PrintWords Go.Proofs.YtbmpglchifnelaaW.PrintLast Go.Proofs.YtbmpglchifnelaaW.PrintMore
set_option linter.unusedVariables false
set_option linter.unusedSimpArgs false
attribute [local go_sem] Oper.semAt_some max2_int min2_int max_two min_two max_three min_three max_four min_four
attribute [local go_sem high] eqA3

theorem ways3 (x0 x1 x2 y0 y1 y2 : Int) : ((x0 == y0) = true ∧ (x1 == y1) = true ∧ (x2 == y2) = true) ∨ ((x0 == y0) = false) ∨ ((x0 == y0) = true ∧ (x1 == y1) = false) ∨ ((x0 == y0) = true ∧ (x1 == y1) = true ∧ (x2 == y2) = false) := by
  cases x0 == y0 <;> cases x1 == y1 <;> cases x2 == y2 <;> simp
set_option maxHeartbeats 1000000 in
set_option maxRecDepth 100000 in
theorem same_any (A1 A2 : Option Addr) (c1 c2 : Nat) (L M : List L3) (w : World) (hlen : L.length ≤ 20000) (h1 : leaseK.C w A1 L.length L) (h2 : leaseK.C w A2 M.length M) :
    Calls Try.prog 19 #[.slice A1 L.length c1, .slice A2 M.length c2] w fun e w' => ∃ b, e = .returned (.bool b) ∧ Below w.heap.size w w' := by
  have H1 := Aside0.mk h1
  have H2 := Aside0.mk h2
  clear h1 h2
  by_cases hlm : L.length = M.length
  · have HLM := Aside0.mk hlm
    have hmm : (M.length : Int) = (L.length : Int) := by omega
    go_enter Try.func19, Try.ntmps19
    go_wp2
    go_loopw [5] (fun v5 wr => ∃ i : Nat, v5 = .int .i64 (i : Int) ∧ i ≤ L.length ∧ Below w.heap.size w wr) (fun v5 wr => L.length - (intOf v5).toNat)
    case atStart => exact ⟨0, rfl, Nat.zero_le _, Below.refl _ _⟩
    case round =>
      obtain ⟨i, rfl, hi, hb⟩ := hrel
      have HB := Aside0.mk hb
      clear hb
      by_cases hlt : i < L.length
      · obtain ⟨ad, e, hy0, hy1, hy2⟩ := lease_at H1.out i hlt
        subst e
        obtain ⟨ae, e, hz0, hz1, hz2⟩ := lease_at H2.out i (by omega)
        subst e
        obtain ⟨x, hx⟩ : ∃ x, L.getD i z3 = x := ⟨_, rfl⟩
        obtain ⟨y, hy⟩ : ∃ y, M.getD i z3 = y := ⟨_, rfl⟩
        rw [hx] at hy0 hy1 hy2
        rw [hy] at hz0 hz1 hz2
        obtain ⟨x0, x1, x2⟩ := x
        obtain ⟨y0, y1, y2⟩ := y
        dsimp only at hy0 hy1 hy2 hz0 hz1 hz2
        rw [add_field ad (i * 3) 1 (by omega)] at hy1
        rw [add_field ad (i * 3) 2 (by omega)] at hy2
        rw [add_field ae (i * 3) 1 (by omega)] at hz1
        rw [add_field ae (i * 3) 2 (by omega)] at hz2
        have hu0 := pw_cell_below HB.out hy0
        have hu1 := pw_cell_below HB.out hy1
        have hu2 := pw_cell_below HB.out hy2
        have hv0 := pw_cell_below HB.out hz0
        have hv1 := pw_cell_below HB.out hz1
        have hv2 := pw_cell_below HB.out hz2
        have him : i < M.length := by omega
        have hiz : (i : Int) < (M.length : Int) := by omega
        clear hx hy hy0 hy1 hy2 hz0 hz1 hz2
        rcases ways3 x0 x1 x2 y0 y1 y2 with ⟨hw1, hw2, hw3⟩ | hw1 | ⟨hw1, hw2⟩ | ⟨hw1, hw2, hw3⟩
        · go_wp2
          go_quiet (fail)
          go_wp2
          go_roundw
          case rel => exact ⟨i + 1, by go_num, by omega, pw_below_drewN HB.out _⟩
          case measure => simp [intOf]; omega
        all_goals
          go_wp2
          go_quiet (fail)
          go_wp2
          go_ret
          exact ⟨_, rfl, pw_below_drewN HB.out _⟩
      · have hd3 : decide (i < L.length) = false := by simp; omega
        go_wp2
        go_ret
        exact ⟨_, rfl, HB.out⟩
  · have hd : ((L.length : Int) == (M.length : Int)) = false := by simp; omega
    have hd2 : (L.length == M.length) = false := by simpa using hlm
    go_enter Try.func19, Try.ntmps19
    go_wp2
    go_ret
    exact ⟨_, rfl, Below.refl _ _⟩
set_option maxHeartbeats 2000000 in
set_option maxRecDepth 100000 in
theorem stepx_grant (base gt m g : Nat) (rbt rbr : Option Nat) (L M : List L3) (n now life : Int) (w : World) (ht : TabAt w base gt rbt m L) (hr : RefAt w base g rbr M) (ha : Apart gt rbt m g rbr) (hbase : base ≤ w.heap.size) (hwn : (Lit.int .i64 n).wf = true) (hww : (Lit.int .i64 now).wf = true) (hwl : (Lit.int .i64 life).wf = true) :
    Calls Try.prog 18 #[.pointer (some ⟨gt, 0, none⟩), .pointer (some ⟨g, 0, none⟩), .agg #[.int .i64 0, .int .i64 n, .int .i64 now, .int .i64 life]] w fun e w' => ∃ v : Value, e = .returned v ∧ StepOk w w' base gt m g rbt rbr (grantL L n now life).1 (grantL M n now life).1 := by
  have HB0 := Aside0.mk (show Below w.heap.size w (w.alloc (.cells #[.int .i64 0, .int .i64 n, .int .i64 now, .int .i64 life] 43)) from below_alloc (Below.refl _ _) _)
  have HTAB := Aside0.mk ht
  have HREF := Aside0.mk hr
  have HAP := Aside0.mk ha
  have HT0 := Aside0.mk (ht.later HB0.out)
  have HNS := Aside0.mk (show ¬ tabS gt rbt m w.heap.size from tabS_ne ht.lt (Nat.le_refl _))
  have hbs0 : base ≤ (w.alloc (.cells #[.int .i64 0, .int .i64 n, .int .i64 now, .int .i64 life] 43)).heap.size := by simp; omega
  obtain ⟨L', ⟨x0, x1, x2⟩, e0, hres⟩ : ∃ (L' : List L3) (x : L3) (e0 : Int), grantL L n now life = (L', x, e0) := ⟨_, _, _, rfl⟩
  rw [hres]
  have HG := Aside0.mk hres
  obtain ⟨M', ⟨y0, y1, y2⟩, f0, hrem⟩ : ∃ (M' : List L3) (x : L3) (e0 : Int), grantL M n now life = (M', x, e0) := ⟨_, _, _, rfl⟩
  rw [hrem]
  have HM := Aside0.mk hrem
  clear hres hrem ht hr ha
  rcases ways3 x0 x1 x2 y0 y1 y2 with ⟨hw1, hw2, hw3⟩ | hw1 | ⟨hw1, hw2⟩ | ⟨hw1, hw2, hw3⟩
  all_goals
    go_enter Try.func18, Try.ntmps18
    go_wp2_with (first
      | (go_at_call 11; (with_reducible refine (grant_flat base gt m rbt L L' n now life x0 x1 x2 e0 (w.alloc (.cells #[.int .i64 0, .int .i64 n, .int .i64 now, .int .i64 life] 43)) HT0.out hbs0 hwn hww hwl HG.out).mono ?_); rintro e w1 ⟨rfl, rbt1, ht1, han1, hk1⟩; skip; have hb_ := blk_alloc (hk1.blk (blk_new w (.cells #[.int .i64 0, .int .i64 n, .int .i64 now, .int .i64 life] 43)) HNS.out) (.cells #[.int .i64 x0, .int .i64 x1, .int .i64 x2] 27); have hs0 : (w1.alloc (.cells #[.int .i64 x0, .int .i64 x1, .int .i64 x2] 27)).cell? ⟨w.heap.size, 0, none⟩ = some (.int .i64 0) := (blk_cell hb_ 0).trans rfl; have hs1 : (w1.alloc (.cells #[.int .i64 x0, .int .i64 x1, .int .i64 x2] 27)).cell? ⟨w.heap.size, 1, none⟩ = some (.int .i64 n) := (blk_cell hb_ 1).trans rfl; have hs2 : (w1.alloc (.cells #[.int .i64 x0, .int .i64 x1, .int .i64 x2] 27)).cell? ⟨w.heap.size, 2, none⟩ = some (.int .i64 now) := (blk_cell hb_ 2).trans rfl; have hs3 : (w1.alloc (.cells #[.int .i64 x0, .int .i64 x1, .int .i64 x2] 27)).cell? ⟨w.heap.size, 3, none⟩ = some (.int .i64 life) := (blk_cell hb_ 3).trans rfl; clear hb_; have HR1 := Aside0.mk (step_mid (W1 := (w1.alloc (.cells #[.int .i64 x0, .int .i64 x1, .int .i64 x2] 27))) HREF.out HAP.out HB0.out hk1 (below_alloc (Below.refl _ _) _)); have HNX := Aside0.mk (show ¬ refS g rbr w1.heap.size from refS_ne HREF.out.lt (Nat.le_trans HB0.out.size hk1.size)); have HT1 := Aside0.mk ht1; have HA1 := Aside0.mk han1; have HK1 := Aside0.mk hk1; clear ht1 han1 hk1)
      | (go_at_call 26; (with_reducible refine (rgrant_flat base g rbr M M' n now life y0 y1 y2 f0 (w1.alloc (.cells #[.int .i64 x0, .int .i64 x1, .int .i64 x2] 27)) HR1.out (by have := HB0.out.size; have := HK1.out.size; simp at *; omega) HM.out).mono ?_); rintro e w2 ⟨rfl, rbr2, hr2, han2, hk2⟩; skip; have hx_ := hk2.blk (blk_new w1 (.cells #[.int .i64 x0, .int .i64 x1, .int .i64 x2] 27)) HNX.out; have hx7_ := blk_alloc hx_ (.cells #[.int .i64 y0, .int .i64 y1, .int .i64 y2] 27); have hx70 : (w2.alloc (.cells #[.int .i64 y0, .int .i64 y1, .int .i64 y2] 27)).cell? ⟨w1.heap.size, 0, none⟩ = some (.int .i64 x0) := (blk_cell hx7_ 0).trans rfl; have hx71 : (w2.alloc (.cells #[.int .i64 y0, .int .i64 y1, .int .i64 y2] 27)).cell? ⟨w1.heap.size, 1, none⟩ = some (.int .i64 x1) := (blk_cell hx7_ 1).trans rfl; have hx72 : (w2.alloc (.cells #[.int .i64 y0, .int .i64 y1, .int .i64 y2] 27)).cell? ⟨w1.heap.size, 2, none⟩ = some (.int .i64 x2) := (blk_cell hx7_ 2).trans rfl; clear hx_ hx7_; have HR2 := Aside0.mk hr2; have HA2 := Aside0.mk han2; have HK2 := Aside0.mk hk2; clear hr2 han2 hk2))
    go_ret
    first
      | exact ⟨_, rfl, step_join HTAB.out HREF.out HAP.out HB0.out HT1.out HA1.out HK1.out (below_alloc (Below.refl _ _) _) HR2.out HA2.out HK2.out (below_alloc (Below.refl _ _) _)⟩
      | exact ⟨⟨_, rfl⟩, step_join HTAB.out HREF.out HAP.out HB0.out HT1.out HA1.out HK1.out (below_alloc (Below.refl _ _) _) HR2.out HA2.out HK2.out (below_alloc (Below.refl _ _) _)⟩
set_option maxHeartbeats 2000000 in
set_option maxRecDepth 100000 in
theorem stepx_renew (base gt m g : Nat) (rbt rbr : Option Nat) (L M : List L3) (n now life : Int) (w : World) (ht : TabAt w base gt rbt m L) (hr : RefAt w base g rbr M) (ha : Apart gt rbt m g rbr) (hbase : base ≤ w.heap.size) (hwn : (Lit.int .i64 n).wf = true) (hww : (Lit.int .i64 now).wf = true) (hwl : (Lit.int .i64 life).wf = true) :
    Calls Try.prog 18 #[.pointer (some ⟨gt, 0, none⟩), .pointer (some ⟨g, 0, none⟩), .agg #[.int .i64 1, .int .i64 n, .int .i64 now, .int .i64 life]] w fun e w' => ∃ v : Value, e = .returned v ∧ StepOk w w' base gt m g rbt rbr (renewL L n now life).1 (renewL M n now life).1 := by
  have HB0 := Aside0.mk (show Below w.heap.size w (w.alloc (.cells #[.int .i64 1, .int .i64 n, .int .i64 now, .int .i64 life] 43)) from below_alloc (Below.refl _ _) _)
  have HTAB := Aside0.mk ht
  have HREF := Aside0.mk hr
  have HAP := Aside0.mk ha
  have HT0 := Aside0.mk (ht.later HB0.out)
  have HNS := Aside0.mk (show ¬ tabS gt rbt m w.heap.size from tabS_ne ht.lt (Nat.le_refl _))
  have hbs0 : base ≤ (w.alloc (.cells #[.int .i64 1, .int .i64 n, .int .i64 now, .int .i64 life] 43)).heap.size := by simp; omega
  obtain ⟨L', ⟨x0, x1, x2⟩, e0, hres⟩ : ∃ (L' : List L3) (x : L3) (e0 : Int), renewL L n now life = (L', x, e0) := ⟨_, _, _, rfl⟩
  rw [hres]
  have HG := Aside0.mk hres
  obtain ⟨M', ⟨y0, y1, y2⟩, f0, hrem⟩ : ∃ (M' : List L3) (x : L3) (e0 : Int), renewL M n now life = (M', x, e0) := ⟨_, _, _, rfl⟩
  rw [hrem]
  have HM := Aside0.mk hrem
  clear hres hrem ht hr ha
  rcases ways3 x0 x1 x2 y0 y1 y2 with ⟨hw1, hw2, hw3⟩ | hw1 | ⟨hw1, hw2⟩ | ⟨hw1, hw2, hw3⟩
  all_goals
    go_enter Try.func18, Try.ntmps18
    go_wp2_with (first
      | (go_at_call 12; (with_reducible refine (renew_flat base gt m rbt L L' n now life x0 x1 x2 e0 (w.alloc (.cells #[.int .i64 1, .int .i64 n, .int .i64 now, .int .i64 life] 43)) HT0.out HG.out).mono ?_); rintro e w1 ⟨rfl, ht1, hk1⟩; have han1 : Anew (w.alloc (.cells #[.int .i64 1, .int .i64 n, .int .i64 now, .int .i64 life] 43)) rbt rbt := Anew.refl _ _; have hb_ := blk_alloc (hk1.blk (blk_new w (.cells #[.int .i64 1, .int .i64 n, .int .i64 now, .int .i64 life] 43)) HNS.out) (.cells #[.int .i64 x0, .int .i64 x1, .int .i64 x2] 27); have hs0 : (w1.alloc (.cells #[.int .i64 x0, .int .i64 x1, .int .i64 x2] 27)).cell? ⟨w.heap.size, 0, none⟩ = some (.int .i64 1) := (blk_cell hb_ 0).trans rfl; have hs1 : (w1.alloc (.cells #[.int .i64 x0, .int .i64 x1, .int .i64 x2] 27)).cell? ⟨w.heap.size, 1, none⟩ = some (.int .i64 n) := (blk_cell hb_ 1).trans rfl; have hs2 : (w1.alloc (.cells #[.int .i64 x0, .int .i64 x1, .int .i64 x2] 27)).cell? ⟨w.heap.size, 2, none⟩ = some (.int .i64 now) := (blk_cell hb_ 2).trans rfl; have hs3 : (w1.alloc (.cells #[.int .i64 x0, .int .i64 x1, .int .i64 x2] 27)).cell? ⟨w.heap.size, 3, none⟩ = some (.int .i64 life) := (blk_cell hb_ 3).trans rfl; clear hb_; have HR1 := Aside0.mk (step_mid (W1 := (w1.alloc (.cells #[.int .i64 x0, .int .i64 x1, .int .i64 x2] 27))) HREF.out HAP.out HB0.out hk1 (below_alloc (Below.refl _ _) _)); have HNX := Aside0.mk (show ¬ refS g rbr w1.heap.size from refS_ne HREF.out.lt (Nat.le_trans HB0.out.size hk1.size)); have HT1 := Aside0.mk ht1; have HA1 := Aside0.mk han1; have HK1 := Aside0.mk hk1; clear ht1 han1 hk1)
      | (go_at_call 27; (with_reducible refine (rrenew_flat base g rbr M M' n now life y0 y1 y2 f0 (w1.alloc (.cells #[.int .i64 x0, .int .i64 x1, .int .i64 x2] 27)) HR1.out hwn HM.out).mono ?_); rintro e w2 ⟨rfl, hr2, hk2⟩; have han2 : Anew (w1.alloc (.cells #[.int .i64 x0, .int .i64 x1, .int .i64 x2] 27)) rbr rbr := Anew.refl _ _; have hx_ := hk2.blk (blk_new w1 (.cells #[.int .i64 x0, .int .i64 x1, .int .i64 x2] 27)) HNX.out; have hx7_ := blk_alloc hx_ (.cells #[.int .i64 y0, .int .i64 y1, .int .i64 y2] 27); have hx70 : (w2.alloc (.cells #[.int .i64 y0, .int .i64 y1, .int .i64 y2] 27)).cell? ⟨w1.heap.size, 0, none⟩ = some (.int .i64 x0) := (blk_cell hx7_ 0).trans rfl; have hx71 : (w2.alloc (.cells #[.int .i64 y0, .int .i64 y1, .int .i64 y2] 27)).cell? ⟨w1.heap.size, 1, none⟩ = some (.int .i64 x1) := (blk_cell hx7_ 1).trans rfl; have hx72 : (w2.alloc (.cells #[.int .i64 y0, .int .i64 y1, .int .i64 y2] 27)).cell? ⟨w1.heap.size, 2, none⟩ = some (.int .i64 x2) := (blk_cell hx7_ 2).trans rfl; clear hx_ hx7_; have HR2 := Aside0.mk hr2; have HA2 := Aside0.mk han2; have HK2 := Aside0.mk hk2; clear hr2 han2 hk2))
    go_ret
    first
      | exact ⟨_, rfl, step_join HTAB.out HREF.out HAP.out HB0.out HT1.out HA1.out HK1.out (below_alloc (Below.refl _ _) _) HR2.out HA2.out HK2.out (below_alloc (Below.refl _ _) _)⟩
      | exact ⟨⟨_, rfl⟩, step_join HTAB.out HREF.out HAP.out HB0.out HT1.out HA1.out HK1.out (below_alloc (Below.refl _ _) _) HR2.out HA2.out HK2.out (below_alloc (Below.refl _ _) _)⟩
set_option maxHeartbeats 2000000 in
set_option maxRecDepth 100000 in
theorem stepx_end (base gt m g : Nat) (rbt rbr : Option Nat) (L M : List L3) (n now life : Int) (w : World) (ht : TabAt w base gt rbt m L) (hr : RefAt w base g rbr M) (ha : Apart gt rbt m g rbr) (hbase : base ≤ w.heap.size) (hwn : (Lit.int .i64 n).wf = true) (hww : (Lit.int .i64 now).wf = true) (hwl : (Lit.int .i64 life).wf = true) :
    Calls Try.prog 18 #[.pointer (some ⟨gt, 0, none⟩), .pointer (some ⟨g, 0, none⟩), .agg #[.int .i64 2, .int .i64 n, .int .i64 now, .int .i64 life]] w fun e w' => ∃ v : Value, e = .returned v ∧ StepOk w w' base gt m g rbt rbr (endL L n).1 (endL M n).1 := by
  have HB0 := Aside0.mk (show Below w.heap.size w (w.alloc (.cells #[.int .i64 2, .int .i64 n, .int .i64 now, .int .i64 life] 43)) from below_alloc (Below.refl _ _) _)
  have HTAB := Aside0.mk ht
  have HREF := Aside0.mk hr
  have HAP := Aside0.mk ha
  have HT0 := Aside0.mk (ht.later HB0.out)
  have HNS := Aside0.mk (show ¬ tabS gt rbt m w.heap.size from tabS_ne ht.lt (Nat.le_refl _))
  have hbs0 : base ≤ (w.alloc (.cells #[.int .i64 2, .int .i64 n, .int .i64 now, .int .i64 life] 43)).heap.size := by simp; omega
  obtain ⟨L', e0, hres⟩ : ∃ (L' : List L3) (e0 : Int), endL L n = (L', e0) := ⟨_, _, rfl⟩
  rw [hres]
  have HG := Aside0.mk hres
  obtain ⟨M', f0, hrem⟩ : ∃ (L' : List L3) (e0 : Int), endL M n = (L', e0) := ⟨_, _, rfl⟩
  rw [hrem]
  have HM := Aside0.mk hrem
  clear hres hrem ht hr ha
  go_enter Try.func18, Try.ntmps18
  go_wp2_with (first
    | (go_at_call 14; (with_reducible refine (end_flat base gt m rbt L L' n e0 (w.alloc (.cells #[.int .i64 2, .int .i64 n, .int .i64 now, .int .i64 life] 43)) HT0.out HG.out).mono ?_); rintro e w1 ⟨rfl, ht1, hk1⟩; have han1 : Anew (w.alloc (.cells #[.int .i64 2, .int .i64 n, .int .i64 now, .int .i64 life] 43)) rbt rbt := Anew.refl _ _; have hb_ := hk1.blk (blk_new w (.cells #[.int .i64 2, .int .i64 n, .int .i64 now, .int .i64 life] 43)) HNS.out; have hs0 : w1.cell? ⟨w.heap.size, 0, none⟩ = some (.int .i64 2) := (blk_cell hb_ 0).trans rfl; have hs1 : w1.cell? ⟨w.heap.size, 1, none⟩ = some (.int .i64 n) := (blk_cell hb_ 1).trans rfl; have hs2 : w1.cell? ⟨w.heap.size, 2, none⟩ = some (.int .i64 now) := (blk_cell hb_ 2).trans rfl; have hs3 : w1.cell? ⟨w.heap.size, 3, none⟩ = some (.int .i64 life) := (blk_cell hb_ 3).trans rfl; clear hb_; have HR1 := Aside0.mk (step_mid (W1 := w1) HREF.out HAP.out HB0.out hk1 (Below.refl _ _)); have HNX := Aside0.mk (show ¬ refS g rbr w1.heap.size from refS_ne HREF.out.lt (Nat.le_trans HB0.out.size hk1.size)); have HT1 := Aside0.mk ht1; have HA1 := Aside0.mk han1; have HK1 := Aside0.mk hk1; clear ht1 han1 hk1)
    | (go_at_call 28; (with_reducible refine (rend_flat base g rbr M M' n f0 w1 HR1.out hwn HM.out).mono ?_); rintro e w2 ⟨rfl, hr2, hk2⟩; have han2 : Anew w1 rbr rbr := Anew.refl _ _; have HR2 := Aside0.mk hr2; have HA2 := Aside0.mk han2; have HK2 := Aside0.mk hk2; clear hr2 han2 hk2))
  go_ret
  first
    | exact ⟨_, rfl, step_join HTAB.out HREF.out HAP.out HB0.out HT1.out HA1.out HK1.out (Below.refl _ _) HR2.out HA2.out HK2.out (Below.refl _ _)⟩
    | exact ⟨⟨_, rfl⟩, step_join HTAB.out HREF.out HAP.out HB0.out HT1.out HA1.out HK1.out (Below.refl _ _) HR2.out HA2.out HK2.out (Below.refl _ _)⟩
set_option maxHeartbeats 2000000 in
set_option maxRecDepth 100000 in
theorem stepx_of (base gt m g : Nat) (rbt rbr : Option Nat) (L M : List L3) (n now life : Int) (w : World) (ht : TabAt w base gt rbt m L) (hr : RefAt w base g rbr M) (ha : Apart gt rbt m g rbr) (hbase : base ≤ w.heap.size) (hwn : (Lit.int .i64 n).wf = true) (hww : (Lit.int .i64 now).wf = true) (hwl : (Lit.int .i64 life).wf = true) :
    Calls Try.prog 18 #[.pointer (some ⟨gt, 0, none⟩), .pointer (some ⟨g, 0, none⟩), .agg #[.int .i64 4, .int .i64 n, .int .i64 now, .int .i64 life]] w fun e w' => ∃ v : Value, e = .returned v ∧ StepOk w w' base gt m g rbt rbr L M := by
  have HB0 := Aside0.mk (show Below w.heap.size w (w.alloc (.cells #[.int .i64 4, .int .i64 n, .int .i64 now, .int .i64 life] 43)) from below_alloc (Below.refl _ _) _)
  have HTAB := Aside0.mk ht
  have HREF := Aside0.mk hr
  have HAP := Aside0.mk ha
  have HT0 := Aside0.mk (ht.later HB0.out)
  have HNS := Aside0.mk (show ¬ tabS gt rbt m w.heap.size from tabS_ne ht.lt (Nat.le_refl _))
  have hbs0 : base ≤ (w.alloc (.cells #[.int .i64 4, .int .i64 n, .int .i64 now, .int .i64 life] 43)).heap.size := by simp; omega
  obtain ⟨⟨x0, x1, x2⟩, e0, hres⟩ : ∃ (x : L3) (e0 : Bool), ofD L n = (x, e0) := ⟨_, _, rfl⟩
  have HG := Aside0.mk hres
  obtain ⟨⟨y0, y1, y2⟩, f0, hrem⟩ : ∃ (x : L3) (e0 : Bool), ofD M n = (x, e0) := ⟨_, _, rfl⟩
  have HM := Aside0.mk hrem
  clear hres hrem ht hr ha
  rcases ways3 x0 x1 x2 y0 y1 y2 with ⟨hw1, hw2, hw3⟩ | hw1 | ⟨hw1, hw2⟩ | ⟨hw1, hw2, hw3⟩
  all_goals
    go_enter Try.func18, Try.ntmps18
    go_wp2_with (first
      | (go_at_call 13; (with_reducible refine (of_flat base gt m rbt L n x0 x1 x2 e0 (w.alloc (.cells #[.int .i64 4, .int .i64 n, .int .i64 now, .int .i64 life] 43)) HT0.out hwn HG.out).mono ?_); rintro e w1 ⟨rfl, hb1⟩; have ht1 := HT0.out.later hb1; have hk1 : Keep (w.alloc (.cells #[.int .i64 4, .int .i64 n, .int .i64 now, .int .i64 life] 43)) w1 (tabS gt rbt m) := Keep.of_below hb1 _; have han1 : Anew (w.alloc (.cells #[.int .i64 4, .int .i64 n, .int .i64 now, .int .i64 life] 43)) rbt rbt := Anew.refl _ _; clear hb1; have hb_ := blk_alloc (hk1.blk (blk_new w (.cells #[.int .i64 4, .int .i64 n, .int .i64 now, .int .i64 life] 43)) HNS.out) (.cells #[.int .i64 x0, .int .i64 x1, .int .i64 x2] 27); have hs0 : (w1.alloc (.cells #[.int .i64 x0, .int .i64 x1, .int .i64 x2] 27)).cell? ⟨w.heap.size, 0, none⟩ = some (.int .i64 4) := (blk_cell hb_ 0).trans rfl; have hs1 : (w1.alloc (.cells #[.int .i64 x0, .int .i64 x1, .int .i64 x2] 27)).cell? ⟨w.heap.size, 1, none⟩ = some (.int .i64 n) := (blk_cell hb_ 1).trans rfl; have hs2 : (w1.alloc (.cells #[.int .i64 x0, .int .i64 x1, .int .i64 x2] 27)).cell? ⟨w.heap.size, 2, none⟩ = some (.int .i64 now) := (blk_cell hb_ 2).trans rfl; have hs3 : (w1.alloc (.cells #[.int .i64 x0, .int .i64 x1, .int .i64 x2] 27)).cell? ⟨w.heap.size, 3, none⟩ = some (.int .i64 life) := (blk_cell hb_ 3).trans rfl; clear hb_; have HR1 := Aside0.mk (step_mid (W1 := (w1.alloc (.cells #[.int .i64 x0, .int .i64 x1, .int .i64 x2] 27))) HREF.out HAP.out HB0.out hk1 (below_alloc (Below.refl _ _) _)); have HNX := Aside0.mk (show ¬ refS g rbr w1.heap.size from refS_ne HREF.out.lt (Nat.le_trans HB0.out.size hk1.size)); have HT1 := Aside0.mk ht1; have HA1 := Aside0.mk han1; have HK1 := Aside0.mk hk1; clear ht1 han1 hk1)
      | (go_at_call 30; (with_reducible refine (rof_flat base g rbr M n y0 y1 y2 f0 (w1.alloc (.cells #[.int .i64 x0, .int .i64 x1, .int .i64 x2] 27)) HR1.out HM.out).mono ?_); rintro e w2 ⟨rfl, hb2⟩; have hr2 := HR1.out.later hb2; have hk2 : Keep (w1.alloc (.cells #[.int .i64 x0, .int .i64 x1, .int .i64 x2] 27)) w2 (refS g rbr) := Keep.of_below hb2 _; have han2 : Anew (w1.alloc (.cells #[.int .i64 x0, .int .i64 x1, .int .i64 x2] 27)) rbr rbr := Anew.refl _ _; clear hb2; have hx_ := hk2.blk (blk_new w1 (.cells #[.int .i64 x0, .int .i64 x1, .int .i64 x2] 27)) HNX.out; have hx7_ := blk_alloc hx_ (.cells #[.int .i64 y0, .int .i64 y1, .int .i64 y2] 27); have hx70 : (w2.alloc (.cells #[.int .i64 y0, .int .i64 y1, .int .i64 y2] 27)).cell? ⟨w1.heap.size, 0, none⟩ = some (.int .i64 x0) := (blk_cell hx7_ 0).trans rfl; have hx71 : (w2.alloc (.cells #[.int .i64 y0, .int .i64 y1, .int .i64 y2] 27)).cell? ⟨w1.heap.size, 1, none⟩ = some (.int .i64 x1) := (blk_cell hx7_ 1).trans rfl; have hx72 : (w2.alloc (.cells #[.int .i64 y0, .int .i64 y1, .int .i64 y2] 27)).cell? ⟨w1.heap.size, 2, none⟩ = some (.int .i64 x2) := (blk_cell hx7_ 2).trans rfl; clear hx_ hx7_; have HR2 := Aside0.mk hr2; have HA2 := Aside0.mk han2; have HK2 := Aside0.mk hk2; clear hr2 han2 hk2))
    go_ret
    first
      | exact ⟨_, rfl, step_join HTAB.out HREF.out HAP.out HB0.out HT1.out HA1.out HK1.out (below_alloc (Below.refl _ _) _) HR2.out HA2.out HK2.out (below_alloc (Below.refl _ _) _)⟩
      | exact ⟨⟨_, rfl⟩, step_join HTAB.out HREF.out HAP.out HB0.out HT1.out HA1.out HK1.out (below_alloc (Below.refl _ _) _) HR2.out HA2.out HK2.out (below_alloc (Below.refl _ _) _)⟩
set_option maxHeartbeats 2000000 in
set_option maxRecDepth 100000 in
theorem stepx_at (base gt m g : Nat) (rbt rbr : Option Nat) (L M : List L3) (q n now life : Int) (w : World) (ht : TabAt w base gt rbt m L) (hr : RefAt w base g rbr M) (ha : Apart gt rbt m g rbr) (hbase : base ≤ w.heap.size) (hwn : (Lit.int .i64 n).wf = true) (hww : (Lit.int .i64 now).wf = true) (hwl : (Lit.int .i64 life).wf = true) (q0 : (q == 0) = false) (q1 : (q == 1) = false) (q2 : (q == 2) = false) (q3 : (q == 3) = false) (q4 : (q == 4) = false) :
    Calls Try.prog 18 #[.pointer (some ⟨gt, 0, none⟩), .pointer (some ⟨g, 0, none⟩), .agg #[.int .i64 q, .int .i64 n, .int .i64 now, .int .i64 life]] w fun e w' => ∃ v : Value, e = .returned v ∧ StepOk w w' base gt m g rbt rbr L M := by
  have HB0 := Aside0.mk (show Below w.heap.size w (w.alloc (.cells #[.int .i64 q, .int .i64 n, .int .i64 now, .int .i64 life] 43)) from below_alloc (Below.refl _ _) _)
  have HTAB := Aside0.mk ht
  have HREF := Aside0.mk hr
  have HAP := Aside0.mk ha
  have HT0 := Aside0.mk (ht.later HB0.out)
  have HNS := Aside0.mk (show ¬ tabS gt rbt m w.heap.size from tabS_ne ht.lt (Nat.le_refl _))
  have hbs0 : base ≤ (w.alloc (.cells #[.int .i64 q, .int .i64 n, .int .i64 now, .int .i64 life] 43)).heap.size := by simp; omega
  obtain ⟨⟨x0, x1, x2⟩, e0, hres⟩ : ∃ (x : L3) (e0 : Int), atD L n = (x, e0) := ⟨_, _, rfl⟩
  have HG := Aside0.mk hres
  obtain ⟨⟨y0, y1, y2⟩, f0, hrem⟩ : ∃ (x : L3) (e0 : Int), atD M n = (x, e0) := ⟨_, _, rfl⟩
  have HM := Aside0.mk hrem
  clear hres hrem ht hr ha
  rcases ways3 x0 x1 x2 y0 y1 y2 with ⟨hw1, hw2, hw3⟩ | hw1 | ⟨hw1, hw2⟩ | ⟨hw1, hw2, hw3⟩
  all_goals
    go_enter Try.func18, Try.ntmps18
    go_wp2_with (first
      | (go_at_call 15; (with_reducible refine (at_flat base gt m rbt L n x0 x1 x2 e0 (w.alloc (.cells #[.int .i64 q, .int .i64 n, .int .i64 now, .int .i64 life] 43)) HT0.out HG.out).mono ?_); rintro e w1 ⟨rfl, hb1⟩; have ht1 := HT0.out.later hb1; have hk1 : Keep (w.alloc (.cells #[.int .i64 q, .int .i64 n, .int .i64 now, .int .i64 life] 43)) w1 (tabS gt rbt m) := Keep.of_below hb1 _; have han1 : Anew (w.alloc (.cells #[.int .i64 q, .int .i64 n, .int .i64 now, .int .i64 life] 43)) rbt rbt := Anew.refl _ _; clear hb1; have hb_ := blk_alloc (hk1.blk (blk_new w (.cells #[.int .i64 q, .int .i64 n, .int .i64 now, .int .i64 life] 43)) HNS.out) (.cells #[.int .i64 x0, .int .i64 x1, .int .i64 x2] 27); have hs0 : (w1.alloc (.cells #[.int .i64 x0, .int .i64 x1, .int .i64 x2] 27)).cell? ⟨w.heap.size, 0, none⟩ = some (.int .i64 q) := (blk_cell hb_ 0).trans rfl; have hs1 : (w1.alloc (.cells #[.int .i64 x0, .int .i64 x1, .int .i64 x2] 27)).cell? ⟨w.heap.size, 1, none⟩ = some (.int .i64 n) := (blk_cell hb_ 1).trans rfl; have hs2 : (w1.alloc (.cells #[.int .i64 x0, .int .i64 x1, .int .i64 x2] 27)).cell? ⟨w.heap.size, 2, none⟩ = some (.int .i64 now) := (blk_cell hb_ 2).trans rfl; have hs3 : (w1.alloc (.cells #[.int .i64 x0, .int .i64 x1, .int .i64 x2] 27)).cell? ⟨w.heap.size, 3, none⟩ = some (.int .i64 life) := (blk_cell hb_ 3).trans rfl; clear hb_; have HR1 := Aside0.mk (step_mid (W1 := (w1.alloc (.cells #[.int .i64 x0, .int .i64 x1, .int .i64 x2] 27))) HREF.out HAP.out HB0.out hk1 (below_alloc (Below.refl _ _) _)); have HNX := Aside0.mk (show ¬ refS g rbr w1.heap.size from refS_ne HREF.out.lt (Nat.le_trans HB0.out.size hk1.size)); have HT1 := Aside0.mk ht1; have HA1 := Aside0.mk han1; have HK1 := Aside0.mk hk1; clear ht1 han1 hk1)
      | (go_at_call 31; (with_reducible refine (rat_flat base g rbr M n y0 y1 y2 f0 (w1.alloc (.cells #[.int .i64 x0, .int .i64 x1, .int .i64 x2] 27)) HR1.out hwn HM.out).mono ?_); rintro e w2 ⟨rfl, hb2⟩; have hr2 := HR1.out.later hb2; have hk2 : Keep (w1.alloc (.cells #[.int .i64 x0, .int .i64 x1, .int .i64 x2] 27)) w2 (refS g rbr) := Keep.of_below hb2 _; have han2 : Anew (w1.alloc (.cells #[.int .i64 x0, .int .i64 x1, .int .i64 x2] 27)) rbr rbr := Anew.refl _ _; clear hb2; have hx_ := hk2.blk (blk_new w1 (.cells #[.int .i64 x0, .int .i64 x1, .int .i64 x2] 27)) HNX.out; have hx7_ := blk_alloc hx_ (.cells #[.int .i64 y0, .int .i64 y1, .int .i64 y2] 27); have hx70 : (w2.alloc (.cells #[.int .i64 y0, .int .i64 y1, .int .i64 y2] 27)).cell? ⟨w1.heap.size, 0, none⟩ = some (.int .i64 x0) := (blk_cell hx7_ 0).trans rfl; have hx71 : (w2.alloc (.cells #[.int .i64 y0, .int .i64 y1, .int .i64 y2] 27)).cell? ⟨w1.heap.size, 1, none⟩ = some (.int .i64 x1) := (blk_cell hx7_ 1).trans rfl; have hx72 : (w2.alloc (.cells #[.int .i64 y0, .int .i64 y1, .int .i64 y2] 27)).cell? ⟨w1.heap.size, 2, none⟩ = some (.int .i64 x2) := (blk_cell hx7_ 2).trans rfl; clear hx_ hx7_; have HR2 := Aside0.mk hr2; have HA2 := Aside0.mk han2; have HK2 := Aside0.mk hk2; clear hr2 han2 hk2))
    go_ret
    first
      | exact ⟨_, rfl, step_join HTAB.out HREF.out HAP.out HB0.out HT1.out HA1.out HK1.out (below_alloc (Below.refl _ _) _) HR2.out HA2.out HK2.out (below_alloc (Below.refl _ _) _)⟩
      | exact ⟨⟨_, rfl⟩, step_join HTAB.out HREF.out HAP.out HB0.out HT1.out HA1.out HK1.out (below_alloc (Below.refl _ _) _) HR2.out HA2.out HK2.out (below_alloc (Below.refl _ _) _)⟩
set_option maxHeartbeats 2000000 in
set_option maxRecDepth 100000 in
theorem stepx_expire (base gt m g : Nat) (rbt rbr : Option Nat) (L M : List L3) (n now life : Int) (w : World) (ht : TabAt w base gt rbt m L) (hr : RefAt w base g rbr M) (ha : Apart gt rbt m g rbr) (hbase : base ≤ w.heap.size) (hwn : (Lit.int .i64 n).wf = true) (hww : (Lit.int .i64 now).wf = true) (hwl : (Lit.int .i64 life).wf = true) :
    Calls Try.prog 18 #[.pointer (some ⟨gt, 0, none⟩), .pointer (some ⟨g, 0, none⟩), .agg #[.int .i64 3, .int .i64 n, .int .i64 now, .int .i64 life]] w fun e w' => ∃ v : Value, e = .returned v ∧ StepOk w w' base gt m g rbt rbr (expireL L now).1 (expireL M now).1 := by
  have HB0 := Aside0.mk (show Below w.heap.size w (w.alloc (.cells #[.int .i64 3, .int .i64 n, .int .i64 now, .int .i64 life] 43)) from below_alloc (Below.refl _ _) _)
  have HTAB := Aside0.mk ht
  have HREF := Aside0.mk hr
  have HAP := Aside0.mk ha
  have HT0 := Aside0.mk (ht.later HB0.out)
  have HNS := Aside0.mk (show ¬ tabS gt rbt m w.heap.size from tabS_ne ht.lt (Nat.le_refl _))
  have hbs0 : base ≤ (w.alloc (.cells #[.int .i64 3, .int .i64 n, .int .i64 now, .int .i64 life] 43)).heap.size := by simp; omega
  have hl1 : ∀ K : List L3, Good K → (expireL K now).2.1.length ≤ 20000 := by
    intro K hK
    unfold expireL
    split
    · simp
    · exact Nat.le_trans (List.length_filter_le _ _) hK.len
  have HOL := Aside0.mk (hl1 L ht.good)
  have HE1 := Aside0.mk (fun W h => expire_calls base gt m rbt L now W h)
  have HE2 := Aside0.mk (fun W h => rexpire_calls base g rbr M now W h)
  obtain ⟨L', O, e0, hres⟩ : ∃ (L' O : List L3) (e0 : Int), expireL L now = (L', O, e0) := ⟨_, _, _, rfl⟩
  obtain ⟨M', Q, f0, hrem⟩ : ∃ (L' O : List L3) (e0 : Int), expireL M now = (L', O, e0) := ⟨_, _, _, rfl⟩
  rw [hres] at HE1 HOL ⊢
  rw [hrem] at HE2 ⊢
  clear hl1 hres hrem ht hr ha
  go_enter Try.func18, Try.ntmps18
  go_wp2_with (first
    | (go_at_call 17; (with_reducible refine (HE1.out (w.alloc (.cells #[.int .i64 3, .int .i64 n, .int .i64 now, .int .i64 life] 43)) HT0.out).mono ?_); rintro e w1 ⟨v1, rfl, hv1, ht1, hk1⟩; have han1 : Anew (w.alloc (.cells #[.int .i64 3, .int .i64 n, .int .i64 now, .int .i64 life] 43)) rbt rbt := Anew.refl _ _; have HV1 := Aside0.mk hv1; obtain ⟨Av1, cv1, ev1⟩ := Kd.R_slice hv1; subst ev1; clear hv1; have hb_ := hk1.blk (blk_new w (.cells #[.int .i64 3, .int .i64 n, .int .i64 now, .int .i64 life] 43)) HNS.out; have hs0 : w1.cell? ⟨w.heap.size, 0, none⟩ = some (.int .i64 3) := (blk_cell hb_ 0).trans rfl; have hs1 : w1.cell? ⟨w.heap.size, 1, none⟩ = some (.int .i64 n) := (blk_cell hb_ 1).trans rfl; have hs2 : w1.cell? ⟨w.heap.size, 2, none⟩ = some (.int .i64 now) := (blk_cell hb_ 2).trans rfl; have hs3 : w1.cell? ⟨w.heap.size, 3, none⟩ = some (.int .i64 life) := (blk_cell hb_ 3).trans rfl; clear hb_; have HR1 := Aside0.mk (step_mid (W1 := w1) HREF.out HAP.out HB0.out hk1 (Below.refl _ _)); have HNX := Aside0.mk (show ¬ refS g rbr w1.heap.size from refS_ne HREF.out.lt (Nat.le_trans HB0.out.size hk1.size)); have HT1 := Aside0.mk ht1; have HA1 := Aside0.mk han1; have HK1 := Aside0.mk hk1; clear ht1 han1 hk1)
    | (go_at_call 29; (with_reducible refine (HE2.out w1 HR1.out).mono ?_); rintro e w2 ⟨v2, rfl, hv2, hr2, hk2⟩; have han2 : Anew w1 rbr rbr := Anew.refl _ _; have HV2 := Aside0.mk hv2; obtain ⟨Av2, cv2, ev2⟩ := Kd.R_slice hv2; subst ev2; clear hv2; have HR2 := Aside0.mk hr2; have HA2 := Aside0.mk han2; have HK2 := Aside0.mk hk2; clear hr2 han2 hk2)
    | (go_at_call 19; refine (same_any Av1 Av2 cv1 cv2 O Q w2 HOL.out ?hA (Kd.R_reads' HV2.out).2.2).mono ?_; (case hA => exact (Kd.R_reads' (lease_keep HK2.out HV1.out (fun k hk e => by have h1 := Kd.R_base HV1.out k hk; have h2 := HREF.out.lt; have h3 := HB0.out.size; have h21 := h2.1; have h22 := h2.2; exact e.elim (fun e => by omega) (fun e => by have := (h22 k e.symm).1; omega)))).2.2); rintro e w3 ⟨bs, rfl, hb3⟩; have HB3 := Aside0.mk hb3; clear hb3))
  cases bs
  all_goals
    go_wp2
    go_ret
    first
      | exact ⟨_, rfl, step_join HTAB.out HREF.out HAP.out HB0.out HT1.out HA1.out HK1.out (Below.refl _ _) HR2.out HA2.out HK2.out HB3.out⟩
      | exact ⟨⟨_, rfl⟩, step_join HTAB.out HREF.out HAP.out HB0.out HT1.out HA1.out HK1.out (Below.refl _ _) HR2.out HA2.out HK2.out HB3.out⟩
theorem stepx_calls (base gt m g : Nat) (rbt rbr : Option Nat) (L M : List L3) (s : Stp) (w : World) (ht : TabAt w base gt rbt m L) (hr : RefAt w base g rbr M) (ha : Apart gt rbt m g rbr) (hbase : base ≤ w.heap.size) (hwn : (Lit.int .i64 s.2.1).wf = true) (hww : (Lit.int .i64 s.2.2.1).wf = true) (hwl : (Lit.int .i64 s.2.2.2).wf = true) :
    Calls Try.prog 18 #[.pointer (some ⟨gt, 0, none⟩), .pointer (some ⟨g, 0, none⟩), .agg #[.int .i64 s.1, .int .i64 s.2.1, .int .i64 s.2.2.1, .int .i64 s.2.2.2]] w fun e w' => ∃ v : Value, e = .returned v ∧ StepOk w w' base gt m g rbt rbr (stepL L s) (stepL M s) := by
  obtain ⟨q, n, now, life⟩ := s
  unfold stepL
  dsimp only at hwn hww hwl ⊢
  by_cases h0 : q = 0
  · subst h0
    exact stepx_grant base gt m g rbt rbr L M n now life w ht hr ha hbase hwn hww hwl
  by_cases h1 : q = 1
  · subst h1
    exact stepx_renew base gt m g rbt rbr L M n now life w ht hr ha hbase hwn hww hwl
  by_cases h2 : q = 2
  · subst h2
    exact stepx_end base gt m g rbt rbr L M n now life w ht hr ha hbase hwn hww hwl
  by_cases h3 : q = 3
  · subst h3
    exact stepx_expire base gt m g rbt rbr L M n now life w ht hr ha hbase hwn hww hwl
  rw [if_neg h0, if_neg h1, if_neg h2, if_neg h3, if_neg h0, if_neg h1, if_neg h2, if_neg h3]
  by_cases h4 : q = 4
  · subst h4
    exact stepx_of base gt m g rbt rbr L M n now life w ht hr ha hbase hwn hww hwl
  exact stepx_at base gt m g rbt rbr L M q n now life w ht hr ha hbase hwn hww hwl (by simpa using h0) (by simpa using h1) (by simpa using h2) (by simpa using h3) (by simpa using h4)
end Go.Proofs.Ytbmpglchifnelaa
