/- The contract of the laws' step: the program's table and the reference's go together. -/
import Derived.Test.YtbmpglchifnelaaLRefD
namespace Go.Proofs.Ytbmpglchifnelaa
open Go.RowKit Go.Maps Go.Proofs.YtbmpglchifnelaaW.PrintWords Go.Proofs.YtbmpglchifnelaaW.PrintLast Go.Proofs.YtbmpglchifnelaaW.PrintMore
set_option linter.unusedVariables false
set_option linter.unusedSimpArgs false
attribute [local go_sem] Oper.semAt_some max2_int min2_int max_two min_two max_three min_three max_four min_four
attribute [local go_sem high] eqA3

/-- The two tables have no block in common. -/
def Apart (gt : Nat) (rbt : Option Nat) (m g : Nat) (rbr : Option Nat) : Prop := ∀ k, tabS gt rbt m k → ¬ refS g rbr k
theorem Apart.tab {w : World} {base gt m g : Nat} {rbt rbt' rbr : Option Nat} {M : List L3} (ha : Apart gt rbt m g rbr) (hn : Anew w rbt rbt') (hr : RefAt w base g rbr M) : Apart gt rbt' m g rbr := by
  intro k hk hs
  rcases hk with e | e | e
  · exact ha k (.inl e) hs
  · rcases hn with h1 | h1
    · exact ha k (.inr (.inl (e.trans h1))) hs
    · have h2 := h1 k e.symm
      rcases hs with e2 | e2
      · have := hr.lt.1; omega
      · have := (hr.lt.2 k e2.symm).1; omega
  · exact ha k (.inr (.inr e)) hs
theorem Apart.ref {w : World} {base gt m g : Nat} {rbt rbr rbr' : Option Nat} {L : List L3} (ha : Apart gt rbt m g rbr) (hn : Anew w rbr rbr') (ht : TabAt w base gt rbt m L) : Apart gt rbt m g rbr' := by
  intro k hk hs
  rcases hs with e | e
  · exact ha k hk (.inl e)
  · rcases hn with h1 | h1
    · exact ha k hk (.inr (e.trans h1))
    · have h2 := h1 k e.symm
      rcases hk with e2 | e2 | e2
      · have := ht.lt.1; omega
      · have := (ht.lt.2.2 k e2.symm).1; omega
      · have := ht.lt.2.1; omega
/-- What a step leaves. -/
def StepOk (w w' : World) (base gt m g : Nat) (rbt rbr : Option Nat) (L' M' : List L3) : Prop :=
  ∃ rbt' rbr', TabAt w' base gt rbt' m L' ∧ RefAt w' base g rbr' M' ∧ Apart gt rbt' m g rbr' ∧ Anew w rbt rbt' ∧ Anew w rbr rbr' ∧ Keep w w' (fun k => tabS gt rbt m k ∨ refS g rbr k)
theorem Anew.from_ {w W : World} {rb rb' : Option Nat} (h : Anew W rb rb') (hs : w.heap.size ≤ W.heap.size) : Anew w rb rb' := by
  rcases h with h | h
  · exact .inl h
  · exact .inr (fun k hk => Nat.le_trans hs (h k hk))
section
variable {w W0 w1 W1 w2 W3 : World} {base gt m g : Nat} {rbt rbt1 rbr rbr2 : Option Nat} {L L' M M' : List L3}
theorem step_mid (hr : RefAt w base g rbr M) (ha : Apart gt rbt m g rbr) (b0 : Below w.heap.size w W0) (hk1 : Keep W0 w1 (tabS gt rbt m)) (b1 : Below w1.heap.size w1 W1) : RefAt W1 base g rbr M :=
  ((hr.later b0).keep hk1 (fun hs => ha g hs (.inl rfl)) (fun k hk hs => ha k hs (.inr hk.symm))).later b1
theorem step_join (h : TabAt w base gt rbt m L) (hr : RefAt w base g rbr M) (ha : Apart gt rbt m g rbr) (b0 : Below w.heap.size w W0) (ht1 : TabAt w1 base gt rbt1 m L') (han1 : Anew W0 rbt rbt1) (hk1 : Keep W0 w1 (tabS gt rbt m)) (b1 : Below w1.heap.size w1 W1)
    (hr2 : RefAt w2 base g rbr2 M') (han2 : Anew W1 rbr rbr2) (hk2 : Keep W1 w2 (refS g rbr)) (b3 : Below w2.heap.size w2 W3) : StepOk w W3 base gt m g rbt rbr L' M' := by
  have ha1 : Apart gt rbt1 m g rbr := ha.tab han1 (hr.later b0)
  have htW := ht1.later b1
  have ht2 := htW.keep hk2 (fun e => ha1 gt (.inl rfl) e) (fun k hk e => ha1 k (.inr (.inl hk.symm)) e) (fun e => ha1 m (.inr (.inr rfl)) e)
  refine ⟨rbt1, rbr2, ht2.later b3, hr2.later b3, ha1.ref han2 htW, han1.from_ b0.size, han2.from_ (Nat.le_trans b0.size (Nat.le_trans hk1.size b1.size)), ?_⟩
  exact ((((Keep.of_below b0 _).then_ hk1 (fun k hk => .inl (.inl hk))).then_below b1).then_ hk2 (fun k hk => .inl (.inr hk))).then_below b3
theorem StepOk.low (h : StepOk w W3 base gt m g rbt rbr L' M') (ht : TabAt w base gt rbt m L) (hr : RefAt w base g rbr M) (hb : base ≤ w.heap.size) : Below base w W3 := by
  obtain ⟨_, _, _, _, _, _, _, hk⟩ := h
  refine hk.below (fun k hs => ?_) hb
  rcases hs with (e | e | e) | (e | e)
  · exact e ▸ ht.bg
  · exact (ht.lt.2.2 k e.symm).2
  · exact e ▸ ht.bm
  · exact e ▸ hr.bg
  · exact (hr.lt.2 k e.symm).2
end
set_option maxHeartbeats 2000000 in
set_option maxRecDepth 100000 in
theorem step_grant (base gt m g : Nat) (rbt rbr : Option Nat) (L : List L3) (n now life : Int) (w : World) (ht : TabAt w base gt rbt m L) (hr : RefAt w base g rbr L) (ha : Apart gt rbt m g rbr) (hbase : base ≤ w.heap.size) (hwn : (Lit.int .i64 n).wf = true) (hww : (Lit.int .i64 now).wf = true) (hwl : (Lit.int .i64 life).wf = true) :
    Calls Try.prog 18 #[.pointer (some ⟨gt, 0, none⟩), .pointer (some ⟨g, 0, none⟩), .agg #[.int .i64 0, .int .i64 n, .int .i64 now, .int .i64 life]] w fun e w' => e = .returned (.bool true) ∧ StepOk w w' base gt m g rbt rbr (grantL L n now life).1 (grantL L n now life).1 := by
  have HB0 := Aside0.mk (show Below w.heap.size w (w.alloc (.cells #[.int .i64 0, .int .i64 n, .int .i64 now, .int .i64 life] 43)) from below_alloc (Below.refl _ _) _)
  have HTAB := Aside0.mk ht
  have HREF := Aside0.mk hr
  have HAP := Aside0.mk ha
  have HT0 := Aside0.mk (ht.later HB0.out)
  have HNS := Aside0.mk (show ¬ tabS gt rbt m w.heap.size from tabS_ne ht.lt (Nat.le_refl _))
  have hbs0 : base ≤ (w.alloc (.cells #[.int .i64 0, .int .i64 n, .int .i64 now, .int .i64 life] 43)).heap.size := by simp; omega
  obtain ⟨L', ⟨x0, x1, x2⟩, e0, hres⟩ : ∃ (L' : List L3) (x : L3) (e0 : Int), grantL L n now life = (L', x, e0) := ⟨_, _, _, rfl⟩
  rw [hres]
  have HG := Aside0.mk hres
  clear hres ht hr ha
  go_enter Try.func18, Try.ntmps18
  go_wp2_with (first
    | (go_at_call 11; (with_reducible refine (grant_flat base gt m rbt L L' n now life x0 x1 x2 e0 (w.alloc (.cells #[.int .i64 0, .int .i64 n, .int .i64 now, .int .i64 life] 43)) HT0.out hbs0 hwn hww hwl HG.out).mono ?_); rintro e w1 ⟨rfl, rbt1, ht1, han1, hk1⟩; skip; have hb_ := blk_alloc (hk1.blk (blk_new w (.cells #[.int .i64 0, .int .i64 n, .int .i64 now, .int .i64 life] 43)) HNS.out) (.cells #[.int .i64 x0, .int .i64 x1, .int .i64 x2] 27); have hs0 : (w1.alloc (.cells #[.int .i64 x0, .int .i64 x1, .int .i64 x2] 27)).cell? ⟨w.heap.size, 0, none⟩ = some (.int .i64 0) := (blk_cell hb_ 0).trans rfl; have hs1 : (w1.alloc (.cells #[.int .i64 x0, .int .i64 x1, .int .i64 x2] 27)).cell? ⟨w.heap.size, 1, none⟩ = some (.int .i64 n) := (blk_cell hb_ 1).trans rfl; have hs2 : (w1.alloc (.cells #[.int .i64 x0, .int .i64 x1, .int .i64 x2] 27)).cell? ⟨w.heap.size, 2, none⟩ = some (.int .i64 now) := (blk_cell hb_ 2).trans rfl; have hs3 : (w1.alloc (.cells #[.int .i64 x0, .int .i64 x1, .int .i64 x2] 27)).cell? ⟨w.heap.size, 3, none⟩ = some (.int .i64 life) := (blk_cell hb_ 3).trans rfl; clear hb_; have HR1 := Aside0.mk (step_mid (W1 := (w1.alloc (.cells #[.int .i64 x0, .int .i64 x1, .int .i64 x2] 27))) HREF.out HAP.out HB0.out hk1 (below_alloc (Below.refl _ _) _)); have HNX := Aside0.mk (show ¬ refS g rbr w1.heap.size from refS_ne HREF.out.lt (Nat.le_trans HB0.out.size hk1.size)); have HT1 := Aside0.mk ht1; have HA1 := Aside0.mk han1; have HK1 := Aside0.mk hk1; clear ht1 han1 hk1)
    | (go_at_call 26; (with_reducible refine (rgrant_flat base g rbr L L' n now life x0 x1 x2 e0 (w1.alloc (.cells #[.int .i64 x0, .int .i64 x1, .int .i64 x2] 27)) HR1.out (by have := HB0.out.size; have := HK1.out.size; simp at *; omega) HG.out).mono ?_); rintro e w2 ⟨rfl, rbr2, hr2, han2, hk2⟩; skip; have hx_ := hk2.blk (blk_new w1 (.cells #[.int .i64 x0, .int .i64 x1, .int .i64 x2] 27)) HNX.out; have hx7_ := blk_alloc hx_ (.cells #[.int .i64 x0, .int .i64 x1, .int .i64 x2] 27); have hx70 : (w2.alloc (.cells #[.int .i64 x0, .int .i64 x1, .int .i64 x2] 27)).cell? ⟨w1.heap.size, 0, none⟩ = some (.int .i64 x0) := (blk_cell hx7_ 0).trans rfl; have hx71 : (w2.alloc (.cells #[.int .i64 x0, .int .i64 x1, .int .i64 x2] 27)).cell? ⟨w1.heap.size, 1, none⟩ = some (.int .i64 x1) := (blk_cell hx7_ 1).trans rfl; have hx72 : (w2.alloc (.cells #[.int .i64 x0, .int .i64 x1, .int .i64 x2] 27)).cell? ⟨w1.heap.size, 2, none⟩ = some (.int .i64 x2) := (blk_cell hx7_ 2).trans rfl; clear hx_ hx7_; have HR2 := Aside0.mk hr2; have HA2 := Aside0.mk han2; have HK2 := Aside0.mk hk2; clear hr2 han2 hk2))
  go_ret
  exact ⟨rfl, step_join HTAB.out HREF.out HAP.out HB0.out HT1.out HA1.out HK1.out (below_alloc (Below.refl _ _) _) HR2.out HA2.out HK2.out (below_alloc (Below.refl _ _) _)⟩
set_option maxHeartbeats 2000000 in
set_option maxRecDepth 100000 in
theorem step_renew (base gt m g : Nat) (rbt rbr : Option Nat) (L : List L3) (n now life : Int) (w : World) (ht : TabAt w base gt rbt m L) (hr : RefAt w base g rbr L) (ha : Apart gt rbt m g rbr) (hbase : base ≤ w.heap.size) (hwn : (Lit.int .i64 n).wf = true) (hww : (Lit.int .i64 now).wf = true) (hwl : (Lit.int .i64 life).wf = true) :
    Calls Try.prog 18 #[.pointer (some ⟨gt, 0, none⟩), .pointer (some ⟨g, 0, none⟩), .agg #[.int .i64 1, .int .i64 n, .int .i64 now, .int .i64 life]] w fun e w' => e = .returned (.bool true) ∧ StepOk w w' base gt m g rbt rbr (renewL L n now life).1 (renewL L n now life).1 := by
  have HB0 := Aside0.mk (show Below w.heap.size w (w.alloc (.cells #[.int .i64 1, .int .i64 n, .int .i64 now, .int .i64 life] 43)) from below_alloc (Below.refl _ _) _)
  have HTAB := Aside0.mk ht
  have HREF := Aside0.mk hr
  have HAP := Aside0.mk ha
  have HT0 := Aside0.mk (ht.later HB0.out)
  have HNS := Aside0.mk (show ¬ tabS gt rbt m w.heap.size from tabS_ne ht.lt (Nat.le_refl _))
  have hbs0 : base ≤ (w.alloc (.cells #[.int .i64 1, .int .i64 n, .int .i64 now, .int .i64 life] 43)).heap.size := by simp; omega
  obtain ⟨L', ⟨x0, x1, x2⟩, e0, hres⟩ : ∃ (L' : List L3) (x : L3) (e0 : Int), renewL L n now life = (L', x, e0) := ⟨_, _, _, rfl⟩
  rw [hres]
  have HG := Aside0.mk hres
  clear hres ht hr ha
  go_enter Try.func18, Try.ntmps18
  go_wp2_with (first
    | (go_at_call 12; (with_reducible refine (renew_flat base gt m rbt L L' n now life x0 x1 x2 e0 (w.alloc (.cells #[.int .i64 1, .int .i64 n, .int .i64 now, .int .i64 life] 43)) HT0.out HG.out).mono ?_); rintro e w1 ⟨rfl, ht1, hk1⟩; have han1 : Anew (w.alloc (.cells #[.int .i64 1, .int .i64 n, .int .i64 now, .int .i64 life] 43)) rbt rbt := Anew.refl _ _; have hb_ := blk_alloc (hk1.blk (blk_new w (.cells #[.int .i64 1, .int .i64 n, .int .i64 now, .int .i64 life] 43)) HNS.out) (.cells #[.int .i64 x0, .int .i64 x1, .int .i64 x2] 27); have hs0 : (w1.alloc (.cells #[.int .i64 x0, .int .i64 x1, .int .i64 x2] 27)).cell? ⟨w.heap.size, 0, none⟩ = some (.int .i64 1) := (blk_cell hb_ 0).trans rfl; have hs1 : (w1.alloc (.cells #[.int .i64 x0, .int .i64 x1, .int .i64 x2] 27)).cell? ⟨w.heap.size, 1, none⟩ = some (.int .i64 n) := (blk_cell hb_ 1).trans rfl; have hs2 : (w1.alloc (.cells #[.int .i64 x0, .int .i64 x1, .int .i64 x2] 27)).cell? ⟨w.heap.size, 2, none⟩ = some (.int .i64 now) := (blk_cell hb_ 2).trans rfl; have hs3 : (w1.alloc (.cells #[.int .i64 x0, .int .i64 x1, .int .i64 x2] 27)).cell? ⟨w.heap.size, 3, none⟩ = some (.int .i64 life) := (blk_cell hb_ 3).trans rfl; clear hb_; have HR1 := Aside0.mk (step_mid (W1 := (w1.alloc (.cells #[.int .i64 x0, .int .i64 x1, .int .i64 x2] 27))) HREF.out HAP.out HB0.out hk1 (below_alloc (Below.refl _ _) _)); have HNX := Aside0.mk (show ¬ refS g rbr w1.heap.size from refS_ne HREF.out.lt (Nat.le_trans HB0.out.size hk1.size)); have HT1 := Aside0.mk ht1; have HA1 := Aside0.mk han1; have HK1 := Aside0.mk hk1; clear ht1 han1 hk1)
    | (go_at_call 27; (with_reducible refine (rrenew_flat base g rbr L L' n now life x0 x1 x2 e0 (w1.alloc (.cells #[.int .i64 x0, .int .i64 x1, .int .i64 x2] 27)) HR1.out hwn HG.out).mono ?_); rintro e w2 ⟨rfl, hr2, hk2⟩; have han2 : Anew (w1.alloc (.cells #[.int .i64 x0, .int .i64 x1, .int .i64 x2] 27)) rbr rbr := Anew.refl _ _; have hx_ := hk2.blk (blk_new w1 (.cells #[.int .i64 x0, .int .i64 x1, .int .i64 x2] 27)) HNX.out; have hx7_ := blk_alloc hx_ (.cells #[.int .i64 x0, .int .i64 x1, .int .i64 x2] 27); have hx70 : (w2.alloc (.cells #[.int .i64 x0, .int .i64 x1, .int .i64 x2] 27)).cell? ⟨w1.heap.size, 0, none⟩ = some (.int .i64 x0) := (blk_cell hx7_ 0).trans rfl; have hx71 : (w2.alloc (.cells #[.int .i64 x0, .int .i64 x1, .int .i64 x2] 27)).cell? ⟨w1.heap.size, 1, none⟩ = some (.int .i64 x1) := (blk_cell hx7_ 1).trans rfl; have hx72 : (w2.alloc (.cells #[.int .i64 x0, .int .i64 x1, .int .i64 x2] 27)).cell? ⟨w1.heap.size, 2, none⟩ = some (.int .i64 x2) := (blk_cell hx7_ 2).trans rfl; clear hx_ hx7_; have HR2 := Aside0.mk hr2; have HA2 := Aside0.mk han2; have HK2 := Aside0.mk hk2; clear hr2 han2 hk2))
  go_ret
  exact ⟨rfl, step_join HTAB.out HREF.out HAP.out HB0.out HT1.out HA1.out HK1.out (below_alloc (Below.refl _ _) _) HR2.out HA2.out HK2.out (below_alloc (Below.refl _ _) _)⟩
set_option maxHeartbeats 2000000 in
set_option maxRecDepth 100000 in
theorem step_end (base gt m g : Nat) (rbt rbr : Option Nat) (L : List L3) (n now life : Int) (w : World) (ht : TabAt w base gt rbt m L) (hr : RefAt w base g rbr L) (ha : Apart gt rbt m g rbr) (hbase : base ≤ w.heap.size) (hwn : (Lit.int .i64 n).wf = true) (hww : (Lit.int .i64 now).wf = true) (hwl : (Lit.int .i64 life).wf = true) :
    Calls Try.prog 18 #[.pointer (some ⟨gt, 0, none⟩), .pointer (some ⟨g, 0, none⟩), .agg #[.int .i64 2, .int .i64 n, .int .i64 now, .int .i64 life]] w fun e w' => e = .returned (.bool true) ∧ StepOk w w' base gt m g rbt rbr (endL L n).1 (endL L n).1 := by
  have HB0 := Aside0.mk (show Below w.heap.size w (w.alloc (.cells #[.int .i64 2, .int .i64 n, .int .i64 now, .int .i64 life] 43)) from below_alloc (Below.refl _ _) _)
  have HTAB := Aside0.mk ht
  have HREF := Aside0.mk hr
  have HAP := Aside0.mk ha
  have HT0 := Aside0.mk (ht.later HB0.out)
  have HNS := Aside0.mk (show ¬ tabS gt rbt m w.heap.size from tabS_ne ht.lt (Nat.le_refl _))
  have hbs0 : base ≤ (w.alloc (.cells #[.int .i64 2, .int .i64 n, .int .i64 now, .int .i64 life] 43)).heap.size := by simp; omega
  obtain ⟨L', e0, hres⟩ : ∃ (L' : List L3) (e0 : Int), endL L n = (L', e0) := ⟨_, _, rfl⟩
  rw [hres]
  have HG := Aside0.mk hres
  clear hres ht hr ha
  go_enter Try.func18, Try.ntmps18
  go_wp2_with (first
    | (go_at_call 14; (with_reducible refine (end_flat base gt m rbt L L' n e0 (w.alloc (.cells #[.int .i64 2, .int .i64 n, .int .i64 now, .int .i64 life] 43)) HT0.out HG.out).mono ?_); rintro e w1 ⟨rfl, ht1, hk1⟩; have han1 : Anew (w.alloc (.cells #[.int .i64 2, .int .i64 n, .int .i64 now, .int .i64 life] 43)) rbt rbt := Anew.refl _ _; have hb_ := hk1.blk (blk_new w (.cells #[.int .i64 2, .int .i64 n, .int .i64 now, .int .i64 life] 43)) HNS.out; have hs0 : w1.cell? ⟨w.heap.size, 0, none⟩ = some (.int .i64 2) := (blk_cell hb_ 0).trans rfl; have hs1 : w1.cell? ⟨w.heap.size, 1, none⟩ = some (.int .i64 n) := (blk_cell hb_ 1).trans rfl; have hs2 : w1.cell? ⟨w.heap.size, 2, none⟩ = some (.int .i64 now) := (blk_cell hb_ 2).trans rfl; have hs3 : w1.cell? ⟨w.heap.size, 3, none⟩ = some (.int .i64 life) := (blk_cell hb_ 3).trans rfl; clear hb_; have HR1 := Aside0.mk (step_mid (W1 := w1) HREF.out HAP.out HB0.out hk1 (Below.refl _ _)); have HNX := Aside0.mk (show ¬ refS g rbr w1.heap.size from refS_ne HREF.out.lt (Nat.le_trans HB0.out.size hk1.size)); have HT1 := Aside0.mk ht1; have HA1 := Aside0.mk han1; have HK1 := Aside0.mk hk1; clear ht1 han1 hk1)
    | (go_at_call 28; (with_reducible refine (rend_flat base g rbr L L' n e0 w1 HR1.out hwn HG.out).mono ?_); rintro e w2 ⟨rfl, hr2, hk2⟩; have han2 : Anew w1 rbr rbr := Anew.refl _ _; have HR2 := Aside0.mk hr2; have HA2 := Aside0.mk han2; have HK2 := Aside0.mk hk2; clear hr2 han2 hk2))
  go_ret
  exact ⟨rfl, step_join HTAB.out HREF.out HAP.out HB0.out HT1.out HA1.out HK1.out (Below.refl _ _) HR2.out HA2.out HK2.out (Below.refl _ _)⟩
set_option maxHeartbeats 2000000 in
set_option maxRecDepth 100000 in
theorem step_of (base gt m g : Nat) (rbt rbr : Option Nat) (L : List L3) (n now life : Int) (w : World) (ht : TabAt w base gt rbt m L) (hr : RefAt w base g rbr L) (ha : Apart gt rbt m g rbr) (hbase : base ≤ w.heap.size) (hwn : (Lit.int .i64 n).wf = true) (hww : (Lit.int .i64 now).wf = true) (hwl : (Lit.int .i64 life).wf = true) :
    Calls Try.prog 18 #[.pointer (some ⟨gt, 0, none⟩), .pointer (some ⟨g, 0, none⟩), .agg #[.int .i64 4, .int .i64 n, .int .i64 now, .int .i64 life]] w fun e w' => e = .returned (.bool true) ∧ StepOk w w' base gt m g rbt rbr L L := by
  have HB0 := Aside0.mk (show Below w.heap.size w (w.alloc (.cells #[.int .i64 4, .int .i64 n, .int .i64 now, .int .i64 life] 43)) from below_alloc (Below.refl _ _) _)
  have HTAB := Aside0.mk ht
  have HREF := Aside0.mk hr
  have HAP := Aside0.mk ha
  have HT0 := Aside0.mk (ht.later HB0.out)
  have HNS := Aside0.mk (show ¬ tabS gt rbt m w.heap.size from tabS_ne ht.lt (Nat.le_refl _))
  have hbs0 : base ≤ (w.alloc (.cells #[.int .i64 4, .int .i64 n, .int .i64 now, .int .i64 life] 43)).heap.size := by simp; omega
  obtain ⟨⟨x0, x1, x2⟩, e0, hres⟩ : ∃ (x : L3) (e0 : Bool), ofD L n = (x, e0) := ⟨_, _, rfl⟩
  have HG := Aside0.mk hres
  clear hres ht hr ha
  go_enter Try.func18, Try.ntmps18
  go_wp2_with (first
    | (go_at_call 13; (with_reducible refine (of_flat base gt m rbt L n x0 x1 x2 e0 (w.alloc (.cells #[.int .i64 4, .int .i64 n, .int .i64 now, .int .i64 life] 43)) HT0.out hwn HG.out).mono ?_); rintro e w1 ⟨rfl, hb1⟩; have ht1 := HT0.out.later hb1; have hk1 : Keep (w.alloc (.cells #[.int .i64 4, .int .i64 n, .int .i64 now, .int .i64 life] 43)) w1 (tabS gt rbt m) := Keep.of_below hb1 _; have han1 : Anew (w.alloc (.cells #[.int .i64 4, .int .i64 n, .int .i64 now, .int .i64 life] 43)) rbt rbt := Anew.refl _ _; clear hb1; have hb_ := blk_alloc (hk1.blk (blk_new w (.cells #[.int .i64 4, .int .i64 n, .int .i64 now, .int .i64 life] 43)) HNS.out) (.cells #[.int .i64 x0, .int .i64 x1, .int .i64 x2] 27); have hs0 : (w1.alloc (.cells #[.int .i64 x0, .int .i64 x1, .int .i64 x2] 27)).cell? ⟨w.heap.size, 0, none⟩ = some (.int .i64 4) := (blk_cell hb_ 0).trans rfl; have hs1 : (w1.alloc (.cells #[.int .i64 x0, .int .i64 x1, .int .i64 x2] 27)).cell? ⟨w.heap.size, 1, none⟩ = some (.int .i64 n) := (blk_cell hb_ 1).trans rfl; have hs2 : (w1.alloc (.cells #[.int .i64 x0, .int .i64 x1, .int .i64 x2] 27)).cell? ⟨w.heap.size, 2, none⟩ = some (.int .i64 now) := (blk_cell hb_ 2).trans rfl; have hs3 : (w1.alloc (.cells #[.int .i64 x0, .int .i64 x1, .int .i64 x2] 27)).cell? ⟨w.heap.size, 3, none⟩ = some (.int .i64 life) := (blk_cell hb_ 3).trans rfl; clear hb_; have HR1 := Aside0.mk (step_mid (W1 := (w1.alloc (.cells #[.int .i64 x0, .int .i64 x1, .int .i64 x2] 27))) HREF.out HAP.out HB0.out hk1 (below_alloc (Below.refl _ _) _)); have HNX := Aside0.mk (show ¬ refS g rbr w1.heap.size from refS_ne HREF.out.lt (Nat.le_trans HB0.out.size hk1.size)); have HT1 := Aside0.mk ht1; have HA1 := Aside0.mk han1; have HK1 := Aside0.mk hk1; clear ht1 han1 hk1)
    | (go_at_call 30; (with_reducible refine (rof_flat base g rbr L n x0 x1 x2 e0 (w1.alloc (.cells #[.int .i64 x0, .int .i64 x1, .int .i64 x2] 27)) HR1.out HG.out).mono ?_); rintro e w2 ⟨rfl, hb2⟩; have hr2 := HR1.out.later hb2; have hk2 : Keep (w1.alloc (.cells #[.int .i64 x0, .int .i64 x1, .int .i64 x2] 27)) w2 (refS g rbr) := Keep.of_below hb2 _; have han2 : Anew (w1.alloc (.cells #[.int .i64 x0, .int .i64 x1, .int .i64 x2] 27)) rbr rbr := Anew.refl _ _; clear hb2; have hx_ := hk2.blk (blk_new w1 (.cells #[.int .i64 x0, .int .i64 x1, .int .i64 x2] 27)) HNX.out; have hx7_ := blk_alloc hx_ (.cells #[.int .i64 x0, .int .i64 x1, .int .i64 x2] 27); have hx70 : (w2.alloc (.cells #[.int .i64 x0, .int .i64 x1, .int .i64 x2] 27)).cell? ⟨w1.heap.size, 0, none⟩ = some (.int .i64 x0) := (blk_cell hx7_ 0).trans rfl; have hx71 : (w2.alloc (.cells #[.int .i64 x0, .int .i64 x1, .int .i64 x2] 27)).cell? ⟨w1.heap.size, 1, none⟩ = some (.int .i64 x1) := (blk_cell hx7_ 1).trans rfl; have hx72 : (w2.alloc (.cells #[.int .i64 x0, .int .i64 x1, .int .i64 x2] 27)).cell? ⟨w1.heap.size, 2, none⟩ = some (.int .i64 x2) := (blk_cell hx7_ 2).trans rfl; clear hx_ hx7_; have HR2 := Aside0.mk hr2; have HA2 := Aside0.mk han2; have HK2 := Aside0.mk hk2; clear hr2 han2 hk2))
  go_ret
  exact ⟨rfl, step_join HTAB.out HREF.out HAP.out HB0.out HT1.out HA1.out HK1.out (below_alloc (Below.refl _ _) _) HR2.out HA2.out HK2.out (below_alloc (Below.refl _ _) _)⟩
set_option maxHeartbeats 2000000 in
set_option maxRecDepth 100000 in
theorem step_at (base gt m g : Nat) (rbt rbr : Option Nat) (L : List L3) (q n now life : Int) (w : World) (ht : TabAt w base gt rbt m L) (hr : RefAt w base g rbr L) (ha : Apart gt rbt m g rbr) (hbase : base ≤ w.heap.size) (hwn : (Lit.int .i64 n).wf = true) (hww : (Lit.int .i64 now).wf = true) (hwl : (Lit.int .i64 life).wf = true) (q0 : (q == 0) = false) (q1 : (q == 1) = false) (q2 : (q == 2) = false) (q3 : (q == 3) = false) (q4 : (q == 4) = false) :
    Calls Try.prog 18 #[.pointer (some ⟨gt, 0, none⟩), .pointer (some ⟨g, 0, none⟩), .agg #[.int .i64 q, .int .i64 n, .int .i64 now, .int .i64 life]] w fun e w' => e = .returned (.bool true) ∧ StepOk w w' base gt m g rbt rbr L L := by
  have HB0 := Aside0.mk (show Below w.heap.size w (w.alloc (.cells #[.int .i64 q, .int .i64 n, .int .i64 now, .int .i64 life] 43)) from below_alloc (Below.refl _ _) _)
  have HTAB := Aside0.mk ht
  have HREF := Aside0.mk hr
  have HAP := Aside0.mk ha
  have HT0 := Aside0.mk (ht.later HB0.out)
  have HNS := Aside0.mk (show ¬ tabS gt rbt m w.heap.size from tabS_ne ht.lt (Nat.le_refl _))
  have hbs0 : base ≤ (w.alloc (.cells #[.int .i64 q, .int .i64 n, .int .i64 now, .int .i64 life] 43)).heap.size := by simp; omega
  obtain ⟨⟨x0, x1, x2⟩, e0, hres⟩ : ∃ (x : L3) (e0 : Int), atD L n = (x, e0) := ⟨_, _, rfl⟩
  have HG := Aside0.mk hres
  clear hres ht hr ha
  go_enter Try.func18, Try.ntmps18
  go_wp2_with (first
    | (go_at_call 15; (with_reducible refine (at_flat base gt m rbt L n x0 x1 x2 e0 (w.alloc (.cells #[.int .i64 q, .int .i64 n, .int .i64 now, .int .i64 life] 43)) HT0.out HG.out).mono ?_); rintro e w1 ⟨rfl, hb1⟩; have ht1 := HT0.out.later hb1; have hk1 : Keep (w.alloc (.cells #[.int .i64 q, .int .i64 n, .int .i64 now, .int .i64 life] 43)) w1 (tabS gt rbt m) := Keep.of_below hb1 _; have han1 : Anew (w.alloc (.cells #[.int .i64 q, .int .i64 n, .int .i64 now, .int .i64 life] 43)) rbt rbt := Anew.refl _ _; clear hb1; have hb_ := blk_alloc (hk1.blk (blk_new w (.cells #[.int .i64 q, .int .i64 n, .int .i64 now, .int .i64 life] 43)) HNS.out) (.cells #[.int .i64 x0, .int .i64 x1, .int .i64 x2] 27); have hs0 : (w1.alloc (.cells #[.int .i64 x0, .int .i64 x1, .int .i64 x2] 27)).cell? ⟨w.heap.size, 0, none⟩ = some (.int .i64 q) := (blk_cell hb_ 0).trans rfl; have hs1 : (w1.alloc (.cells #[.int .i64 x0, .int .i64 x1, .int .i64 x2] 27)).cell? ⟨w.heap.size, 1, none⟩ = some (.int .i64 n) := (blk_cell hb_ 1).trans rfl; have hs2 : (w1.alloc (.cells #[.int .i64 x0, .int .i64 x1, .int .i64 x2] 27)).cell? ⟨w.heap.size, 2, none⟩ = some (.int .i64 now) := (blk_cell hb_ 2).trans rfl; have hs3 : (w1.alloc (.cells #[.int .i64 x0, .int .i64 x1, .int .i64 x2] 27)).cell? ⟨w.heap.size, 3, none⟩ = some (.int .i64 life) := (blk_cell hb_ 3).trans rfl; clear hb_; have HR1 := Aside0.mk (step_mid (W1 := (w1.alloc (.cells #[.int .i64 x0, .int .i64 x1, .int .i64 x2] 27))) HREF.out HAP.out HB0.out hk1 (below_alloc (Below.refl _ _) _)); have HNX := Aside0.mk (show ¬ refS g rbr w1.heap.size from refS_ne HREF.out.lt (Nat.le_trans HB0.out.size hk1.size)); have HT1 := Aside0.mk ht1; have HA1 := Aside0.mk han1; have HK1 := Aside0.mk hk1; clear ht1 han1 hk1)
    | (go_at_call 31; (with_reducible refine (rat_flat base g rbr L n x0 x1 x2 e0 (w1.alloc (.cells #[.int .i64 x0, .int .i64 x1, .int .i64 x2] 27)) HR1.out hwn HG.out).mono ?_); rintro e w2 ⟨rfl, hb2⟩; have hr2 := HR1.out.later hb2; have hk2 : Keep (w1.alloc (.cells #[.int .i64 x0, .int .i64 x1, .int .i64 x2] 27)) w2 (refS g rbr) := Keep.of_below hb2 _; have han2 : Anew (w1.alloc (.cells #[.int .i64 x0, .int .i64 x1, .int .i64 x2] 27)) rbr rbr := Anew.refl _ _; clear hb2; have hx_ := hk2.blk (blk_new w1 (.cells #[.int .i64 x0, .int .i64 x1, .int .i64 x2] 27)) HNX.out; have hx7_ := blk_alloc hx_ (.cells #[.int .i64 x0, .int .i64 x1, .int .i64 x2] 27); have hx70 : (w2.alloc (.cells #[.int .i64 x0, .int .i64 x1, .int .i64 x2] 27)).cell? ⟨w1.heap.size, 0, none⟩ = some (.int .i64 x0) := (blk_cell hx7_ 0).trans rfl; have hx71 : (w2.alloc (.cells #[.int .i64 x0, .int .i64 x1, .int .i64 x2] 27)).cell? ⟨w1.heap.size, 1, none⟩ = some (.int .i64 x1) := (blk_cell hx7_ 1).trans rfl; have hx72 : (w2.alloc (.cells #[.int .i64 x0, .int .i64 x1, .int .i64 x2] 27)).cell? ⟨w1.heap.size, 2, none⟩ = some (.int .i64 x2) := (blk_cell hx7_ 2).trans rfl; clear hx_ hx7_; have HR2 := Aside0.mk hr2; have HA2 := Aside0.mk han2; have HK2 := Aside0.mk hk2; clear hr2 han2 hk2))
  go_ret
  exact ⟨rfl, step_join HTAB.out HREF.out HAP.out HB0.out HT1.out HA1.out HK1.out (below_alloc (Below.refl _ _) _) HR2.out HA2.out HK2.out (below_alloc (Below.refl _ _) _)⟩
set_option maxHeartbeats 2000000 in
set_option maxRecDepth 100000 in
theorem step_expire (base gt m g : Nat) (rbt rbr : Option Nat) (L : List L3) (n now life : Int) (w : World) (ht : TabAt w base gt rbt m L) (hr : RefAt w base g rbr L) (ha : Apart gt rbt m g rbr) (hbase : base ≤ w.heap.size) (hwn : (Lit.int .i64 n).wf = true) (hww : (Lit.int .i64 now).wf = true) (hwl : (Lit.int .i64 life).wf = true) :
    Calls Try.prog 18 #[.pointer (some ⟨gt, 0, none⟩), .pointer (some ⟨g, 0, none⟩), .agg #[.int .i64 3, .int .i64 n, .int .i64 now, .int .i64 life]] w fun e w' => e = .returned (.bool true) ∧ StepOk w w' base gt m g rbt rbr (expireL L now).1 (expireL L now).1 := by
  have HB0 := Aside0.mk (show Below w.heap.size w (w.alloc (.cells #[.int .i64 3, .int .i64 n, .int .i64 now, .int .i64 life] 43)) from below_alloc (Below.refl _ _) _)
  have HTAB := Aside0.mk ht
  have HREF := Aside0.mk hr
  have HAP := Aside0.mk ha
  have HT0 := Aside0.mk (ht.later HB0.out)
  have HNS := Aside0.mk (show ¬ tabS gt rbt m w.heap.size from tabS_ne ht.lt (Nat.le_refl _))
  have hbs0 : base ≤ (w.alloc (.cells #[.int .i64 3, .int .i64 n, .int .i64 now, .int .i64 life] 43)).heap.size := by simp; omega
  obtain ⟨L', O, e0, hres⟩ : ∃ (L' O : List L3) (e0 : Int), expireL L now = (L', O, e0) := ⟨_, _, _, rfl⟩
  have HOL := Aside0.mk (show O.length ≤ 20000 by
    have h1 := ht.good.len
    have h2 : O = (expireL L now).2.1 := by rw [hres]
    rw [h2]
    unfold expireL
    split
    · simp
    · exact Nat.le_trans (List.length_filter_le _ _) h1)
  have HE1 := Aside0.mk (fun W h => expire_calls base gt m rbt L now W h)
  have HE2 := Aside0.mk (fun W h => rexpire_calls base g rbr L now W h)
  rw [hres] at HE1 HE2 ⊢
  clear hres ht hr ha
  go_enter Try.func18, Try.ntmps18
  go_wp2_with (first
    | (go_at_call 17; (with_reducible refine (HE1.out (w.alloc (.cells #[.int .i64 3, .int .i64 n, .int .i64 now, .int .i64 life] 43)) HT0.out).mono ?_); rintro e w1 ⟨v1, rfl, hv1, ht1, hk1⟩; have han1 : Anew (w.alloc (.cells #[.int .i64 3, .int .i64 n, .int .i64 now, .int .i64 life] 43)) rbt rbt := Anew.refl _ _; have HV1 := Aside0.mk hv1; obtain ⟨Av1, cv1, ev1⟩ := Kd.R_slice hv1; subst ev1; clear hv1; have hb_ := hk1.blk (blk_new w (.cells #[.int .i64 3, .int .i64 n, .int .i64 now, .int .i64 life] 43)) HNS.out; have hs0 : w1.cell? ⟨w.heap.size, 0, none⟩ = some (.int .i64 3) := (blk_cell hb_ 0).trans rfl; have hs1 : w1.cell? ⟨w.heap.size, 1, none⟩ = some (.int .i64 n) := (blk_cell hb_ 1).trans rfl; have hs2 : w1.cell? ⟨w.heap.size, 2, none⟩ = some (.int .i64 now) := (blk_cell hb_ 2).trans rfl; have hs3 : w1.cell? ⟨w.heap.size, 3, none⟩ = some (.int .i64 life) := (blk_cell hb_ 3).trans rfl; clear hb_; have HR1 := Aside0.mk (step_mid (W1 := w1) HREF.out HAP.out HB0.out hk1 (Below.refl _ _)); have HNX := Aside0.mk (show ¬ refS g rbr w1.heap.size from refS_ne HREF.out.lt (Nat.le_trans HB0.out.size hk1.size)); have HT1 := Aside0.mk ht1; have HA1 := Aside0.mk han1; have HK1 := Aside0.mk hk1; clear ht1 han1 hk1)
    | (go_at_call 29; (with_reducible refine (HE2.out w1 HR1.out).mono ?_); rintro e w2 ⟨v2, rfl, hv2, hr2, hk2⟩; have han2 : Anew w1 rbr rbr := Anew.refl _ _; have HV2 := Aside0.mk hv2; obtain ⟨Av2, cv2, ev2⟩ := Kd.R_slice hv2; subst ev2; clear hv2; have HR2 := Aside0.mk hr2; have HA2 := Aside0.mk han2; have HK2 := Aside0.mk hk2; clear hr2 han2 hk2)
    | (go_at_call 19; refine (same_calls Av1 Av2 cv1 cv2 O w2 HOL.out ?hA (Kd.R_reads' HV2.out).2.2).mono ?_; (case hA => exact (Kd.R_reads' (lease_keep HK2.out HV1.out (fun k hk e => by have h1 := Kd.R_base HV1.out k hk; have h2 := HREF.out.lt; have h3 := HB0.out.size; have h21 := h2.1; have h22 := h2.2; exact e.elim (fun e => by omega) (fun e => by have := (h22 k e.symm).1; omega)))).2.2); rintro e w3 ⟨rfl, hb3⟩; have HB3 := Aside0.mk hb3; clear hb3))
  go_ret
  exact ⟨rfl, step_join HTAB.out HREF.out HAP.out HB0.out HT1.out HA1.out HK1.out (Below.refl _ _) HR2.out HA2.out HK2.out HB3.out⟩
/-- A step: the two tables go together. -/
theorem step_calls (base gt m g : Nat) (rbt rbr : Option Nat) (L : List L3) (s : Stp) (w : World) (ht : TabAt w base gt rbt m L) (hr : RefAt w base g rbr L) (ha : Apart gt rbt m g rbr) (hbase : base ≤ w.heap.size) (hwn : (Lit.int .i64 s.2.1).wf = true) (hww : (Lit.int .i64 s.2.2.1).wf = true) (hwl : (Lit.int .i64 s.2.2.2).wf = true) :
    Calls Try.prog 18 #[.pointer (some ⟨gt, 0, none⟩), .pointer (some ⟨g, 0, none⟩), .agg #[.int .i64 s.1, .int .i64 s.2.1, .int .i64 s.2.2.1, .int .i64 s.2.2.2]] w fun e w' => e = .returned (.bool true) ∧ StepOk w w' base gt m g rbt rbr (stepL L s) (stepL L s) := by
  obtain ⟨q, n, now, life⟩ := s
  unfold stepL
  dsimp only at hwn hww hwl ⊢
  by_cases h0 : q = 0
  · subst h0
    exact step_grant base gt m g rbt rbr L n now life w ht hr ha hbase hwn hww hwl
  by_cases h1 : q = 1
  · subst h1
    exact step_renew base gt m g rbt rbr L n now life w ht hr ha hbase hwn hww hwl
  by_cases h2 : q = 2
  · subst h2
    exact step_end base gt m g rbt rbr L n now life w ht hr ha hbase hwn hww hwl
  by_cases h3 : q = 3
  · subst h3
    exact step_expire base gt m g rbt rbr L n now life w ht hr ha hbase hwn hww hwl
  rw [if_neg h0, if_neg h1, if_neg h2, if_neg h3]
  by_cases h4 : q = 4
  · subst h4
    exact step_of base gt m g rbt rbr L n now life w ht hr ha hbase hwn hww hwl
  exact step_at base gt m g rbt rbr L q n now life w ht hr ha hbase hwn hww hwl (by simpa using h0) (by simpa using h1) (by simpa using h2) (by simpa using h3) (by simpa using h4)
end Go.Proofs.Ytbmpglchifnelaa
