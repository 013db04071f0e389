/- Leases compared; the laws' first lease. -/
import Derived.Test.YtbmpglchifnelaaLExp
import Derived.Test.YtbmpglchifnelaaWEqStruct
import Derived.Lib.Hide
namespace Go.Proofs.Ytbmpglchifnelaa
open Go.RowKit Go.Maps Go.Proofs.YtbmpglchifnelaaW.PrintWords Go.Proofs.YtbmpglchifnelaaW.PrintLast Go.Proofs.YtbmpglchifnelaaW.PrintMore
set_option linter.unusedVariables false
set_option linter.unusedSimpArgs false
attribute [local go_sem] Oper.semAt_some max2_int min2_int max_two min_two max_three min_three max_four min_four
theorem eqA3 (d : Nat) (w : World) (x0 y0 : Int) (x1 y1 : Int) (x2 y2 : Int) :
    (Op.equalIn (d + 2) 27 (.agg #[.int .i64 x0, .int .i64 x1, .int .i64 x2]) (.agg #[.int .i64 y0, .int .i64 y1, .int .i64 y2])).run Try.prog w = .ok (x0 == y0 && (x1 == y1 && (x2 == y2))) w := by
  refine eqA_of Try.underlying27 (by kernel_rfl) ?_
  refine eqf_cons (by rfl) (by go_simp; rfl) (by go_simp; rfl) (by go_simp) ?_
  refine eqf_cons (by rfl) (by go_simp; rfl) (by go_simp; rfl) (by go_simp) ?_
  exact eqf_last (by rfl) (by go_simp; rfl) (by go_simp; rfl) (by go_simp)
attribute [local go_sem high] eqA3
set_option maxHeartbeats 1000000 in
set_option maxRecDepth 100000 in
/-- Grant's contract, its lease written out. -/
theorem grant_flat (base g m : Nat) (rb : Option Nat) (L L' : List L3) (d now life x0 x1 x2 e0 : Int) (w : World) (h : TabAt w base g rb m L) (hbase : base ≤ w.heap.size) (hd : (Lit.int .i64 d).wf = true) (hw1 : (Lit.int .i64 now).wf = true) (hw2 : (Lit.int .i64 life).wf = true) (hg : grantL L d now life = (L', (x0, x1, x2), e0)) :
    Calls Try.prog 11 #[.pointer (some ⟨g, 0, none⟩), .int .i64 d, .int .i64 now, .int .i64 life] w fun e w' => e = .returned (.tuple #[.agg #[.int .i64 x0, .int .i64 x1, .int .i64 x2], .int .i64 e0]) ∧ ∃ rb', TabAt w' base g rb' m L' ∧ Anew w rb rb' ∧ Keep w w' (tabS g rb m) := by
  have h1 := grant_calls base g m rb L d now life w h hbase hd hw1 hw2
  rw [hg] at h1
  exact h1
theorem renew_flat (base g m : Nat) (rb : Option Nat) (L L' : List L3) (n now life x0 x1 x2 e0 : Int) (w : World) (h : TabAt w base g rb m L) (hg : renewL L n now life = (L', (x0, x1, x2), e0)) :
    Calls Try.prog 12 #[.pointer (some ⟨g, 0, none⟩), .int .i64 n, .int .i64 now, .int .i64 life] w fun e w' => e = .returned (.tuple #[.agg #[.int .i64 x0, .int .i64 x1, .int .i64 x2], .int .i64 e0]) ∧ TabAt w' base g rb m L' ∧ Keep w w' (tabS g rb m) := by
  have h1 := renew_calls base g m rb L n now life w h
  rw [hg] at h1
  exact h1
theorem of_flat (base g m : Nat) (rb : Option Nat) (L : List L3) (d x0 x1 x2 : Int) (b : Bool) (w : World) (h : TabAt w base g rb m L) (hd : (Lit.int .i64 d).wf = true) (hg : ofD L d = ((x0, x1, x2), b)) :
    Calls Try.prog 13 #[.pointer (some ⟨g, 0, none⟩), .int .i64 d] w fun e w' => e = .returned (.tuple #[.agg #[.int .i64 x0, .int .i64 x1, .int .i64 x2], .bool b]) ∧ Below w.heap.size w w' := by
  have h1 := of_calls base g m rb L d w h hd
  rw [hg] at h1
  exact h1
theorem at_flat (base g m : Nat) (rb : Option Nat) (L : List L3) (n x0 x1 x2 e0 : Int) (w : World) (h : TabAt w base g rb m L) (hg : atD L n = ((x0, x1, x2), e0)) :
    Calls Try.prog 15 #[.pointer (some ⟨g, 0, none⟩), .int .i64 n] w fun e w' => e = .returned (.tuple #[.agg #[.int .i64 x0, .int .i64 x1, .int .i64 x2], .int .i64 e0]) ∧ Below w.heap.size w w' := by
  have h1 := at_calls base g m rb L n w h
  rw [hg] at h1
  exact h1
theorem end_flat (base g m : Nat) (rb : Option Nat) (L L' : List L3) (n e0 : Int) (w : World) (h : TabAt w base g rb m L) (hg : endL L n = (L', e0)) :
    Calls Try.prog 14 #[.pointer (some ⟨g, 0, none⟩), .int .i64 n] w fun e w' => e = .returned (.int .i64 e0) ∧ TabAt w' base g rb m L' ∧ Keep w w' (tabS g rb m) := by
  have h1 := end_calls base g m rb L n w h
  rw [hg] at h1
  exact h1
/-- What a table's calls write is no older than its base. -/
theorem tab_low {w W : World} {base g m : Nat} {rb : Option Nat} {L : List L3} (h : TabAt w base g rb m L) (hk : Keep w W (tabS g rb m)) (hb : base ≤ w.heap.size) : Below base w W :=
  hk.below (fun k hs => by
    rcases hs with e | e | e
    · exact e ▸ h.bg
    · exact (h.lt.2.2 k e.symm).2
    · exact e ▸ h.bm) hb
theorem TabAt.later {w W : World} {base g m : Nat} {rb : Option Nat} {L : List L3} (h : TabAt w base g rb m L) (hb : Below w.heap.size w W) : TabAt W base g rb m L := h.keep (Keep.of_below hb (fun _ => False)) (fun e => e) (fun _ _ e => e) (fun e => e)
theorem RefAt.later {w W : World} {base g : Nat} {rb : Option Nat} {L : List L3} (h : RefAt w base g rb L) (hb : Below w.heap.size w W) : RefAt W base g rb L := h.keep (Keep.of_below hb (fun _ => False)) (fun e => e) (fun _ _ e => e)
theorem awake_true (w : World) : Calls Try.prog 9 #[] w fun e w' => e = .returned (.bool true) ∧ Below w.heap.size w w' := by
  go_enter Try.func9, Try.ntmps9
  go_wp2_with (first
    | (go_at_call 10; refine (new_calls w).mono ?_; rintro e w1 ⟨g, m, rfl, ht, hb⟩; have HT := Aside0.mk ht; have HB := Aside0.mk hb; clear ht hb)
    | (go_at_call 11; refine (grant_flat w.heap.size g m none [] [(1, 7, 110)] 7 100 10 1 7 110 0 w1 HT.out HB.out.size (by decide) (by decide) (by decide) (by decide)).mono ?_; rintro e w2 ⟨rfl, rb', ht2, han2, hk2⟩; have HB2 := Aside0.mk (HB.out.trans (tab_low HT.out hk2 HB.out.size)); clear ht2 han2 hk2))
  go_ret
  exact ⟨rfl, HB2.out.alloc HB2.out.size _⟩
end Go.Proofs.Ytbmpglchifnelaa
