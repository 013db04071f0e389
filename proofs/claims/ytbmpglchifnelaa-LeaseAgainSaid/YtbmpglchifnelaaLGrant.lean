/- The contract of the program's Grant. -/
import Derived.Test.YtbmpglchifnelaaLPut
namespace Go.Proofs.Ytbmpglchifnelaa
open Go.RowKit Go.Maps Go.Proofs.YtbmpglchifnelaaW.PrintWords Go.Proofs.YtbmpglchifnelaaW.PrintLast Go.Proofs.YtbmpglchifnelaaW.PrintMore
set_option linter.unusedVariables false
set_option linter.unusedSimpArgs false
attribute [local go_sem] Oper.semAt_some max2_int min2_int max_two min_two max_three min_three max_four min_four

def agg3 (x : L3) : Value := .agg #[.int .i64 x.1, .int .i64 x.2.1, .int .i64 x.2.2]
set_option maxHeartbeats 1000000 in
set_option maxRecDepth 100000 in
theorem grant_calls (base g m : Nat) (rb : Option Nat) (L : List L3) (d now life : Int) (w : World) (h : TabAt w base g rb m L) (hbase : base ≤ w.heap.size) (hd : (Lit.int .i64 d).wf = true) (hw1 : (Lit.int .i64 now).wf = true) (hw2 : (Lit.int .i64 life).wf = true) :
    Calls Try.prog 11 #[.pointer (some ⟨g, 0, none⟩), .int .i64 d, .int .i64 now, .int .i64 life] w fun e w' => e = .returned (.tuple #[agg3 (grantL L d now life).2.1, .int .i64 (grantL L d now life).2.2]) ∧ ∃ rb', TabAt w' base g rb' m (grantL L d now life).1 ∧ Anew w rb rb' ∧ Keep w w' (tabS g rb m) := by
  obtain ⟨A, c, n, D, hb, hR, ho, hM, hnl, hD⟩ := h.ex
  have hlt := h.lt
  have HH := Aside0.mk h
  have HM := Aside0.mk (hM.alloc (.cells #[.int .i64 0, .int .i64 0, .int .i64 0] 27))
  have hb1 : (w.alloc (.cells #[.int .i64 0, .int .i64 0, .int .i64 0] 27)).heap[g]? = some (.cells #[.slice A L.length c, .map (some m)] 60 (0, 0)) := blk_alloc hb _
  have HT1 := Aside0.mk (h.keep (Keep.of_below (below_alloc (Below.refl _ _) (.cells #[.int .i64 0, .int .i64 0, .int .i64 0] 27)) (fun _ => False)) (fun e => e) (fun _ _ e => e) (fun e => e))
  have hca : (w.alloc (.cells #[.int .i64 0, .int .i64 0, .int .i64 0] 27)).cell? ⟨g, 0, none⟩ = some (.slice A L.length c) := (blk_cell hb1 0).trans rfl
  have hcm : (w.alloc (.cells #[.int .i64 0, .int .i64 0, .int .i64 0] 27)).cell? ⟨g, 1, none⟩ = some (.map (some m)) := (blk_cell hb1 1).trans rfl
  have hkey := keyOf_int_mk Try.underlying3 hd
  have hhas := (hD d).1
  have HLT := Aside0.mk hlt
  clear hb hb1 hR ho hM hlt hD h
  by_cases hok : okDev d ∧ okNow now ∧ okLife life
  · obtain ⟨hd1, hd2, hd3⟩ := hok
    have WD := Aside0.mk (fun w => within_true d 1 4096 w hd1)
    have WN := Aside0.mk (fun w => within_true now 0 1099511627776 w hd2)
    have WL := Aside0.mk (fun w => within_true life 1 1048576 w hd3)
    cases hof : ofL L d with
    | some x =>
      have hgr : grantL L d now life = (L, z3, 5) := by unfold grantL; rw [if_neg (by simp [hd1, hd2, hd3]), if_pos (by rw [hof]; rfl)]
      rw [hof, Option.isSome_some] at hhas
      rw [hgr]
      clear hof hgr hd1 hd2 hd3
      go_enter Try.func11, Try.ntmps11
      go_wp2_with (first
        | (at_lookup; refine wpList_lookup_own_ok_int _ rfl _ _ 46 rfl 3 3 .i64 keyed3 Try.underlying46 Try.underlying3 (zero3_run _) m n D rfl HM.out _ _ rfl hkey ?_; intro v hat hwc; clear hat hwc)
        | (go_at_call 22; first
            | ((with_reducible refine (WD.out _).mono ?_); rintro e w' ⟨rfl, rfl⟩)
            | ((with_reducible refine (WN.out _).mono ?_); rintro e w' ⟨rfl, rfl⟩)
            | ((with_reducible refine (WL.out _).mono ?_); rintro e w' ⟨rfl, rfl⟩)))
      refine bodyPost_ret (results_ct rfl _ _ w.heap.size 27 #[.int .i64 0, .int .i64 0, .int .i64 0] (0, 0) _ rfl ?_ Try.underlying27 rfl (by kernel_rfl)) rfl ?_
      · first | exact blk_new _ _ | (simp; done)
      · refine ⟨rfl, rb, HT1.out, .inl rfl, (Keep.of_below (below_alloc (Below.refl _ _) _) _)⟩
    | none =>
      rw [hof, Option.isSome_none] at hhas
      have hgr : grantL L d now life = if 20000 ≤ L.length then (L, z3, 3) else (L ++ [((L.length : Int) + 1, d, now + life)], ((L.length : Int) + 1, d, now + life), 0) := by unfold grantL; rw [if_neg (by simp [hd1, hd2, hd3]), if_neg (by rw [hof]; simp)]
      by_cases hfull : 20000 ≤ L.length
      · rw [if_pos hfull] at hgr
        rw [hgr]
        have hfd : decide ((20000 : Int) ≤ (L.length : Int)) = true := by simp; omega
        clear hof hgr hd1 hd2 hd3
        go_enter Try.func11, Try.ntmps11
        go_wp2_with (first
          | (at_lookup; refine wpList_lookup_own_ok_int _ rfl _ _ 46 rfl 3 3 .i64 keyed3 Try.underlying46 Try.underlying3 (zero3_run _) m n D rfl HM.out _ _ rfl hkey ?_; intro v hat hwc; clear hat hwc)
          | (go_at_call 22; first
            | ((with_reducible refine (WD.out _).mono ?_); rintro e w' ⟨rfl, rfl⟩)
            | ((with_reducible refine (WN.out _).mono ?_); rintro e w' ⟨rfl, rfl⟩)
            | ((with_reducible refine (WL.out _).mono ?_); rintro e w' ⟨rfl, rfl⟩)))
        refine bodyPost_ret (results_ct rfl _ _ w.heap.size 27 #[.int .i64 0, .int .i64 0, .int .i64 0] (0, 0) _ rfl ?_ Try.underlying27 rfl (by kernel_rfl)) rfl ?_
        · first | exact blk_new _ _ | (simp; done)
        · refine ⟨rfl, rb, HT1.out, .inl rfl, (Keep.of_below (below_alloc (Below.refl _ _) _) _)⟩
      · rw [if_neg hfull] at hgr
        rw [hgr]
        have hfd : decide ((20000 : Int) ≤ (L.length : Int)) = false := by simp; omega
        have hnl2 : 0 ≤ now ∧ now ≤ 1099511627776 := hd2
        have hll2 : 1 ≤ life ∧ life ≤ 1048576 := hd3
        obtain ⟨w2, hw2e⟩ : ∃ w2, (w.alloc (.cells #[.int .i64 0, .int .i64 0, .int .i64 0] 27)).alloc (.cells #[.int .i64 ((L.length : Int) + 1), .int .i64 d, .int .i64 (now + life)] 27) = w2 := ⟨_, rfl⟩
        have HP := Aside0.mk (put_calls base g m rb L d (now + life) _ (HT1.out.keep (Keep.of_below (below_alloc (Below.refl _ _) (.cells #[.int .i64 ((L.length : Int) + 1), .int .i64 d, .int .i64 (now + life)] 27)) (fun _ => False)) (fun e => e) (fun _ _ e => e) (fun e => e)) (by simp; omega) (by omega) hd1 ⟨by omega, by omega⟩ (fun _ => hof))
        have hr1 := hnl2.1
        have hr2 := hnl2.2
        have hr3 := hll2.1
        have hr4 := hll2.2
        clear hof hgr hd1 hd2 hd3 hw2e hnl2 hll2
        go_enter Try.func11, Try.ntmps11
        go_wp2_with (first
          | (at_lookup; refine wpList_lookup_own_ok_int _ rfl _ _ 46 rfl 3 3 .i64 keyed3 Try.underlying46 Try.underlying3 (zero3_run _) m n D rfl HM.out _ _ rfl hkey ?_; intro v hat hwc; clear hat hwc)
          | (go_at_call 22; first
            | ((with_reducible refine (WD.out _).mono ?_); rintro e w' ⟨rfl, rfl⟩)
            | ((with_reducible refine (WN.out _).mono ?_); rintro e w' ⟨rfl, rfl⟩)
            | ((with_reducible refine (WL.out _).mono ?_); rintro e w' ⟨rfl, rfl⟩))
          | (go_at_call 23; refine HP.out.mono ?_; rintro e w3 ⟨rfl, rb', ht3, han3, hk3⟩; have hx3 : w3.heap[w.heap.size + 1]? = some (.cells #[.int .i64 ((L.length : Int) + 1), .int .i64 d, .int .i64 (now + life)] 27 (0, 0)) := hk3.blk (by have h := blk_new (w.alloc (.cells #[.int .i64 0, .int .i64 0, .int .i64 0] 27)) (.cells #[.int .i64 ((L.length : Int) + 1), .int .i64 d, .int .i64 (now + life)] 27); simpa using h) (tabS_ne HLT.out (by omega)); have hq3 : w3.heap[w.heap.size]? = some (.cells #[.int .i64 0, .int .i64 0, .int .i64 0] 27 (0, 0)) := hk3.blk (blk_alloc (blk_new _ _) _) (tabS_ne HLT.out (by omega)); have hy0 : w3.cell? ⟨w.heap.size + 1, 0, none⟩ = some (.int .i64 ((L.length : Int) + 1)) := (blk_cell hx3 0).trans rfl; have hy1 : w3.cell? ⟨w.heap.size + 1, 1, none⟩ = some (.int .i64 d) := (blk_cell hx3 1).trans rfl; have hy2 : w3.cell? ⟨w.heap.size + 1, 2, none⟩ = some (.int .i64 (now + life)) := (blk_cell hx3 2).trans rfl; have hz0 : w3.cell? ⟨w.heap.size, 0, none⟩ = some (.int .i64 0) := (blk_cell hq3 0).trans rfl; have hz1 : w3.cell? ⟨w.heap.size, 1, none⟩ = some (.int .i64 0) := (blk_cell hq3 1).trans rfl; have hz2 : w3.cell? ⟨w.heap.size, 2, none⟩ = some (.int .i64 0) := (blk_cell hq3 2).trans rfl; have hf0 := blk_frozen hq3 0; have hf1 := blk_frozen hq3 1; have hf2 := blk_frozen hq3 2; have HQ3 := Aside0.mk hq3; have HT3 := Aside0.mk ht3; have HAN3 := Aside0.mk han3; have HK3 := Aside0.mk hk3; clear ht3 han3 hk3 hx3 hq3))
        refine bodyPost_ret (results_ct rfl _ _ w.heap.size 27 #[.int .i64 ((L.length : Int) + 1), .int .i64 d, .int .i64 (now + life)] (0, 0) _ rfl (by simpa using blk_set (blk_set (blk_set HQ3.out 0 (.int .i64 ((L.length : Int) + 1))) 1 (.int .i64 d)) 2 (.int .i64 (now + life))) Try.underlying27 rfl (by kernel_rfl)) rfl ?_
        have hks := keep_three w3 w.heap.size (.int .i64 ((L.length : Int) + 1)) (.int .i64 d) (.int .i64 (now + life))
        have hlt3 := HT3.out.lt
        refine ⟨rfl, rb', HT3.out.keep hks (fun e => by have := HLT.out.1; omega) (fun k hk e => ?_) (fun e => by have := HLT.out.2.1; omega), ?_, ?_⟩
        · rcases HAN3.out with e1 | e1
          · have := HLT.out.2.2 k (e1 ▸ hk); omega
          · have := e1 k hk; simp at this; omega
        · rcases HAN3.out with e1 | e1
          · exact .inl e1
          · exact .inr (fun k hk => by have := e1 k hk; simp at this; omega)
        · exact (((Keep.of_below (below_alloc (below_alloc (Below.refl _ _) _) _) (tabS g rb m)).then_ HK3.out (fun k h => .inl h)).then_ hks (fun k e => .inr (by omega)))
  · have hgr : grantL L d now life = (L, z3, 1) := by unfold grantL; rw [if_pos hok]
    rw [hgr]
    clear hgr hhas
    by_cases hd1 : okDev d
    · have WD := Aside0.mk (fun w => within_true d 1 4096 w hd1)
      by_cases hd2 : okNow now
      · have WN := Aside0.mk (fun w => within_true now 0 1099511627776 w hd2)
        have WL := Aside0.mk (fun w => within_false life 1 1048576 w (fun h => hok ⟨hd1, hd2, h⟩))
        clear hok hd1 hd2
        go_enter Try.func11, Try.ntmps11
        go_wp2_with (first
          | (at_lookup; refine wpList_lookup_own_ok_int _ rfl _ _ 46 rfl 3 3 .i64 keyed3 Try.underlying46 Try.underlying3 (zero3_run _) m n D rfl HM.out _ _ rfl hkey ?_; intro v hat hwc; clear hat hwc)
          | (go_at_call 22; first | ((with_reducible refine (WD.out _).mono ?_); rintro e w' ⟨rfl, rfl⟩) | ((with_reducible refine (WN.out _).mono ?_); rintro e w' ⟨rfl, rfl⟩) | ((with_reducible refine (WL.out _).mono ?_); rintro e w' ⟨rfl, rfl⟩)))
        refine bodyPost_ret (results_ct rfl _ _ w.heap.size 27 #[.int .i64 0, .int .i64 0, .int .i64 0] (0, 0) _ rfl ?_ Try.underlying27 rfl (by kernel_rfl)) rfl ?_
        · first | exact blk_new _ _ | (simp; done)
        · refine ⟨rfl, rb, HT1.out, .inl rfl, (Keep.of_below (below_alloc (Below.refl _ _) _) _)⟩
      · have WN := Aside0.mk (fun w => within_false now 0 1099511627776 w hd2)
        clear hok hd1 hd2
        go_enter Try.func11, Try.ntmps11
        go_wp2_with (first
          | (at_lookup; refine wpList_lookup_own_ok_int _ rfl _ _ 46 rfl 3 3 .i64 keyed3 Try.underlying46 Try.underlying3 (zero3_run _) m n D rfl HM.out _ _ rfl hkey ?_; intro v hat hwc; clear hat hwc)
          | (go_at_call 22; first | ((with_reducible refine (WD.out _).mono ?_); rintro e w' ⟨rfl, rfl⟩) | ((with_reducible refine (WN.out _).mono ?_); rintro e w' ⟨rfl, rfl⟩)))
        refine bodyPost_ret (results_ct rfl _ _ w.heap.size 27 #[.int .i64 0, .int .i64 0, .int .i64 0] (0, 0) _ rfl ?_ Try.underlying27 rfl (by kernel_rfl)) rfl ?_
        · first | exact blk_new _ _ | (simp; done)
        · refine ⟨rfl, rb, HT1.out, .inl rfl, (Keep.of_below (below_alloc (Below.refl _ _) _) _)⟩
    · have WD := Aside0.mk (fun w => within_false d 1 4096 w hd1)
      clear hok hd1
      go_enter Try.func11, Try.ntmps11
      go_wp2_with (first
        | (at_lookup; refine wpList_lookup_own_ok_int _ rfl _ _ 46 rfl 3 3 .i64 keyed3 Try.underlying46 Try.underlying3 (zero3_run _) m n D rfl HM.out _ _ rfl hkey ?_; intro v hat hwc; clear hat hwc)
        | (go_at_call 22; first | ((with_reducible refine (WD.out _).mono ?_); rintro e w' ⟨rfl, rfl⟩)))
      refine bodyPost_ret (results_ct rfl _ _ w.heap.size 27 #[.int .i64 0, .int .i64 0, .int .i64 0] (0, 0) _ rfl ?_ Try.underlying27 rfl (by kernel_rfl)) rfl ?_
      · first | exact blk_new _ _ | (simp; done)
      · refine ⟨rfl, rb, HT1.out, .inl rfl, (Keep.of_below (below_alloc (Below.refl _ _) _) _)⟩
end Go.Proofs.Ytbmpglchifnelaa
