/- The contracts of the program's Of, At, Renew, End. -/
import Derived.Test.YtbmpglchifnelaaLFind
namespace Go.Proofs.Ytbmpglchifnelaa
open Go.RowKit Go.Maps Go.Proofs.YtbmpglchifnelaaW.PrintWords Go.Proofs.YtbmpglchifnelaaW.PrintLast Go.Proofs.YtbmpglchifnelaaW.PrintMore
set_option linter.unusedVariables false
set_option linter.unusedSimpArgs false
attribute [local go_sem] Oper.semAt_some max2_int min2_int max_two min_two max_three min_three max_four min_four

set_option maxHeartbeats 1000000 in
set_option maxRecDepth 100000 in
theorem of_calls (base g m : Nat) (rb : Option Nat) (L : List L3) (d : Int) (w : World) (h : TabAt w base g rb m L) (hd : (Lit.int .i64 d).wf = true) :
    Calls Try.prog 13 #[.pointer (some ⟨g, 0, none⟩), .int .i64 d] w fun e w' => e = .returned (.tuple #[agg3 (ofD L d).1, .bool (ofD L d).2]) ∧ Below w.heap.size w w' := by
  obtain ⟨A, c, n, D, hb, hR, ho, hM, hnl, hD⟩ := h.ex
  have HM := Aside0.mk (hM.alloc (.cells #[.int .i64 0, .int .i64 0, .int .i64 0] 27))
  have hR1 := Kd.R_alloc hR (.cells #[.int .i64 0, .int .i64 0, .int .i64 0] 27)
  have hb1 : (w.alloc (.cells #[.int .i64 0, .int .i64 0, .int .i64 0] 27)).heap[g]? = some (.cells #[.slice A L.length c, .map (some m)] 60 (0, 0)) := blk_alloc hb _
  have hca : (w.alloc (.cells #[.int .i64 0, .int .i64 0, .int .i64 0] 27)).cell? ⟨g, 0, none⟩ = some (.slice A L.length c) := (blk_cell hb1 0).trans rfl
  have hcm : (w.alloc (.cells #[.int .i64 0, .int .i64 0, .int .i64 0] 27)).cell? ⟨g, 1, none⟩ = some (.map (some m)) := (blk_cell hb1 1).trans rfl
  have hkey := keyOf_int_mk Try.underlying3 hd
  have hhas := (hD d).1
  have HAT := Aside0.mk (hD d).2
  have hgood := h.good
  have hlen := hgood.len
  clear hb hb1 hR ho hM hD h
  unfold ofD
  cases hof : ofL L d with
  | none =>
    rw [hof, Option.isSome_none] at hhas
    clear hof hgood hR1
    go_enter Try.func13, Try.ntmps13
    go_wp2_with (at_lookup; refine wpList_lookup_own_ok_int _ rfl _ _ 46 rfl 3 3 .i64 keyed3 Try.underlying46 Try.underlying3 (zero3_run _) m n D rfl HM.out _ _ rfl hkey ?_; intro v hat hwc; clear hat hwc)
    refine bodyPost_ret (results_ct rfl _ _ w.heap.size 27 #[.int .i64 0, .int .i64 0, .int .i64 0] (0, 0) _ rfl ?_ Try.underlying27 rfl (by kernel_rfl)) rfl ?_
    · first | exact blk_new _ _ | (simp; done)
    · exact ⟨rfl, below_alloc (Below.refl _ _) _⟩
  | some x =>
    rw [hof, Option.isSome_some] at hhas
    have HA2 := HAT.out
    rw [hof] at HA2
    have HAX := Aside0.mk HA2
    obtain ⟨i, hi, hxd, hx0⟩ := ofL_some hof
    have hil : i < L.length := (List.getElem?_eq_some_iff.1 hi).1
    have hxe := (hgood.ent i x hi).1
    obtain ⟨gb, e, hgb, hy0, hy1, hy2, hfr⟩ := lease_cell hR1 i hil
    subst e
    have hgd : L.getD i z3 = x := by rw [List.getD_eq_getElem?_getD, hi]; rfl
    rw [hgd] at hy0 hy1 hy2
    obtain ⟨x0, x1, x2⟩ := x
    dsimp only at hy0 hy1 hy2 hxe
    rw [hxe] at hy0
    have HXE := Aside0.mk hxe
    clear hof hgood hR1 hfr hgd hi hxd hx0 HA2 HAT
    go_enter Try.func13, Try.ntmps13
    go_wp2_with (at_lookup; refine wpList_lookup_own_ok_int _ rfl _ _ 46 rfl 3 3 .i64 keyed3 Try.underlying46 Try.underlying3 (zero3_run _) m n D rfl HM.out _ _ rfl hkey ?_; intro v hat hwc; obtain rfl : v = (i : Int) + 1 := (i64_inj (b := x0) (hat.symm.trans HAX.out)).trans HXE.out; clear hat hwc)
    refine bodyPost_ret (results_ct rfl _ _ w.heap.size 27 #[.int .i64 ((i : Int) + 1), .int .i64 x1, .int .i64 x2] (0, 0) _ rfl ?_ Try.underlying27 rfl (by kernel_rfl)) rfl ?_
    · first | exact blk_new _ _ | (simp; done)
    · exact ⟨by rw [← HXE.out]; rfl, below_alloc (Below.refl _ _) _⟩
set_option maxHeartbeats 1000000 in
set_option maxRecDepth 100000 in
theorem at_calls (base g m : Nat) (rb : Option Nat) (L : List L3) (n : Int) (w : World) (h : TabAt w base g rb m L) :
    Calls Try.prog 15 #[.pointer (some ⟨g, 0, none⟩), .int .i64 n] w fun e w' => e = .returned (.tuple #[agg3 (atD L n).1, .int .i64 (atD L n).2]) ∧ Below w.heap.size w w' := by
  obtain ⟨A, c, n0, D, hb, hR, ho, hM, hnl, hD⟩ := h.ex
  have hR1 := Kd.R_alloc hR (.cells #[.int .i64 0, .int .i64 0, .int .i64 0] 27)
  have hca : (w.alloc (.cells #[.int .i64 0, .int .i64 0, .int .i64 0] 27)).cell? ⟨g, 0, none⟩ = some (.slice A L.length c) := (blk_cell (blk_alloc hb _) 0).trans rfl
  have hlen := h.good.len
  clear hb hR ho hM hD h
  unfold atD
  by_cases hn : 1 ≤ n ∧ n ≤ L.length
  · rw [if_pos hn]
    obtain ⟨k, hk⟩ := Int.eq_ofNat_of_zero_le (show 0 ≤ n - 1 by omega)
    obtain rfl : n = (k : Int) + 1 := by omega
    have W1 := Aside0.mk (fun w => within_true ((k : Int) + 1) 1 L.length w hn)
    have hkl : k < L.length := by omega
    obtain ⟨gb, e, hgb, hy0, hy1, hy2, hfr⟩ := lease_cell hR1 k hkl
    subst e
    have hgd : atN L ((k : Int) + 1) = L.getD k z3 := by unfold atN; rw [show ((k : Int) + 1).toNat - 1 = k by omega]
    rw [hgd]
    obtain ⟨x, hx⟩ : ∃ x, L.getD k z3 = x := ⟨_, rfl⟩
    rw [hx] at hy0 hy1 hy2 ⊢
    obtain ⟨x0, x1, x2⟩ := x
    dsimp only at hy0 hy1 hy2
    clear hn hk hR1 hfr hgd hx
    go_enter Try.func15, Try.ntmps15
    go_wp2_with (go_at_call 22; (with_reducible refine (W1.out _).mono ?_); rintro e w' ⟨rfl, rfl⟩)
    refine bodyPost_ret (results_ct rfl _ _ w.heap.size 27 #[.int .i64 x0, .int .i64 x1, .int .i64 x2] (0, 0) _ rfl ?_ Try.underlying27 rfl (by kernel_rfl)) rfl ?_
    · first | exact blk_new _ _ | (simp; done)
    · exact ⟨rfl, below_alloc (Below.refl _ _) _⟩
  · rw [if_neg hn]
    have W1 := Aside0.mk (fun w => within_false n 1 L.length w hn)
    clear hn hR1
    go_enter Try.func15, Try.ntmps15
    go_wp2_with (go_at_call 22; (with_reducible refine (W1.out _).mono ?_); rintro e w' ⟨rfl, rfl⟩)
    refine bodyPost_ret (results_ct rfl _ _ w.heap.size 27 #[.int .i64 0, .int .i64 0, .int .i64 0] (0, 0) _ rfl ?_ Try.underlying27 rfl (by kernel_rfl)) rfl ?_
    · first | exact blk_new _ _ | (simp; done)
    · exact ⟨rfl, below_alloc (Below.refl _ _) _⟩
theorem find_any (base g m : Nat) (rb : Option Nat) (L : List L3) (n : Int) (w : World) (h : TabAt w base g rb m L) :
    Calls Try.prog 24 #[.pointer (some ⟨g, 0, none⟩), .int .i64 n] w fun e w' => ∃ p, e = .returned (.pointer p) ∧ w = w' := by
  by_cases hn : openN L n
  · exact (findO base g m rb L n w h hn).mono fun e w' ⟨gb, ⟨_, he⟩, hw⟩ => ⟨_, he, hw⟩
  · exact (findN base g m rb L n w h hn).mono fun e w' ⟨he, hw⟩ => ⟨_, he, hw⟩
/-- delete(m, k), as one step of a region. -/
theorem step_delete {ops : Array Oper} {o : Oper} {a : Act} {K : Act → World → Prop} {Q : Exit → Act → World → Prop} {E : Prop} {w : World} (m n : Nat) (D : DataW Unit) (d : Int) (s x : Operand) (hg : o.guard = none)
    (hop : o.op = Op.call { callee := Callee.builtin Builtin.delete, args := #[s, x], argTypes := #[46, 3] }) (hm : a.eval s = .map (some m)) (hx : a.eval x = .int .i64 d) (hd : (Lit.int .i64 d).wf = true) (hown : w.ownsMap Try.prog 3 (plainElem Try.prog 3) m n D)
    (hK : ∀ w', Aside0 (w'.ownsMap Try.prog 3 (plainElem Try.prog 3) m n (D.del (.int .i64 d))) → Aside0 (w.mapTurned w' m) → K (a.put o.dst (.tuple #[])) w') :
    if Region.wanted o (yielded ops a.tmps) = true then Oper.wp Try.prog o a w K Q else E := by
  have hw : Region.wanted o (yielded ops a.tmps) = true := by simp [Region.wanted, hg]
  rw [if_pos hw]
  obtain ⟨w', hrun, r1, r2⟩ := hown.drop keyed3 Try.underlying46 (keyOf_int_mk Try.underlying3 hd) o.type
  unfold Oper.wp
  simp [execOp, hop, resolve, invoke, builtin, hm, hx, hrun, Result.andThen]
  exact hK w' ⟨r1⟩ ⟨r2⟩
set_option maxHeartbeats 1000000 in
set_option maxRecDepth 100000 in
theorem end_calls (base g m : Nat) (rb : Option Nat) (L : List L3) (n : Int) (w : World) (h : TabAt w base g rb m L) :
    Calls Try.prog 14 #[.pointer (some ⟨g, 0, none⟩), .int .i64 n] w fun e w' => e = .returned (.int .i64 (endL L n).2) ∧ TabAt w' base g rb m (endL L n).1 ∧ Keep w w' (tabS g rb m) := by
  by_cases hn : openN L n
  · have hgood := endL_good h.good n
    unfold endL at hgood ⊢
    rw [if_neg (by simpa using hn)] at hgood ⊢
    obtain ⟨A, c, n0, D, hb, hR, ho, hM, hnl, hD⟩ := h.ex
    obtain ⟨h1, h2, h3⟩ := hn
    obtain ⟨k, hk⟩ := Int.eq_ofNat_of_zero_le (show 0 ≤ n - 1 by omega)
    obtain rfl : n = (k : Int) + 1 := by omega
    have hkl : k < L.length := by omega
    have hkn : ((k : Int) + 1).toNat - 1 = k := by omega
    have hgd : atN L ((k : Int) + 1) = L.getD k z3 := by unfold atN; rw [hkn]
    rw [hgd] at h3 hgood ⊢
    rw [hkn] at hgood ⊢
    have hF := find_open base g m rb L k w h hkl (by omega)
    obtain ⟨gb, e, hgb, hy0, hy1, hy2, hfr⟩ := lease_cell hR k hkl
    have hR2 := lease_until (e ▸ hR) k hkl 0
    have hLk : L[k]? = some (L.getD k z3) := by rw [List.getD_eq_getElem?_getD, List.getElem?_eq_getElem hkl]; rfl
    have hent := h.good.ent k _ hLk
    have hD2 := mapIs_del h.good hD hLk h3
    obtain ⟨x, hx⟩ : ∃ x, L.getD k z3 = x := ⟨_, rfl⟩
    rw [hx] at hy0 hy1 hy2 hR2 hent hD2 hgood h3 ⊢
    obtain ⟨x0, x1, x2⟩ := x
    dsimp only at hy0 hy1 hy2 hR2 hent hD2 hgood h3 ⊢
    subst e
    have hgg : gb ≠ g := fun e => R_ne_blk hR hb (by decide) (by rw [e]; rfl)
    have hgm : gb ≠ m := fun e => R_ne_map hR hM (by rw [e]; rfl)
    have hrb : rb = some gb := ho.symm
    have HF := Aside0.mk (hrb ▸ hF)
    have hb2 : (w.setCell ⟨gb, k * 3 + 2, none⟩ (.int .i64 0)).heap[g]? = some (.cells #[.slice (some ⟨gb, 0, none⟩) L.length c, .map (some m)] 60 (0, 0)) := blk_far hb (by simpa using (Ne.symm hgg)) _
    have HB2 := Aside0.mk hb2
    have HM2 := Aside0.mk (hM.setCell (a := ⟨gb, k * 3 + 2, none⟩) (fun e => hgm e.symm) (.int .i64 0))
    have hcm : (w.setCell ⟨gb, k * 3 + 2, none⟩ (.int .i64 0)).cell? ⟨g, 1, none⟩ = some (.map (some m)) := (blk_cell hb2 1).trans rfl
    have hf2 := hfr 2
    have HR2 := Aside0.mk hR2
    have HG := Aside0.mk hgood
    have HH := Aside0.mk h
    have HD2 := Aside0.mk hD2
    have HX := Aside0.mk (show (Lit.int .i64 x1).wf = true by simp [Lit.wf, IntKind.min, IntKind.max, IntKind.bits, IntKind.signed]; omega)
    have HGM := Aside0.mk (cells_ne_map hb hM)
    have HGB := Aside0.mk hgm
    subst hrb
    clear hb hR ho hM hD h hgood hF hb2 hR2 hD2 hk h1 h2 hkn hgd hfr hLk hx hy0 hent hgg hgm
    go_enter Try.func14, Try.ntmps14
    go_wp2_with (go_at_call 24; (with_reducible refine HF.out.mono ?_); rintro e w' ⟨gb2, ⟨e1, rfl⟩, rfl⟩; cases e1)
    go_region_law (refine step_delete m n0 D x1 (.tmp 17) (.tmp 21) (by rfl) (by rfl) (by simp [Act.eval, Act.put]) (by simp [Act.eval, Act.put]) HX.out HM2.out.drew ?_; intro w3 HM3 HT3)
    all_goals
      go_wp2
      go_ret
      have hg3 := HT3.out.grown
      have hk3 := Keep.of_grown hg3
      refine ⟨rfl, tabAt_mk HG.out HH.out.bg HH.out.bm (hk3.blk HB2.out (fun e => HGM.out (Option.some.inj e))) (by simp) (lease_keep hk3 HR2.out (fun j hj e => by cases hj; exact HGB.out (Option.some.inj e))) rfl HM3.out (by simp; omega) HD2.out, ?_⟩
      exact ((Keep.set w ⟨gb, k * 3 + 2, none⟩ (.int .i64 0)).mono (fun j _ e => .inr (.inl (congrArg some e)))).drew.then_ hk3 (fun j e => .inl (.inr (.inr (Option.some.inj e))))
  · have hF := findN base g m rb L n w h hn
    unfold endL
    rw [if_pos hn]
    have HF := Aside0.mk hF
    have HH := Aside0.mk h
    clear hF h hn
    go_enter Try.func14, Try.ntmps14
    go_wp2_with (go_at_call 24; (with_reducible refine HF.out.mono ?_); rintro e w' ⟨rfl, rfl⟩)
    go_ret
    exact ⟨rfl, HH.out, Keep.refl _ _⟩
end Go.Proofs.Ytbmpglchifnelaa
