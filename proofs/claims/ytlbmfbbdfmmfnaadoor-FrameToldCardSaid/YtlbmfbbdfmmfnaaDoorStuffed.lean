/- The contracts of frame.runs and frame.Stuff: for all bytes, what Stuff hands back, and that nothing that lay has turned. -/
import Derived.Test.YtlbmfbbdfmmfnaaDoorStuff
namespace Go.Proofs.YtlbmfbbdfmmfnaaDoor
open Go.RowKit Go.Shelf Go.Proofs.YtlbmfbbdfmmfnaaDoorW.PrintWords Go.Proofs.YtlbmfbbdfmmfnaaDoorW.PrintLast Go.Proofs.YtlbmfbbdfmmfnaaDoorW.PrintMore
set_option linter.unusedVariables false
set_option linter.unusedSimpArgs false
attribute [local go_sem] Oper.semAt_some max2_int min2_int max_two min_two max_three min_three max_four min_four

theorem runs_calls (A : Option Addr) (n c : Nat) (w : World) : Calls Tryd.prog 34 #[.slice A n c] w fun e w' => e = .returned (.func (.func 36) #[] #[.pointer (some ⟨w.heap.size, 0, none⟩)]) ∧ w' = w.alloc (.cells #[.slice A n c] 23) := by
  go_enter Tryd.func34, Tryd.ntmps34
  go_wp2
  go_ret
  exact ⟨rfl, rfl⟩

theorem stuffOf_snoc (a : List (List Int)) (r : List Int) : stuffOf (a ++ [r]) = stuffOf a ++ (((r.length : Int) + 1) :: r) := by simp [stuffOf]

theorem stuffOf_le : ∀ (k : Nat) (q : List Int), (stuffOf (runsL k q)).length ≤ 2 * q.length
  | 0, q => by simp [runsL, stuffOf]
  | k + 1, q => by
    by_cases h : q = []
    · subst h; simp [runsL_nil, stuffOf]
    · have hpos : 0 < q.length := List.length_pos_iff.2 h
      have ih := stuffOf_le k (q.drop (cutNext q))
      have hc := cutN_le q
      have hp := cutNext_pos q
      have hd : (q.drop (cutNext q)).length = q.length - cutNext q := List.length_drop
      have hr := run_length q
      have hx : cutN q ≤ cutNext q := by unfold cutNext; split <;> omega
      have e : runsL (k + 1) q = q.take (cutN q) :: runsL k (q.drop (cutNext q)) := by rw [runsL, if_neg h]
      rw [e]
      simp only [stuffOf, List.flatMap_cons, List.length_append, List.length_cons]
      unfold stuffOf at ih
      omega

theorem keeps_own {W w1 : World} {b : Nat} {e : TypeId} {sz k : Nat} {v : Value} {xs : List Value} (hrow : W.ownsRow b e sz v k xs) (hg : W.grownBy w1 v.ownBlock) : KeepsOthers W w1 := by
  refine KeepsOthers.of_grownBy hg fun j o ej hj => ?_
  rcases hrow.2 with ⟨rfl, _⟩ | ⟨g, cap, cur, rfl, _, hgb, _⟩
  · simp [Value.ownBlock] at ej
  · obtain rfl : g = j := by simpa [Value.ownBlock] using ej
    rw [hgb] at hj; cases hj; rfl
theorem own_lower {W : World} {b b' : Nat} {e : TypeId} {sz k : Nat} {v : Value} {xs : List Value} (h : W.ownsRow b e sz v k xs) (hb : b' ≤ b) : W.ownsRow b' e sz v k xs := by
  rcases h with ⟨h1, h2 | ⟨g, cap, cur, h3, h4, h5⟩⟩
  · exact ⟨h1, .inl h2⟩
  · exact ⟨h1, .inr ⟨g, cap, cur, h3, Nat.le_trans hb h4, h5⟩⟩
theorem cells_of_C {W : World} {ad : Addr} {n : Nat} {xs : List Int} (h : Kd.C (Kd.int .u8) W (some ad) n xs) (hn : n = xs.length) : ∀ j u, (nums .u8 xs)[j]? = some u → W.cell? (ad.add j) = some u := by
  intro j u hj
  have h1 := Kd.reads_of_C (enc := Value.int .u8) (d := (0 : Int)) (h1 := fun _ => rfl) h
  have hlt : j < xs.length := by
    have := (List.getElem?_eq_some_iff.1 hj).1
    simpa [nums] using this
  obtain ⟨ad2, e, hc⟩ := h1.2.2 (by omega)
  cases e
  have h2 := hc j (by omega)
  rw [h2]
  simp [nums, List.getElem?_map, hlt] at hj
  rw [← hj]
  simp [List.getD, hlt]

/-- The loop over the runs: the caller's invariant speaks of a base M that the iterator names; what a round is given lies below M. -/
theorem range_runs {n : Nat} {g : Operand} {ps : Array Tmp} {assign body : Code} {Q : Exit → Act → World → Prop} {a : Act} {w : World} (hn : 3 ≤ n) {Bn : Nat} {A0 : Option Addr} {c0 : Nat} {b : List Int}
    (hg : a.eval g = .func (.func 36) #[] #[.pointer (some ⟨Bn, 0, none⟩)]) (hBn : w.cell? ⟨Bn, 0, none⟩ = some (.slice A0 b.length c0)) (hr0 : Kd.C (Kd.int .u8) w A0 b.length b) (hl : b.length + 1 < 140737488355328) (hby : ∀ c ∈ b, 0 ≤ c ∧ c ≤ 255) (hps : ps.size = 1)
    (I : Nat → List Yld → World → Prop)
    (hI0 : ∀ Wa, Below w.heap.size w Wa → I Wa.heap.size [] Wa)
    (hIb : ∀ M pre Wa Wb, I M pre Wa → Below Wa.heap.size Wa Wb → I M pre Wb)
    (hIp : ∀ M pre W l o o', I M pre W → w.heap.size ≤ l → W.heap[l]? = some o → o.isCells = false → o.isWalk = false → I M pre (W.putObj l o'))
    (a₁ : Yld → Act)
    (hassign : ∀ (l : Nat) (x : Yld) (W : World) (K : Act → World → Prop), K (a₁ x) W →
      assign.wpIn (Fence.wide.inRound l) (n - 1 - 1) Tryd.prog (Exit.then K (fun _ _ _ => False)) { tmps := (ps.zip #[x.val]).foldl (fun t (p, v) => t.setIfInBounds p v) a.tmps, defers := [] } W)
    (hbody : ∀ (l M : Nat) (pre : List Yld) (x : Yld) (rest : List (List Int)) (W : World), I M pre W → x.Lies (w.heap.size + 2) M W → runsL (b.length + 1) (b ++ [0]) = pre.map Yld.r ++ x.r :: rest →
      body.wpIn (Fence.wide.inRound l) (n - 1 - 1) Tryd.prog (fun e _ W' => e = .normal ∧ KeepsOthers W W' ∧ I M (pre ++ [x]) W' ∧ W.heap.size ≤ W'.heap.size ∧ ∀ k, w.heap.size + 2 ≤ k → k < M → W'.heap[k]? = W.heap[k]?) (a₁ x) W)
    (hdone : ∀ (D M : Nat) (xs : List Yld) (W : World), w.heap.size ≤ D → xs.map Yld.r = runsL (b.length + 1) (b ++ [0]) → I M xs W → W.heap[D]? = some (.deferred (some [])) → Q .normal { a with defers := { target := .collected D, args := #[] } :: a.defers } W) :
    (Code.rangeFunc g ps assign body).wpIn Fence.wide n Tryd.prog Q a w := by
  refine wpIn_rangeFunc ?_
  intro fn hfn
  obtain ⟨rec, hrec⟩ : ∃ rec : LoopState → Option Code → Loop, rec = fun st pe => { state := st, pending := pe, fn, tmps := a.tmps, params := ps, assign, body, defers := w.heap.size } := ⟨_, rfl⟩
  obtain ⟨W1, hW1⟩ : ∃ W1, (w.alloc (.deferred (some []))).alloc (.loop (rec .ready none)) = W1 := ⟨_, rfl⟩
  have hs1 : W1.heap.size = w.heap.size + 2 := by rw [← hW1]; simp
  have hL1 : W1.heap[w.heap.size + 1]? = some (.loop (rec .ready none)) := by
    rw [← hW1]; have := World.alloc_heap_new (w.alloc (.deferred (some []))) (.loop (rec .ready none)); rwa [World.size_alloc] at this
  have hK1 : W1.heap[w.heap.size]? = some (.deferred (some [])) := by
    rw [← hW1]; exact (Below.heap_alloc _ _ _ (by simp)).trans (World.alloc_heap_new w _)
  have hb1 : Below w.heap.size w W1 := by
    rw [← hW1]; exact ((Below.refl _ w).alloc (Nat.le_refl _) _).alloc (by simp) _
  refine ⟨w.heap.size + 1, [{ target := .collected w.heap.size, args := #[] }], W1, { target := .fn (.func 36) #[.pointer (some ⟨Bn, 0, none⟩)], args := #[.func (.yield (w.heap.size + 1)) #[] #[]] }, W1, 36,
    #[.func (.yield (w.heap.size + 1)) #[] #[], .pointer (some ⟨Bn, 0, none⟩)], W1, ?_, ?_, fun _ _ => trivial, ?_, fun _ => by omega, ?_⟩
  · rw [← hW1, hrec]; exact run_enterLoop_outer _ _ _ _ _
  · simp only [resolve, hg]
    simp [go_sem]
  · simp [invoke, go_sem, enters_of Tryd.func36 (by kernel_rfl) rfl]
  · refine (runs1_in (n - 1) (w.heap.size + 1) Bn A0 c0 b W1 (by omega) ((hb1.cell (World.block_lt_of_cell? w _ hBn)).trans hBn) (Kd.C_below hr0 hb1) hl hby
      (fun M pre W => I M pre W ∧ W.heap[w.heap.size + 1]? = some (.loop (rec .ready none)) ∧ W.heap[w.heap.size]? = some (.deferred (some [])))
      ?_ ?_ ?_).mono ?_
    · intro Wa hb
      have hsz := hb.size
      exact ⟨hI0 Wa (hb1.trans (hb.mono (by omega))), (hb.block _ (by omega)).trans hL1, (hb.block _ (by omega)).trans hK1⟩
    · rintro M pre Wa Wb ⟨hi, h2, h3⟩ hb
      exact ⟨hIb _ _ _ _ hi hb, (hb.block _ (blk_lt h2)).trans h2, (hb.block _ (blk_lt h3)).trans h3⟩
    · rintro M pre x rest W ⟨hi, hl, hk⟩ hlies hruns
      rw [hs1] at hlies
      have hlt : w.heap.size + 1 < W.heap.size := (Array.getElem?_eq_some_iff.1 hl).1
      have hy := run_yield (P := Tryd.prog) (args := #[x.val]) hl (by rw [hrec]; exact hps.symm)
      rw [hrec] at hy
      refine ⟨fn, _, assign, body, hy, roundIn_of_wpIn hfn (hassign _ x W _ ⟨_, run_beginRound hl (by rw [hrec]), ?_⟩)⟩
      obtain ⟨W2, hW2⟩ : ∃ W2, W.putObj (w.heap.size + 1) (.loop { rec .ready none with state := .busy }) = W2 := ⟨_, rfl⟩
      have hl2 : W2.heap[w.heap.size + 1]? = some (.loop { rec .ready none with state := .busy }) := by rw [← hW2]; exact World.putObj_heap_same hlt
      have hk2 : W2.heap[w.heap.size]? = some (.deferred (some [])) := by rw [← hW2]; exact (World.putObj_heap_other (by omega)).trans hk
      have ho2 : ∀ k, w.heap.size + 2 ≤ k → W2.heap[k]? = W.heap[k]? := fun k hk => by rw [← hW2]; exact World.putObj_heap_other (by omega)
      have hs2 : W2.heap.size = W.heap.size := by rw [← hW2]; simp
      have hlies2 : x.Lies (w.heap.size + 2) M W2 := by
        obtain ⟨h1, h2, h3, ad, h4, h5, h6⟩ := hlies
        rw [h4] at h1
        exact ⟨by rw [h4]; exact C_keep h1 rfl (ho2 _ h5), h2, h3, ad, h4, h5, h6⟩
      have hi2 : I M pre W2 := by rw [← hW2]; exact hIp _ _ _ _ _ _ hi (by omega) hl rfl rfl
      rw [hW2]
      refine wpIn_mono (hbody _ M pre x rest W2 hi2 hlies2 hruns) ?_
      rintro e a3 W3 ⟨rfl, hk3, hi3, hsz3, hm3⟩
      have hl3 := hk3.same _ _ hl2 rfl
      have hr := run_endRound (P := Tryd.prog) none hl3
      refine ⟨_, _, hr, rfl, ⟨hIp _ _ _ _ _ _ hi3 (by omega) hl3 rfl rfl, ?_, ?_⟩, ?_, ?_⟩
      · rw [hrec]; exact World.putObj_heap_same (Array.getElem?_eq_some_iff.1 hl3).1
      · exact (World.putObj_heap_other (by omega)).trans (hk3.same _ _ hk2 rfl)
      · simp; omega
      · intro k hk1 hk2'
        rw [hs1] at hk1
        exact (World.putObj_heap_other (by omega)).trans ((hm3 k hk1 hk2').trans (ho2 k hk1))
    · rintro e W2 ⟨⟨v, rfl⟩, M, xs, hxs, hi, hl, hk⟩
      exact ⟨none, _, by have := run_endLoop (P := Tryd.prog) hl (by rw [hrec]; simp); rw [hrec] at this; exact this, hdone _ M xs _ (Nat.le_refl _) hxs (hIp _ _ _ _ _ _ hi (by omega) hl rfl rfl) ((World.putObj_heap_other (by omega)).trans hk)⟩

/-- The caller's rounds: the box of out, the row that it owns beyond M. -/
def StuffJ (wS : World) (M : Nat) (pre : List Yld) (W : World) : Prop :=
  (∃ v, Boxed W wS.heap.size 23 v ∧ W.ownsRow M 5 1 v (stuffOf (pre.map Yld.r)).length (nums .u8 (stuffOf (pre.map Yld.r)))) ∧
  Below wS.heap.size wS W ∧ wS.heap.size + 2 ≤ M ∧ M ≤ W.heap.size

theorem StuffJ.below {wS : World} {M : Nat} {pre : List Yld} {Wa Wb : World} (h : StuffJ wS M pre Wa) (hb : Below Wa.heap.size Wa Wb) : StuffJ wS M pre Wb := by
  obtain ⟨⟨v, h1, h2⟩, h5, h6, h7⟩ := h
  have hs := hb.size
  exact ⟨⟨v, (hb.block _ (blk_lt h1)).trans h1, pw_own_below h2 hb⟩, below_then h5 h5.size hb, h6, by omega⟩

set_option maxHeartbeats 2000000 in
set_option maxRecDepth 100000 in
theorem stuff_in (A0 : Option Addr) (c0 : Nat) (b : List Int) (w : World) (hr0 : Kd.C (Kd.int .u8) w A0 b.length b) (hl : b.length < 1000000) (hby : ∀ c ∈ b, 0 ≤ c ∧ c ≤ 255) :
    CallsIn Fence.wide 8 Tryd.prog 30 #[.slice A0 b.length c0] w fun e w' => ∃ v, e = .returned v ∧ w'.ownsRow w.heap.size 5 1 v (stuffed b).length (nums .u8 (stuffed b)) ∧ Below w.heap.size w w' := by
  obtain ⟨i0, hi, hz0, hz1, hz2⟩ := info_parts byteInfo
  refine callsIn_of_wp_marks Tryd.func30 rfl trivial ?_ rfl
  simp only [Tryd.ntmps30, List.size_toArray, List.length_cons, List.length_nil, Nat.reduceAdd, Nat.reduceSub, Array.replicate_succ, Array.replicate_zero, List.push_toArray, List.append_toArray, List.nil_append, List.cons_append]
  gi_wp2
  refine ⟨trivial, ((callsIn_wide (n := 7)).2 (runs_calls _ _ _ _)).mono ?_⟩
  rintro e w' ⟨rfl, rfl⟩
  gi_wp2
  refine range_runs (by omega) (Bn := w.heap.size + 1) (A0 := A0) (c0 := c0) (b := b) rfl ?box ?rows (by omega) hby rfl (fun M pre W => StuffJ w M pre W) ?i0 (fun M pre Wa Wb h hb => h.below hb) ?ip
    (fun x => { tmps := #[.slice A0 b.length c0, undef, .slice none 0 0, .pointer (some ⟨w.heap.size, 0, none⟩), x.val, .slice A0 b.length c0, .func (.func 36) #[] #[.pointer (some ⟨w.heap.size + 1, 0, none⟩)], x.val, undef, undef, undef, undef, undef, undef, undef, undef, undef, undef], defers := [] }) ?assign ?body ?done
  case box =>
    have h := (Boxed.new (w.alloc (.cells #[.slice none 0 0] 23)) 23 (.slice A0 b.length c0)).cell
    rwa [World.size_alloc] at h
  case rows => exact Kd.C_below hr0 (((Below.refl _ w).alloc (Nat.le_refl _) _).alloc (by simp) _)
  case i0 =>
    intro Wa hb
    have hs := hb.size
    simp only [World.size_alloc] at hs hb
    have h0 : Below w.heap.size w ((w.alloc (.cells #[.slice none 0 0] 23)).alloc (.cells #[.slice A0 b.length c0] 23)) := ((Below.refl _ w).alloc (Nat.le_refl _) _).alloc (by simp) _
    have hbx := (Boxed.new w 23 (.slice none 0 0)).alloc (.cells #[.slice A0 b.length c0] 23)
    exact ⟨⟨_, (hb.block _ (by omega)).trans hbx, own_nil _ _ _ _⟩, h0.trans (hb.mono (by omega)), by omega, Nat.le_refl _⟩
  case ip =>
    rintro M pre W l o o' ⟨⟨v, hv, hrow⟩, hB, hM1, hM2⟩ hl ho hcells hwalk
    simp only [World.size_alloc] at hl
    exact ⟨⟨v, (World.putObj_heap_other (by omega)).trans hv, ownsRow_putObj hrow _ ho hcells⟩, hB.trans (belowK_b (w := w) (Nat.le_refl _) W l _ _ (by omega) ho hcells hwalk), hM1, by simp; omega⟩
  case assign =>
    intro l x W K hK
    gi_wp2
    exact hK
  case body =>
    rintro l M pre x rest W ⟨⟨v, hv, hrow⟩, hB, hM1, hM2⟩ hlies hruns
    have hc := hv.cell
    obtain ⟨A, c, r⟩ := x
    obtain ⟨hC, hrc, hr254, ad, rfl, had1, had2⟩ := hlies
    simp only [World.size_alloc, Nat.add_assoc, Nat.reduceAdd] at had1
    dsimp only at hC hrc hr254 had2 hruns
    have hlen := stuffOf_le (b.length + 1) (b ++ [0])
    rw [hruns] at hlen
    have hlen2 : (stuffOf (pre.map Yld.r)).length + (r.length + 1) ≤ 2 * (b.length + 1) := by
      simp [stuffOf] at hlen ⊢; omega
    dsimp only [Yld.val]
    gi_wp2_with (first
      | (gi_at_builtin; refine wpListIn_append_own _ rfl (.tmp 8) (.tmp 13) 23 rfl M 5 i0 (.int .u8 0) 1 1 Tryd.underlying23 hi hz0 hz1 hz2 rfl (by decide) _ _ _ rfl (hrow.alloc _) ⟨W.heap.size, 0, none⟩ 1 1 [.int .u8 ((r.length : Int) + 1)] rfl rfl (cell_one_new _ _ _) (by simp [Value.oneCell']) (by unfold maxLen; omega) (by omega) (by simp; omega) ?_; intro v1 w1 hown1 hgrow1 _; have hv1 := (hv.alloc _).kept hgrow1 (hv.not_row (by decide) hrow); have hkeep1 := (KeepsOthers.alloc W _).trans (keeps_own (hrow.alloc _) hgrow1); have hBM1 := (((Below.refl M W).alloc hM2 _).grown hgrow1 (by simp; omega) (own_base hrow)); have hC1 := C_keep hC rfl (hBM1.block _ had2); clear hgrow1; obtain ⟨Av1, cv1, ev1⟩ := own_slice hown1; subst ev1)
      | (gi_at_builtin; refine wpListIn_append_own _ rfl (.tmp 14) (.tmp 15) 23 rfl M 5 i0 (.int .u8 0) 1 1 Tryd.underlying23 hi hz0 hz1 hz2 rfl (by decide) _ _ _ rfl hown1 ad r.length c (nums .u8 r) rfl (by simp [nums]) (cells_of_C hC1 rfl) (by simp [nums, Value.oneCell']) (by unfold maxLen; omega) (by omega) (by have := hBM1.size; omega) ?_; intro v2 w2 hown2 hgrow2 _; have hv2 := hv1.kept hgrow2 (hv1.not_row (by decide) hown1); have hkeep2 := hkeep1.trans (keeps_own hown1 hgrow2); have hBM2 := hBM1.grown hgrow2 (by have := hBM1.size; omega) (own_base hown1); clear hgrow2; obtain ⟨Av2, cv2, ev2⟩ := own_slice hown2; subst ev2; have hc2 := hv2.cell; have hf2 := hv2.frozen))
    have e : stuffOf ((pre ++ [(⟨some ad, c, r⟩ : Yld)]).map Yld.r) = stuffOf (pre.map Yld.r) ++ (((r.length : Int) + 1) :: r) := by simp [stuffOf_snoc]
    have e2 : nums .u8 (stuffOf (pre.map Yld.r) ++ (((r.length : Int) + 1) :: r)) = nums .u8 (stuffOf (pre.map Yld.r)) ++ [.int .u8 ((r.length : Int) + 1)] ++ nums .u8 r := by simp [nums]
    have hbelow := (hBM2.mono (show w.heap.size ≤ M by omega)).setCell (p := ⟨w.heap.size, 0, none⟩) (Nat.le_refl _) (.slice Av2 ((stuffOf (pre.map Yld.r)).length + 1 + r.length) cv2)
    refine ⟨hkeep2.trans (KeepsOthers.setCell _ _ _), ⟨⟨_, hv2.set _, ?_⟩, hB.trans hbelow, hM1, ?_⟩, ?_, ?_⟩
    · rw [e, e2, show (stuffOf (pre.map Yld.r) ++ (((r.length : Int) + 1) :: r)).length = (stuffOf (pre.map Yld.r)).length + 1 + r.length by simp; omega]
      exact hown2.kept (grownBy_setCell' w2 w.heap.size _) (.inr (hv2.not_row (by decide) hown2).symm)
    · have := hBM2.size; simp; omega
    · have := hBM2.size; simpa using this
    · intro k hk1 hk2
      exact (Below.heap_setCell w2 _ _ k (by show k ≠ w.heap.size; omega)).trans (hBM2.block k hk2)
  case done =>
    rintro D M xs W hD hxs ⟨⟨v, hv, hrow⟩, hB, hM1, hM2⟩ hK
    have hc := hv.cell
    gi_wp2
    refine ⟨by simp, .inl ⟨_, _, rfl, run_takeDeferred hK, ?_⟩⟩
    have e : stuffOf (xs.map Yld.r) = stuffed b := by rw [hxs]; rfl
    rw [e] at hrow
    exact ⟨_, results_tmp rfl _ _ _, v, rfl, ownsRow_putObj (own_lower hrow (by omega)) _ hK rfl, hB.trans (belowK_b (w := w) (Nat.le_refl _) W D _ _ (by simp at hD; omega) hK rfl rfl)⟩
end Go.Proofs.YtlbmfbbdfmmfnaaDoor
