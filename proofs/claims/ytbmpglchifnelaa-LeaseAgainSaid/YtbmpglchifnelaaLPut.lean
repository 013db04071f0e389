/- The contracts of the program's table of leases: within, New, put, find. -/
import Derived.Test.YtbmpglchifnelaaLTab
import Derived.RegionTactic
import Derived.Deep.RegionLaw
import Derived.BigQuiet
import Derived.Deep.QuietTactic
import Derived.Carry
namespace Go.Proofs.Ytbmpglchifnelaa
open Go.RowKit Go.Maps Go.Proofs.YtbmpglchifnelaaW.PrintWords Go.Proofs.YtbmpglchifnelaaW.PrintLast Go.Proofs.YtbmpglchifnelaaW.PrintMore
set_option linter.unusedVariables false
set_option linter.unusedSimpArgs false
attribute [local go_sem] Oper.semAt_some max2_int min2_int max_two min_two max_three min_three max_four min_four

theorem within_true (n lo hi : Int) (w : World) (h : lo ≤ n ∧ n ≤ hi) : Calls Try.prog 22 #[.int .i64 n, .int .i64 lo, .int .i64 hi] w fun e w' => e = .returned (.bool true) ∧ w = w' := by
  obtain ⟨h1, h2⟩ := h
  go_enter Try.func22, Try.ntmps22
  go_wp2
  go_ret
  exact ⟨rfl, rfl⟩
theorem within_false (n lo hi : Int) (w : World) (h : ¬ (lo ≤ n ∧ n ≤ hi)) : Calls Try.prog 22 #[.int .i64 n, .int .i64 lo, .int .i64 hi] w fun e w' => e = .returned (.bool false) ∧ w = w' := by
  by_cases h1 : lo ≤ n
  · have h2 : decide (n ≤ hi) = false := by simp; omega
    clear h
    go_enter Try.func22, Try.ntmps22
    go_wp2
    go_ret
    exact ⟨rfl, rfl⟩
  · have h2 : decide (lo ≤ n) = false := by simp; omega
    clear h h1
    go_enter Try.func22, Try.ntmps22
    go_wp2
    go_ret
    exact ⟨rfl, rfl⟩
set_option maxHeartbeats 1000000 in
theorem new_calls (w : World) : Calls Try.prog 10 #[] w fun e w' => ∃ g m, e = .returned (.pointer (some ⟨g, 0, none⟩)) ∧ TabAt w' w.heap.size g none m [] ∧ Below w.heap.size w w' := by
  have hmm := @run_makeMap Try.prog
  go_enter Try.func10, Try.ntmps10
  go_wp2
  go_ret
  refine ⟨_, w.heap.size, rfl, ⟨Good.nil, by omega, Nat.le_refl _, none, 0, 0, .map [], by have h := blk_new (w.alloc (.map #[] 0)) (.cells #[.slice none 0 0, .map (some w.heap.size)] 60); simpa using h, Kd.R_nil _ _ _ _ _, rfl, (World.ownsMap_made w Try.prog 3 (plainElem Try.prog 3)).alloc _, Nat.le_refl _, mapIs_nil⟩, below_alloc (below_alloc (Below.refl _ _) _) _⟩
/-- t.all = append(t.all, x), as one step of a region: what it leaves of the table. -/
theorem step_all {ops : Array Oper} {o : Oper} {a : Act} {K : Act → World → Prop} {Q : Exit → Act → World → Prop} {E : Prop} (wr : World) (g base m : Nat) (A : Option Addr) (c : Nat) (L : List L3) (x0 x1 x2 : Int)
    (hg : wr.heap[g]? = some (.cells #[.slice A L.length c, .map (some m)] 60 (0, 0))) (hR : leaseK.R 27 wr base (fun _ => True) (.slice A L.length c) L) (hbase : base ≤ wr.heap.size) (hl : L.length < 20000)
    (hgd : o.guard = none) (ho : o.op = .call { callee := .builtin .append, args := #[.tmp 8, .tmp 10], argTypes := #[38, 38] })
    (hs : a.eval (.tmp 8) = .slice A L.length c) (hx : a.eval (.tmp 10) = .slice (some ⟨wr.heap.size, 0, none⟩) 1 1)
    (h : ∀ Av cv w1, Aside0 (leaseK.R 27 w1 base (fun _ => True) (.slice Av (L.length + 1) cv) (L ++ [(x0, x1, x2)])) → Aside0 (wr.grownBy w1 (Value.slice A L.length c).ownBlock) → Aside0 ((Value.slice Av (L.length + 1) cv).ownBlock = (Value.slice A L.length c).ownBlock ∨ ∀ k, (Value.slice Av (L.length + 1) cv).ownBlock = some k → wr.heap.size ≤ k) →
      K (a.put o.dst (.slice Av (L.length + 1) cv)) w1) :
    if Region.wanted o (yielded ops a.tmps) = true then Oper.wp Try.prog o a ((wr.alloc (.cells #[.int .i64 x0, .int .i64 x1, .int .i64 x2] 27)).drew) K Q else E := by
  have es := size_after wr (.cells #[.int .i64 x0, .int .i64 x1, .int .i64 x2] 27)
  refine step_append_K leaseK base hgd (.tmp 8) (.tmp 10) 38 27 (.agg #[.int .i64 0, .int .i64 0, .int .i64 0]) 24 ho Try.underlying38 leaseInfo rfl (by decide) (by omega) (.slice A L.length c) L (x0, x1, x2) (cells3 (x0, x1, x2)) (fun _ => True) (fun _ => False) ⟨wr.heap.size, 0, none⟩ 1 hs hx (news_new wr (cells3 (x0, x1, x2)) 27) (lease_M _ _ _ _) (fun _ hk => hk.elim) (fun _ _ => trivial) (Kd.R_drew (Kd.R_alloc hR _)) (by omega) (by omega) ?_
  intro v1 w1 ho hgr hat
  obtain ⟨Av1, cv1, ev1⟩ := Kd.R_slice ho
  rw [List.length_append, List.length_singleton] at ev1
  subst ev1
  refine h Av1 cv1 w1 ⟨ho⟩ ⟨grown_after _ hgr⟩ ⟨?_⟩
  rcases hat with hat | ⟨b, hb, hle⟩
  · exact .inl hat
  · exact .inr (fun k hk => by rw [hk] at hb; cases hb; omega)
set_option maxHeartbeats 2000000 in
set_option maxRecDepth 100000 in
theorem put_calls (base g m : Nat) (rb : Option Nat) (L : List L3) (d u : Int) (w : World) (h : TabAt w base g rb m L) (hbase : base ≤ w.heap.size) (hl : L.length < 20000) (hd : okDev d) (hu : 0 ≤ u ∧ u ≤ 1099512676352) (hn : 0 < u → ofL L d = none) :
    Calls Try.prog 23 #[.pointer (some ⟨g, 0, none⟩), .agg #[.int .i64 ((L.length : Int) + 1), .int .i64 d, .int .i64 u]] w fun e w' => e = .returned (.tuple #[]) ∧ ∃ rb', TabAt w' base g rb' m (L ++ [((L.length : Int) + 1, d, u)]) ∧ Anew w rb rb' ∧ Keep w w' (tabS g rb m) := by
  obtain ⟨A, c, n, D, hb, hR, ho, hM, hnl, hD⟩ := h.ex
  have hgood := h.good.append (d := d) (u := u) hl hd hu hn
  have hs1 : (w.alloc (.cells #[.int .i64 ((L.length : Int) + 1), .int .i64 d, .int .i64 u] 27)).heap.size = w.heap.size + 1 := by simp
  have hb1 : (w.alloc (.cells #[.int .i64 ((L.length : Int) + 1), .int .i64 d, .int .i64 u] 27)).heap[g]? = some (.cells #[.slice A L.length c, .map (some m)] 60 (0, 0)) := blk_alloc hb _
  have HB1 := Aside0.mk hb1
  have HR1 := Aside0.mk (Kd.R_alloc hR (.cells #[.int .i64 ((L.length : Int) + 1), .int .i64 d, .int .i64 u] 27))
  have HM1 := Aside0.mk (hM.alloc (.cells #[.int .i64 ((L.length : Int) + 1), .int .i64 d, .int .i64 u] 27))
  have HX1 := Aside0.mk (show (w.alloc (.cells #[.int .i64 ((L.length : Int) + 1), .int .i64 d, .int .i64 u] 27)).heap[w.heap.size]? = some (.cells #[.int .i64 ((L.length : Int) + 1), .int .i64 d, .int .i64 u] 27 (0, 0)) from blk_new _ _)
  have hbs1 : base ≤ (w.alloc (.cells #[.int .i64 ((L.length : Int) + 1), .int .i64 d, .int .i64 u] 27)).heap.size := by omega
  have HGL := Aside0.mk (blk_lt hb)
  have HRG := Aside0.mk (R_ne_blk hR hb (by decide))
  have HRM := Aside0.mk (R_ne_map hR hM)
  have HGM := Aside0.mk (cells_ne_map hb hM)
  have HML := Aside0.mk hM.lt
  have HRL := Aside0.mk (Kd.R_lt hR)
  have HO := Aside0.mk ho
  have HD := Aside0.mk hD
  have HH := Aside0.mk h
  have HGOOD := Aside0.mk hgood
  have HN := Aside0.mk hn
  have HS1 := Aside0.mk hs1
  have hca : (w.alloc (.cells #[.int .i64 ((L.length : Int) + 1), .int .i64 d, .int .i64 u] 27)).cell? ⟨g, 0, none⟩ = some (.slice A L.length c) := (blk_cell hb1 0).trans rfl
  have hca2 : ((w.alloc (.cells #[.int .i64 ((L.length : Int) + 1), .int .i64 d, .int .i64 u] 27)).alloc (.cells #[.int .i64 ((L.length : Int) + 1), .int .i64 d, .int .i64 u] 27)).cell? ⟨g, 0, none⟩ = some (.slice A L.length c) := (blk_cell (blk_alloc hb1 _) 0).trans rfl
  have hkd : (Lit.int .i64 d).wf = true := by obtain ⟨h1, h2⟩ := hd; simp [Lit.wf, IntKind.min, IntKind.max, IntKind.bits, IntKind.signed]; omega
  have hkn : (Lit.int .i64 ((L.length : Int) + 1)).wf = true := by simp [Lit.wf, IntKind.min, IntKind.max, IntKind.bits, IntKind.signed]; omega
  have HKD := Aside0.mk hkd
  have HKN := Aside0.mk hkn
  clear hb hR ho hM hb1 hs1 hD hgood hn hkd hkn h
  go_enter Try.func23, Try.ntmps23
  go_wp2
  go_region_law (refine step_all (w.alloc (.cells #[.int .i64 ((L.length : Int) + 1), .int .i64 d, .int .i64 u] 27)) g base m A c L ((L.length : Int) + 1) d u HB1.out HR1.out hbs1 hl (by rfl) (by rfl) (by simp [Act.eval, Act.put]) (by simp [Act.eval, Act.put]) ?_; intro Av cv w2 HR2 HG2 HAT2; have hc2 : w2.cell? ⟨g, 0, none⟩ = some (.slice A L.length c) := (blk_cell ((HG2.out.block g (blk_lt HB1.out) (fun e => HRG.out e.symm)).trans HB1.out) 0).trans rfl; have hf2 : w2.frozen? ⟨g, 0, none⟩ = false := blk_frozen ((HG2.out.block g (blk_lt HB1.out) (fun e => HRG.out e.symm)).trans HB1.out) 0)
  all_goals
    have hb2 : w2.heap[g]? = some (.cells #[.slice A L.length c, .map (some m)] 60 (0, 0)) := (HG2.out.block g (blk_lt HB1.out) (fun e => HRG.out e.symm)).trans HB1.out
    have hx2 : w2.heap[w.heap.size]? = some (.cells #[.int .i64 ((L.length : Int) + 1), .int .i64 d, .int .i64 u] 27 (0, 0)) := (HG2.out.block w.heap.size (blk_lt HX1.out) (fun e => by have := HRL.out _ e.symm; omega)).trans HX1.out
    have hM2 := HM1.out.kept HG2.out (fun e => HRM.out e.symm)
    have hb3 : (w2.setCell ⟨g, 0, none⟩ (.slice Av (L.length + 1) cv)).heap[g]? = some (.cells #[.slice Av (L.length + 1) cv, .map (some m)] 60 (0, 0)) := by simpa using blk_set hb2 0 (.slice Av (L.length + 1) cv)
    have hx3 : (w2.setCell ⟨g, 0, none⟩ (.slice Av (L.length + 1) cv)).heap[w.heap.size]? = some (.cells #[.int .i64 ((L.length : Int) + 1), .int .i64 d, .int .i64 u] 27 (0, 0)) := blk_far hx2 (by have := HGL.out; simp; omega) _
    have hM3 : (w2.setCell ⟨g, 0, none⟩ (.slice Av (L.length + 1) cv)).ownsMap Try.prog 3 (plainElem Try.prog 3) m n D := hM2.setCell (a := ⟨g, 0, none⟩) (fun e => HGM.out e.symm) _
    have hR3 : leaseK.R 27 (w2.setCell ⟨g, 0, none⟩ (.slice Av (L.length + 1) cv)) base (fun _ => True) (.slice Av (L.length + 1) cv) (L ++ [((L.length : Int) + 1, d, u)]) := lease_keep (Keep.set w2 ⟨g, 0, none⟩ _) HR2.out (fun k hk e => R_ne_blk HR2.out hb2 (by decide) (by rw [hk]; exact congrArg some e))
    have hy0 : (w2.setCell ⟨g, 0, none⟩ (.slice Av (L.length + 1) cv)).cell? ⟨w.heap.size, 0, none⟩ = some (.int .i64 ((L.length : Int) + 1)) := (blk_cell hx3 0).trans rfl
    have hy1 : (w2.setCell ⟨g, 0, none⟩ (.slice Av (L.length + 1) cv)).cell? ⟨w.heap.size, 1, none⟩ = some (.int .i64 d) := (blk_cell hx3 1).trans rfl
    have hy2 : (w2.setCell ⟨g, 0, none⟩ (.slice Av (L.length + 1) cv)).cell? ⟨w.heap.size, 2, none⟩ = some (.int .i64 u) := (blk_cell hx3 2).trans rfl
    have hy3 : (w2.setCell ⟨g, 0, none⟩ (.slice Av (L.length + 1) cv)).cell? ⟨g, 1, none⟩ = some (.map (some m)) := (blk_cell hb3 1).trans rfl
    have hk3 : Keep w (w2.setCell ⟨g, 0, none⟩ (.slice Av (L.length + 1) cv)) (tabS g rb m) := by
      have h1 : Keep w w2 (fun k => some k = (Value.slice A L.length c).ownBlock) := (Keep.of_below (below_alloc (Below.refl _ _) (.cells #[.int .i64 ((L.length : Int) + 1), .int .i64 d, .int .i64 u] 27)) (fun k => some k = (Value.slice A L.length c).ownBlock)).then_ (Keep.of_grown HG2.out) (fun k e => .inl e)
      refine (h1.mono (fun k _ e => .inr (.inl (e.trans HO.out)))).then_ (Keep.set w2 ⟨g, 0, none⟩ _) (fun k e => .inl (.inl e))
    have HB3 := Aside0.mk hb3
    have HM3 := Aside0.mk hM3
    have HR3 := Aside0.mk hR3
    have HK3 := Aside0.mk hk3
    have HAN := Aside0.mk (show Anew w rb (Value.slice Av (L.length + 1) cv).ownBlock from by
      rcases HAT2.out with e | e
      · exact .inl (e.trans HO.out)
      · exact .inr (fun k hk => by have := e k hk; have := HS1.out; omega))
    clear hb2 hx2 hM2 hb3 hx3 hM3 hR3 hk3
    by_cases h0 : 0 < u
    · have h0d : decide ((0 : Int) < u) = true := by simpa using h0
      have HIM := Aside0.mk HM3.out.isMap
      obtain ⟨w4, hrun, hM4, hturn⟩ := World.ownsMap.store (w := (w2.setCell ⟨g, 0, none⟩ (.slice Av (L.length + 1) cv)).drew) (e := 3) (HM3.out.drew) keyed3 Try.underlying46 (by unfold maxLen; omega) (keyOf_int_mk Try.underlying3 HKD.out) (plainElem_int Try.underlying3 HKN.out)
      have HM4 := Aside0.mk hM4
      have HTU := Aside0.mk hturn
      have HP := Aside0.mk (mapIs_put HIM.out HD.out ((L.length : Int) + 1, d, u) (HN.out h0) h0)
      clear hM4 hturn
      go_wp2
      go_region
      all_goals
        go_wp2
        go_end0
        have hg4 := HTU.out.grown
        have hk4 := Keep.of_grown hg4
        refine ⟨rfl, _, tabAt_mk HGOOD.out HH.out.bg HH.out.bm (hk4.blk HB3.out (fun e => HGM.out (Option.some.inj e))) (by simp) (lease_keep hk4 HR3.out (fun k hk e => R_ne_map HR3.out HM3.out (hk.trans e))) rfl HM4.out (by simp; omega) HP.out, HAN.out, HK3.out.drew.then_ hk4 (fun k e => .inl (.inr (.inr (Option.some.inj e))))⟩
    · have h0d : decide ((0 : Int) < u) = false := by simpa using h0
      go_wp2
      go_end0
      exact ⟨rfl, _, tabAt_mk HGOOD.out HH.out.bg HH.out.bm HB3.out (by simp) HR3.out rfl HM3.out (by simp; omega) (mapIs_ended HD.out _ (show ¬ (0 : Int) < u by omega)), HAN.out, HK3.out⟩
end Go.Proofs.Ytbmpglchifnelaa
