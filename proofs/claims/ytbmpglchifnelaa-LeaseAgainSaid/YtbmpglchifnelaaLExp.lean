/- The contracts of the program's All, Expire. -/
import Derived.Test.YtbmpglchifnelaaLRenew
namespace Go.Proofs.Ytbmpglchifnelaa
open Go.RowKit Go.Maps Go.Proofs.YtbmpglchifnelaaW.PrintWords Go.Proofs.YtbmpglchifnelaaW.PrintLast Go.Proofs.YtbmpglchifnelaaW.PrintMore
set_option linter.unusedVariables false
set_option linter.unusedSimpArgs false
attribute [local go_sem] Oper.semAt_some max2_int min2_int max_two min_two max_three min_three max_four min_four

set_option maxHeartbeats 800000 in
set_option maxRecDepth 100000 in
/-- slices.Clone at leases. -/
theorem clone3_calls (A0 : Option Addr) (c0 : Nat) (l0 : List L3) (w : World) (hr0 : leaseK.C w A0 l0.length l0) (hl : l0.length ≤ 20000) :
    Calls Try.prog 25 #[.slice A0 l0.length c0] w fun e w' => ∃ v0_ : Value, e = .returned (v0_) ∧ leaseK.R 27 w' w.heap.size (fun _ => True) v0_ l0 ∧ Below w.heap.size w w' := by
  cases A0 with
  | none =>
    obtain rfl : l0 = [] := by
      apply List.eq_nil_of_length_eq_zero
      rcases Nat.eq_zero_or_pos l0.length with h | h
      · exact h
      · obtain ⟨ad, h, _⟩ := hr0.2.2 h
        cases h
    have he := fun W => Lib.run_eql_slice_nil (P := Try.prog) (w := W) (t := 38) (e := 27) (a := none) (n := 0) (c := c0) (n' := 0) (c' := 0) Try.underlying38
    clear hr0
    go_enter Try.func25, Try.ntmps25
    go_wp2
    go_ret
    exact ⟨_, rfl, Kd.R_nil _ _ _ _ _, Below.refl _ _⟩
  | some ad =>
    have he := fun W => Lib.run_eql_slice_nil (P := Try.prog) (w := W) (t := 38) (e := 27) (a := some ad) (n := l0.length) (c := c0) (n' := 0) (c' := 0) Try.underlying38
    simp only [Option.isNone_some] at he
    have HR0 := Aside0.mk hr0
    have HB := Aside0.mk (Below.refl w.heap.size w)
    clear hr0
    go_enter Try.func25, Try.ntmps25
    go_wp2_with (first
      | ((with_reducible refine gate_dst (N := 5) rfl ?_); refine Kd.R_lit leaseK _ 27 ?hg (N := 5) ?hd (xs := ([] : List L3)) (inner := []) (ok := fun _ => True) (okp := fun _ => True) ?hr ?hp (fun _ hk => hk) trivial (Below.refl _ _) (Nat.le_refl _) (by simp) ?_; (case hd => rfl); (case hg => rfl); (case hr => first | (go_simp; done) | (go_simp; rfl)); (case hp => exact (Reps.none _ _)); intro v145 w9 ho10 hb hg_ hnew_; clear hg_ hnew_; have n0_ := Aside0.mk (Kd.R_lower ho10 (below_size HB.out)); have n1_ := Aside0.mk (below_step HB.out hb); clear HB; have HO1 := n0_; have HB := n1_; clear n0_ n1_; clear hb ho10; obtain ⟨Av1, cv1, ev1⟩ := Kd.R_slice HO1.out; subst ev1)
      | ((with_reducible refine gate_builtin (b := .append) (xs := #[.tmp 5, .tmp 6]) rfl ?_); at_builtin; refine Kd.R_append_rows leaseK (Rr := fun x cs => cs = cells3 x) (w0 := w) w.heap.size rfl (.tmp 5) (.tmp 6) 38 27 (.agg #[.int .i64 0, .int .i64 0, .int .i64 0]) 24 rfl Try.underlying38 leaseInfo rfl (by decide) (by omega) _ [] l0 _ _ _ (fun _ => True) (fun _ => False) rfl rfl HO1.out (ReadsRow.imp_ HR0.out HB.out (fun p cs hp => lease_K hp)) (fun x cs h => by rw [h]; exact lease_M _ _ _ x) (fun _ h => h.elim) (fun _ _ => trivial) HB.out HB.out.size (by simp; omega) ?_; intro v2 w2 ho hb hg hat; have HO2 := Aside0.mk ho; clear HB HO1; have HB := Aside0.mk hb; clear ho hb hg hat))
    go_ret
    exact ⟨_, rfl, by have h := HO2.out; rw [List.nil_append] at h; exact Kd.R_mono h (fun _ _ => trivial), HB.out⟩
/-- All. -/
theorem all_calls (base g m : Nat) (rb : Option Nat) (L : List L3) (w : World) (h : TabAt w base g rb m L) :
    Calls Try.prog 16 #[.pointer (some ⟨g, 0, none⟩)] w fun e w' => ∃ v0_ : Value, e = .returned v0_ ∧ leaseK.R 27 w' w.heap.size (fun _ => True) v0_ L ∧ Below w.heap.size w w' := by
  obtain ⟨A, c, n, D, hb, hR, ho, hM, hnl, hD⟩ := h.ex
  have hca : w.cell? ⟨g, 0, none⟩ = some (.slice A L.length c) := (blk_cell hb 0).trans rfl
  have H1 := Aside0.mk (clone3_calls A c L w (Kd.R_reads' hR).2.2 h.good.len)
  clear hb hR ho hM hnl hD h
  go_enter Try.func16, Try.ntmps16
  go_wp2_with (go_at_call 25; refine H1.out.mono ?_; rintro e w' ⟨v, rfl, hr, hb⟩; have HR := Aside0.mk hr; have HB := Aside0.mk hb; clear hr hb)
  go_ret
  exact ⟨_, rfl, HR.out, HB.out⟩
/-- The table's row is where it was. -/
theorem tab_cell {w : World} {base g m gb : Nat} {L : List L3} (h : TabAt w base g (some gb) m L) (i : Nat) (hi : i < L.length) : w.cell? ⟨gb, i * 3, none⟩ = some (.int .i64 (L.getD i z3).1) ∧ w.cell? ⟨gb, i * 3 + 1, none⟩ = some (.int .i64 (L.getD i z3).2.1) ∧ w.cell? ⟨gb, i * 3 + 2, none⟩ = some (.int .i64 (L.getD i z3).2.2) := by
  obtain ⟨A, c, n, D, hb, hR, ho, hM, hnl, hD⟩ := h.ex
  obtain ⟨g2, e, _, h0, h1, h2, _⟩ := lease_cell hR i hi
  subst e
  have e2 : g2 = gb := Option.some.inj ho
  subst e2
  exact ⟨h0, h1, h2⟩
set_option maxHeartbeats 2000000 in
set_option maxRecDepth 100000 in
theorem expire_calls (base g m : Nat) (rb : Option Nat) (L : List L3) (now : Int) (w : World) (h : TabAt w base g rb m L) :
    Calls Try.prog 17 #[.pointer (some ⟨g, 0, none⟩), .int .i64 now] w fun e w' => ∃ v, e = .returned (.tuple #[v, .int .i64 (expireL L now).2.2]) ∧ leaseK.R 27 w' w.heap.size (fun _ => True) v (expireL L now).2.1 ∧ TabAt w' base g rb m (expireL L now).1 ∧ Keep w w' (tabS g rb m) := by
  unfold expireL
  by_cases hok : okNow now
  · rw [if_neg (by simpa using hok)]
    have WN := Aside0.mk (fun w => within_true now 0 1099511627776 w hok)
    obtain ⟨A, c, n, D, hb, hR, ho, hM, hnl, hD⟩ := h.ex
    have hca : w.cell? ⟨g, 0, none⟩ = some (.slice A L.length c) := (blk_cell hb 0).trans rfl
    have HA := Aside0.mk (show 0 < L.length → ∃ gb, A = some ⟨gb, 0, none⟩ ∧ rb = some gb from fun hp => by
      obtain ⟨gb, e, _⟩ := lease_cell hR 0 hp
      exact ⟨gb, e, by rw [← ho, e]; rfl⟩)
    have HH := Aside0.mk h
    have HLT := Aside0.mk h.lt
    have hlen := h.good.len
    have hn1 := hok.1
    have hn2 := hok.2
    clear hb hR ho hM hnl hD h hok
    go_enter Try.func17, Try.ntmps17
    go_wp2_with (go_at_call 22; (with_reducible refine (WN.out _).mono ?_); rintro e w' ⟨rfl, rfl⟩)
    go_loopw [6, 17] (fun v6 v17 wr => ∃ i : Nat, v17 = .int .i64 (i : Int) ∧ i ≤ L.length ∧ TabAt wr base g rb m (expL L now i) ∧ leaseK.R 27 wr w.heap.size (fun _ => True) v6 ((L.take i).filter (overB now)) ∧ Keep w wr (tabS g rb m)) (fun v6 v17 wr => L.length - (intOf v17).toNat)
    case atStart => exact ⟨0, rfl, Nat.zero_le _, by rw [expL_zero]; exact HH.out, Kd.R_nil _ _ _ _ _, Keep.refl _ _⟩
    case round =>
      obtain ⟨i, rfl, hi, ht, hr, hk⟩ := hrel
      have HT := Aside0.mk ht
      have HR := Aside0.mk hr
      have HK := Aside0.mk hk
      clear ht hr hk
      obtain ⟨Ao, co, eo⟩ := Kd.R_slice HR.out
      subst eo
      have hfl : ((L.take i).filter (overB now)).length ≤ 20000 := by
        have h1 := List.length_filter_le (overB now) (L.take i)
        rw [List.length_take] at h1
        omega
      by_cases hlt : i < L.length
      · obtain ⟨gb, e1, e2⟩ := HA.out (by omega)
        subst e1 e2
        have hc3 := tab_cell HT.out i (by rw [expL_len]; exact hlt)
        rw [expL_get L now i hlt] at hc3
        have HFN := Aside0.mk (filter_next L (overB now) i hlt)
        have HEE := Aside0.mk (fun ho => expL_end (L := L) (now := now) (i := i) hlt ho)
        have HES := Aside0.mk (fun ho => expL_stay (L := L) (now := now) (i := i) hlt ho)
        have hent := HH.out.good.ent i (L.getD i z3) (by rw [List.getD_eq_getElem?_getD, List.getElem?_eq_getElem hlt]; rfl)
        obtain ⟨x, hx⟩ : ∃ x, L.getD i z3 = x := ⟨_, rfl⟩
        rw [hx] at hc3 HFN HEE HES hent
        obtain ⟨x0, x1, x2⟩ := x
        dsimp only at hc3 hent
        obtain ⟨hy0, hy1, hy2⟩ := hc3
        obtain ⟨rfl, _, _, hx2, _⟩ := hent
        obtain ⟨fo, hfo⟩ : ∃ fo, (L.take i).filter (overB now) = fo := ⟨_, rfl⟩
        rw [hfo] at HFN HR hfl ⊢
        clear hx
        by_cases ho : 0 < x2 ∧ x2 ≤ now
        · obtain ⟨ho1, ho2⟩ := ho
          have hob : overB now ((i : Int) + 1, x1, x2) = true := by unfold overB; simp [ho1, ho2]
          have hE := HEE.out hob
          rw [hob, if_pos rfl] at HFN
          have hd1 : decide ((0 : Int) < x2) = true := by simpa using ho1
          have hd2 : decide (x2 ≤ now) = true := by simpa using ho2
          have HE := Aside0.mk hE
          clear hE hob
          go_wp2_with (first
            | ((with_reducible refine gate_builtin (b := .append) (xs := #[.tmp 30, .tmp 32]) rfl ?_); at_builtin; refine Kd.R_append leaseK (w0 := wr.alloc (.cells #[.int .i64 ((i : Int) + 1), .int .i64 x1, .int .i64 x2] 27)) w.heap.size rfl (.tmp 30) (.tmp 32) 38 27 (.agg #[.int .i64 0, .int .i64 0, .int .i64 0]) 24 rfl Try.underlying38 leaseInfo rfl (by decide) (by omega) _ fo ((i : Int) + 1, x1, x2) (cells3 ((i : Int) + 1, x1, x2)) (fun _ => True) (fun _ => False) rfl (by first | rfl | (simp [Act.eval]; done)) (lease_M _ _ _ _) (fun _ hk => hk.elim) (fun _ _ => trivial) (Kd.R_alloc HR.out _) (Below.refl _ _) (by have := HK.out.size; simp; omega) (by omega) ?_; intro v1 w1 hr1 hb1 hg1 hat1; have hbx : w1.heap[wr.heap.size]? = some (.cells #[.int .i64 ((i : Int) + 1), .int .i64 x1, .int .i64 x2] 27 (0, 0)) := (hg1.block wr.heap.size (by simp) (fun e => by have := Kd.R_lt HR.out _ e.symm; omega)).trans (blk_new _ _); have hyn : w1.cell? ⟨wr.heap.size, 0, none⟩ = some (.int .i64 ((i : Int) + 1)) := (blk_cell hbx 0).trans rfl; have hk1 : Keep wr w1 (fun k => some k = (Value.slice Ao fo.length co).ownBlock) := (Keep.of_below (below_alloc (Below.refl _ _) (.cells #[.int .i64 ((i : Int) + 1), .int .i64 x1, .int .i64 x2] 27)) (fun k => some k = (Value.slice Ao fo.length co).ownBlock)).then_ (Keep.of_grown hg1) (fun k e => .inl e); have HT1 := Aside0.mk (HT.out.keep hk1 (fun e => by have h1 := Kd.R_base HR.out _ e.symm; have := HLT.out.1; omega) (fun k hk e => by have h1 := Kd.R_base HR.out _ e.symm; have := (HLT.out.2.2 k hk).1; omega) (fun e => by have h1 := Kd.R_base HR.out _ e.symm; have := HLT.out.2.1; omega)); have HR1 := Aside0.mk hr1; have HK1 := Aside0.mk hk1; clear hr1 hb1 hg1 hat1 hk1 hbx)
            | (go_at_call 14; refine (end_calls base g m (some gb) (expL L now i) ((i : Int) + 1) w1 HT1.out).mono ?_; rintro e w2 ⟨rfl, ht2, hk2⟩; rw [HE.out] at ht2; have HT2 := Aside0.mk ht2; have HK2 := Aside0.mk hk2; clear ht2 hk2))
          go_roundw
          case rel =>
            refine ⟨i + 1, by simp, by omega, HT2.out, ?_, ?_⟩
            · rw [HFN.out]
              exact lease_keep HK2.out HR1.out (fun k hk e => by
                have h1 := Kd.R_base HR1.out k hk
                have h2 := HLT.out
                rcases e with e | e | e
                · omega
                · have := (h2.2.2 k e.symm).1; omega
                · omega)
            · exact (HK.out.then_ HK1.out (fun k e => .inr (Kd.R_base HR.out k e.symm))).then_ HK2.out (fun k e => .inl e)
          case measure => simp [intOf]; omega
        · have hob : overB now ((i : Int) + 1, x1, x2) = false := by
            unfold overB
            rw [Bool.and_eq_false_iff]
            simp only [decide_eq_false_iff_not]
            omega
          have hS := HES.out hob
          rw [hob] at HFN
          simp only [Bool.false_eq_true, if_false, List.append_nil] at HFN
          have HS := Aside0.mk hS
          clear hob hS
          have hbw := below_alloc (Below.refl wr.heap.size wr) (.cells #[.int .i64 ((i : Int) + 1), .int .i64 x1, .int .i64 x2] 27)
          have HBW := Aside0.mk hbw
          have hways : decide ((0 : Int) < x2) = false ∨ (decide ((0 : Int) < x2) = true ∧ decide (x2 ≤ now) = false) := by
            simp only [decide_eq_true_eq, decide_eq_false_iff_not]
            omega
          clear hbw
          rcases hways with h1 | ⟨h1, h2⟩
          all_goals
            go_wp2
            go_roundw
            case rel =>
              refine ⟨i + 1, by simp, by omega, ?_, ?_, ?_⟩
              · rw [HS.out]
                exact HT.out.keep (Keep.of_below HBW.out (fun _ => False)) (fun e => e) (fun _ _ e => e) (fun e => e)
              · rw [HFN.out]
                exact Kd.R_below HR.out HBW.out
              · exact HK.out.then_below HBW.out
            case measure => simp [intOf]; omega
      · obtain rfl : i = L.length := by omega
        have hd1 : decide (L.length < L.length) = false := by simp
        have hte : expL L now L.length = L.map (overL now) := expL_all L now
        have HTE := Aside0.mk hte
        have HTK := Aside0.mk (show L.take L.length = L from List.take_length)
        clear hte
        go_wp2
        go_ret2
        exact ⟨_, rfl, by rw [show L.filter (overB now) = (L.take L.length).filter (overB now) by rw [List.take_length]]; exact HR.out, by rw [← HTE.out]; exact HT.out, HK.out⟩
  · rw [if_pos hok]
    have WN := Aside0.mk (fun w => within_false now 0 1099511627776 w hok)
    have HH := Aside0.mk h
    clear hok h
    go_enter Try.func17, Try.ntmps17
    go_wp2_with (go_at_call 22; (with_reducible refine (WN.out _).mono ?_); rintro e w' ⟨rfl, rfl⟩)
    go_ret2
    exact ⟨_, rfl, Kd.R_nil _ _ _ _ _, HH.out, Keep.refl _ _⟩
end Go.Proofs.Ytbmpglchifnelaa
