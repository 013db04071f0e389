/- The contract of the reference's Expire; the flat forms. -/
import Derived.Test.YtbmpglchifnelaaLRefC
namespace Go.Proofs.Ytbmpglchifnelaa
open Go.RowKit Go.Maps Go.Proofs.YtbmpglchifnelaaW.PrintWords Go.Proofs.YtbmpglchifnelaaW.PrintLast Go.Proofs.YtbmpglchifnelaaW.PrintMore
set_option linter.unusedVariables false
set_option linter.unusedSimpArgs false
attribute [local go_sem] Oper.semAt_some max2_int min2_int max_two min_two max_three min_three max_four min_four

theorem rrenew_flat (base g : Nat) (rb : Option Nat) (L L' : List L3) (n now life x0 x1 x2 e0 : Int) (w : World) (h : RefAt w base g rb L) (hw : (Lit.int .i64 n).wf = true) (hg : renewL L n now life = (L', (x0, x1, x2), e0)) :
    Calls Try.prog 27 #[.pointer (some ⟨g, 0, none⟩), .int .i64 n, .int .i64 now, .int .i64 life] w fun e w' => e = .returned (.tuple #[.agg #[.int .i64 x0, .int .i64 x1, .int .i64 x2], .int .i64 e0]) ∧ RefAt w' base g rb L' ∧ Keep w w' (refS g rb) := by
  have h1 := rrenew_calls base g rb L n now life w h hw
  rw [hg] at h1
  exact h1
theorem rgrant_flat (base g : Nat) (rb : Option Nat) (L L' : List L3) (d now life x0 x1 x2 e0 : Int) (w : World) (h : RefAt w base g rb L) (hbase : base ≤ w.heap.size) (hg : grantL L d now life = (L', (x0, x1, x2), e0)) :
    Calls Try.prog 26 #[.pointer (some ⟨g, 0, none⟩), .int .i64 d, .int .i64 now, .int .i64 life] w fun e w' => e = .returned (.tuple #[.agg #[.int .i64 x0, .int .i64 x1, .int .i64 x2], .int .i64 e0]) ∧ ∃ rb', RefAt w' base g rb' L' ∧ Anew w rb rb' ∧ Keep w w' (refS g rb) := by
  have h1 := rgrant_calls base g rb L d now life w h hbase
  rw [hg] at h1
  exact h1
theorem rat_flat (base g : Nat) (rb : Option Nat) (L : List L3) (n x0 x1 x2 e0 : Int) (w : World) (h : RefAt w base g rb L) (hw : (Lit.int .i64 n).wf = true) (hg : atD L n = ((x0, x1, x2), e0)) :
    Calls Try.prog 31 #[.pointer (some ⟨g, 0, none⟩), .int .i64 n] w fun e w' => e = .returned (.tuple #[.agg #[.int .i64 x0, .int .i64 x1, .int .i64 x2], .int .i64 e0]) ∧ Below w.heap.size w w' := by
  have h1 := rat_calls base g rb L n w h hw
  rw [hg] at h1
  exact h1
theorem rend_flat (base g : Nat) (rb : Option Nat) (L L' : List L3) (n e0 : Int) (w : World) (h : RefAt w base g rb L) (hw : (Lit.int .i64 n).wf = true) (hg : endL L n = (L', e0)) :
    Calls Try.prog 28 #[.pointer (some ⟨g, 0, none⟩), .int .i64 n] w fun e w' => e = .returned (.int .i64 e0) ∧ RefAt w' base g rb L' ∧ Keep w w' (refS g rb) := by
  have h1 := rend_calls base g rb L n w h hw
  rw [hg] at h1
  exact h1
theorem ref_low {w W : World} {base g : Nat} {rb : Option Nat} {L : List L3} (h : RefAt w base g rb L) (hk : Keep w W (refS g rb)) (hb : base ≤ w.heap.size) : Below base w W :=
  hk.below (fun k hs => by
    rcases hs with e | e
    · exact e ▸ h.bg
    · exact (h.lt.2 k e.symm).2) hb
/-- A round of the reference's Expire that ends a lease. -/
theorem ref_end {w : World} {base g gb c i : Nat} {rb : Option Nat} {L : List L3} {now : Int} (hg : Good (expL L now i)) (hlt : i < L.length) (hbg : base ≤ g) (hb : w.heap[g]? = some (.cells #[.slice (some ⟨gb, 0, none⟩) L.length c] 50 (0, 0))) (hR : leaseK.R 27 w base (fun _ => True) (.slice (some ⟨gb, 0, none⟩) L.length c) (expL L now i)) (ho : (Value.slice (some ⟨gb, 0, none⟩) L.length c).ownBlock = rb) (hov : overB now (L.getD i z3) = true) :
    RefAt (w.setCell ⟨gb, i * 3 + 2, none⟩ (.int .i64 0)) base g rb (expL L now (i + 1)) ∧ Keep w (w.setCell ⟨gb, i * 3 + 2, none⟩ (.int .i64 0)) (refS g rb) := by
  have hlen := expL_len L now i
  have he := expL_end hlt hov
  have hgood := endL_good hg ((i : Int) + 1)
  rw [he] at hgood
  have hR2 := lease_until hR i (by omega) 0
  have e2 : (expL L now i).set i (((expL L now i).getD i z3).1, ((expL L now i).getD i z3).2.1, 0) = expL L now (i + 1) := by
    rw [expL_next L now i hlt, expL_get L now i hlt]
    unfold overL
    rw [if_pos hov]
  rw [e2] at hR2
  have hgg : gb ≠ g := fun e => R_ne_blk hR hb (by decide) (by rw [e]; rfl)
  exact ⟨refAt_mk hgood hbg (blk_far hb (by simpa using (Ne.symm hgg)) _) (by rw [expL_len]) hR2 ho, (Keep.set w ⟨gb, i * 3 + 2, none⟩ (.int .i64 0)).mono (fun j _ e => .inr (by rw [← ho]; exact congrArg some e))⟩
set_option maxHeartbeats 2000000 in
set_option maxRecDepth 100000 in
theorem rexpire_calls (base g : Nat) (rb : Option Nat) (L : List L3) (now : Int) (w : World) (h : RefAt w base g rb L) :
    Calls Try.prog 29 #[.pointer (some ⟨g, 0, none⟩), .int .i64 now] w fun e w' => ∃ v, e = .returned (.tuple #[v, .int .i64 (expireL L now).2.2]) ∧ leaseK.R 27 w' w.heap.size (fun _ => True) v (expireL L now).2.1 ∧ RefAt w' base g rb (expireL L now).1 ∧ Keep w w' (refS g rb) := by
  unfold expireL
  by_cases hok : okNow now
  · rw [if_neg (by simpa using hok)]
    have WN := Aside0.mk (fun w => isMoment_calls now w)
    rw [decide_eq_true hok] at WN
    have HH := Aside0.mk h
    have HLT := Aside0.mk h.lt
    have hlen := h.good.len
    have hn1 := hok.1
    have hn2 := hok.2
    clear h hok
    go_enter Try.func29, Try.ntmps29
    go_wp2_with (go_at_call 33; (with_reducible refine (WN.out _).mono ?_); rintro e w' ⟨rfl, rfl⟩)
    go_loopw [7, 8] (fun v7 v8 wr => ∃ i : Nat, v8 = .int .i64 (i : Int) ∧ i ≤ L.length ∧ RefAt wr base g rb (expL L now i) ∧ leaseK.R 27 wr w.heap.size (fun _ => True) v7 ((L.take i).filter (overB now)) ∧ Keep w wr (refS g rb)) (fun v7 v8 wr => L.length - (intOf v8).toNat)
    case atStart => exact ⟨0, rfl, Nat.zero_le _, by rw [expL_zero]; exact HH.out, Kd.R_nil _ _ _ _ _, Keep.refl _ _⟩
    case round =>
      obtain ⟨i, rfl, hi, ht, hr, hk⟩ := hrel
      have HT := Aside0.mk ht
      have HR := Aside0.mk hr
      have HK := Aside0.mk hk
      obtain ⟨A, c, hb, hRL, ho⟩ := ht.ex
      rw [expL_len] at hb hRL ho
      have hca : wr.cell? ⟨g, 0, none⟩ = some (.slice A L.length c) := (blk_cell hb 0).trans rfl
      have HB := Aside0.mk hb
      have HRL := Aside0.mk hRL
      have HO := Aside0.mk ho
      clear ht hr hk hb ho
      obtain ⟨Ao, co, eo⟩ := Kd.R_slice HR.out
      subst eo
      have hfl : ((L.take i).filter (overB now)).length ≤ 20000 := by
        have h1 := List.length_filter_le (overB now) (L.take i)
        rw [List.length_take] at h1
        omega
      by_cases hlt : i < L.length
      · obtain ⟨gb, e1, hgb, hy0, hy1, hy2, hfr⟩ := lease_cell hRL i (by rw [expL_len]; exact hlt)
        subst e1
        rw [expL_get L now i hlt] at hy0 hy1 hy2
        have HFN := Aside0.mk (filter_next L (overB now) i hlt)
        have HES := Aside0.mk (fun ho => expL_stay (L := L) (now := now) (i := i) hlt ho)
        have HOV := Aside0.mk (fun (ho : overB now (L.getD i z3) = true) => ho)
        have HRE := Aside0.mk (fun (W : World) hb hR (ho : overB now (L.getD i z3) = true) => ref_end (w := W) (base := base) (gb := gb) (c := c) (rb := rb) HT.out.good hlt HT.out.bg hb hR HO.out ho)
        obtain ⟨x, hx⟩ : ∃ x, L.getD i z3 = x := ⟨_, rfl⟩
        rw [hx] at hy0 hy1 hy2 HFN HES HRE
        obtain ⟨x0, x1, x2⟩ := x
        dsimp only at hy0 hy1 hy2
        obtain ⟨fo, hfo⟩ : ∃ fo, (L.take i).filter (overB now) = fo := ⟨_, rfl⟩
        rw [hfo] at HFN HR hfl ⊢
        clear hx hfr HOV hRL
        by_cases ho : 0 < x2 ∧ x2 ≤ now
        · obtain ⟨ho1, ho2⟩ := ho
          have hob : overB now (x0, x1, x2) = true := by unfold overB; simp [ho1, ho2]
          rw [hob, if_pos rfl] at HFN
          have HOB := Aside0.mk hob
          have hd1 : decide ((0 : Int) < x2) = true := by simpa using ho1
          have hd2 : decide (x2 ≤ now) = true := by simpa using ho2
          clear hob
          go_wp2_with ((with_reducible refine gate_builtin (b := .append) (xs := #[.tmp 43, .tmp 51]) rfl ?_); at_builtin; refine Kd.R_append leaseK (w0 := wr) w.heap.size rfl (.tmp 43) (.tmp 51) 38 27 (.agg #[.int .i64 0, .int .i64 0, .int .i64 0]) 24 rfl Try.underlying38 leaseInfo rfl (by decide) (by omega) _ fo (x0, x1, x2) (cells3 (x0, x1, x2)) (fun _ => True) (fun _ => False) rfl (by first | rfl | (simp [Act.eval]; done)) (lease_M _ _ _ _) (fun _ hk => hk.elim) (fun _ _ => trivial) HR.out (Below.refl _ _) (by have := HK.out.size; omega) (by omega) ?_; intro v1 w1 hr1 hb1 hg1 hat1; have hk1 : Keep wr w1 (fun k => some k = (Value.slice Ao fo.length co).ownBlock) := Keep.of_grown hg1; have hbg1 : w1.heap[g]? = some (.cells #[.slice (some ⟨gb, 0, none⟩) L.length c] 50 (0, 0)) := hk1.blk HB.out (fun e => by have h1 := Kd.R_base HR.out _ e.symm; have := HLT.out.1; omega); have hrl1 := lease_keep hk1 HRL.out (fun k hk e => by have h1 := Kd.R_base HR.out _ e.symm; have := (HLT.out.2 k (HO.out.symm.trans hk)).1; omega); have hca1 : w1.cell? ⟨g, 0, none⟩ = some (.slice (some ⟨gb, 0, none⟩) L.length c) := (blk_cell hbg1 0).trans rfl; obtain ⟨gb1, eg1, _, _, _, hz2, hzf⟩ := lease_cell hrl1 i (by rw [expL_len]; exact hlt); have egb : gb = gb1 := congrArg Addr.block (Option.some.inj eg1); subst egb; have hf2 := hzf 2; have HBG1 := Aside0.mk hbg1; have HRL1 := Aside0.mk hrl1; have HR1 := Aside0.mk hr1; have HK1 := Aside0.mk hk1; clear hr1 hb1 hg1 hat1 hk1 hbg1 hrl1 hzf eg1)
          go_roundw
          case rel =>
            have hre := HRE.out w1 HBG1.out HRL1.out HOB.out
            refine ⟨i + 1, by go_num, by omega, hre.1, ?_, ?_⟩
            · rw [HFN.out]
              exact lease_keep hre.2 HR1.out (fun k hk e => by
                have h1 := Kd.R_base HR1.out k hk
                have h2 := HLT.out
                rcases e with e | e
                · omega
                · have := (h2.2 k e.symm).1; omega)
            · exact (HK.out.then_ HK1.out (fun k e => .inr (Kd.R_base HR.out k e.symm))).then_ hre.2 (fun k e => .inl e)
          case measure => simp [intOf]; omega
        · have hob : overB now (x0, x1, x2) = false := by
            unfold overB
            rw [Bool.and_eq_false_iff]
            simp only [decide_eq_false_iff_not]
            omega
          have hS := HES.out hob
          rw [hob] at HFN
          simp only [Bool.false_eq_true, if_false, List.append_nil] at HFN
          have HS := Aside0.mk hS
          clear hob hS
          have hways : decide ((0 : Int) < x2) = false ∨ (decide ((0 : Int) < x2) = true ∧ decide (x2 ≤ now) = false) := by
            simp only [decide_eq_true_eq, decide_eq_false_iff_not]
            omega
          rcases hways with h1 | ⟨h1, h2⟩
          all_goals
            go_wp2
            go_roundw
            case rel => exact ⟨i + 1, by go_num, by omega, by rw [HS.out]; exact HT.out, by rw [HFN.out]; exact HR.out, HK.out⟩
            case measure => simp [intOf]; omega
      · obtain rfl : i = L.length := by omega
        have hd1 : decide (L.length < L.length) = false := by simp
        have hte : expL L now L.length = L.map (overL now) := expL_all L now
        have HTE := Aside0.mk hte
        clear hte
        go_wp2
        go_ret2
        exact ⟨_, rfl, by rw [show L.filter (overB now) = (L.take L.length).filter (overB now) by rw [List.take_length]]; exact HR.out, by rw [← HTE.out]; exact HT.out, HK.out⟩
  · rw [if_pos hok]
    have WN := Aside0.mk (fun w => isMoment_calls now w)
    rw [decide_eq_false hok] at WN
    have HH := Aside0.mk h
    clear hok h
    go_enter Try.func29, Try.ntmps29
    go_wp2_with (go_at_call 33; (with_reducible refine (WN.out _).mono ?_); rintro e w' ⟨rfl, rfl⟩)
    go_ret2
    exact ⟨_, rfl, Kd.R_nil _ _ _ _ _, HH.out, Keep.refl _ _⟩
end Go.Proofs.Ytbmpglchifnelaa
