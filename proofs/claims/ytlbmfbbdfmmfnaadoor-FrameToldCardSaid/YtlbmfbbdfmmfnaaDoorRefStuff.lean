/- The contract of pennantref04.Stuff: for all bytes. -/
import Derived.Test.YtlbmfbbdfmmfnaaDoorStuffed
namespace Go.Proofs.YtlbmfbbdfmmfnaaDoor
open Go.RowKit Go.Shelf Go.Proofs.YtlbmfbbdfmmfnaaDoorW.PrintWords Go.Proofs.YtlbmfbbdfmmfnaaDoorW.PrintLast Go.Proofs.YtlbmfbbdfmmfnaaDoorW.PrintMore
set_option linter.unusedVariables false
set_option linter.unusedSimpArgs false
attribute [local go_sem] Oper.semAt_some max2_int min2_int max_two min_two max_three min_three max_four min_four

theorem cutN_at {q : List Int} {n : Nat} (h : n < cutN q) : n < 254 ∧ n < q.length ∧ q.getD n 0 ≠ 0 := by
  have hc := cutN_le q
  refine ⟨by omega, by omega, ?_⟩
  have hm := run_no_zero q (q.getD n 0)
  apply hm
  rw [List.mem_iff_getElem]
  refine ⟨n, by rw [run_length]; exact h, ?_⟩
  rw [List.getElem_take, List.getD_eq_getElem?_getD, List.getElem?_eq_getElem (by omega)]
  rfl
theorem cutN_stop {q : List Int} (h : cutN q < 254) (hl : cutN q < q.length) : q.getD (cutN q) 0 = 0 := by
  have hs := takeWhile_stop (q.take 254) (fun c => c != 0) (by rw [List.length_take]; unfold cutN at h hl; omega)
  rw [List.getElem_take] at hs
  have e : q.getD (cutN q) 0 = q[cutN q] := by rw [List.getD_eq_getElem?_getD, List.getElem?_eq_getElem hl]; rfl
  rw [e]
  simpa [cutN] using hs
def intOf : Value → Int
  | .int _ n => n
  | _ => 0

set_option maxHeartbeats 2000000 in
set_option maxRecDepth 100000 in
theorem refStuff_calls (A0 : Option Addr) (c0 : Nat) (b : List Int) (w : World) (hr0 : Kd.C (Kd.int .u8) w A0 b.length b) (hl : b.length < 1000000) (hby : ∀ c ∈ b, 0 ≤ c ∧ c ≤ 255) :
    Calls Tryd.prog 31 #[.slice A0 b.length c0] w fun e w' => ∃ v0_ : Value, e = .returned (v0_) ∧ Kd.R (Kd.int .u8) 5 w' w.heap.size (fun _ => True) v0_ (stuffed b) ∧ Below w.heap.size w w' := by
  have HR0 := Aside0.mk hr0
  have HB := Aside0.mk (Below.refl w.heap.size w)
  have HBY := Aside0.mk hby
  obtain ⟨z0, hz0⟩ : ∃ z, z = ([0] : List Int) := ⟨_, rfl⟩
  have HZ0 := Aside0.mk hz0
  have hzl : z0.length = 1 := by rw [hz0]; rfl
  have HZL := Aside0.mk hzl
  clear hr0 hby hz0 hzl
  go_enter Tryd.func31, Tryd.ntmps31
  go_wp2_with (first
    | ((with_reducible refine gate_dst (N := 6) rfl ?_); refine Kd.R_lit (Kd.int .u8) _ 5 ?hg (N := 6) ?hd (xs := ([] : List Int)) (inner := []) (ok := fun _ => True) (okp := fun _ => True) ?hr ?hp (fun _ hk => hk) trivial (Below.refl _ _) (Nat.le_refl _) (by simp) ?_; (case hd => rfl); (case hg => rfl); (case hr => first | (go_simp; done) | (go_simp; rfl)); (case hp => exact (Reps.none _ _)); intro v145 w9 ho10 hb hg_ hnew_; clear hg_ hnew_; have n0_ := Aside0.mk (Kd.R_lower ho10 (below_size HB.out)); have n1_ := Aside0.mk (below_step HB.out hb); clear HB; have HO1 := n0_; have HB := n1_; clear n0_ n1_; clear hb ho10; obtain ⟨Av1, cv1, ev1⟩ := Kd.R_slice HO1.out; subst ev1)
    | ((with_reducible refine gate_builtin (b := .append) (xs := #[.tmp 6, .tmp 7]) rfl ?_); at_builtin; refine Kd.R_append_rows (Kd.int .u8) (w0 := w) w.heap.size rfl (.tmp 6) (.tmp 7) 23 5 (.int .u8 0) 1 rfl Tryd.underlying23 byteInfo rfl (by decide) (by omega) _ [] b _ _ _ (fun _ => True) (fun _ => False) rfl rfl HO1.out (Kd.C_below HR0.out HB.out) (fun _ _ h => h) (fun _ h => h.elim) (fun _ _ => trivial) HB.out HB.out.size (by simp; omega) ?_; intro v2 w2 ho hb hg hat; rw [List.nil_append] at ho; clear HB HO1; have HO1 := Aside0.mk ho; have HB := Aside0.mk hb; clear ho hb hg hat; obtain ⟨Av2, cv2, ev2⟩ := Kd.R_slice HO1.out; subst ev2)
    | ((with_reducible refine gate_dst (N := 9) rfl ?_); refine Kd.R_lit (Kd.int .u8) _ 5 ?hg (N := 9) ?hd (xs := ([0] : List Int)) (inner := [.int .u8 0]) (ok := fun _ => True) (okp := fun _ => True) ?hr ?hp (fun _ hk => hk) trivial (Below.refl _ _) (Nat.le_refl _) (by simp) ?_; (case hd => rfl); (case hg => rfl); (case hr => first | (go_simp; done) | (go_simp; rfl)); (case hp => exact (Reps.one (show Kd.M (Kd.int .u8) _ _ _ 0 [.int .u8 0] from rfl) (Reps.none _ _))); intro v125 w8 ho9 hb hg_ hnew_; clear hg_ hnew_; rw [← HZ0.out] at ho9; have n0_ := Aside0.mk (Kd.R_elder' HO1.out (Kd.R_base ho9) hb); have n1_ := Aside0.mk (Kd.R_lower (Kd.R_new' ho9 (Kd.R_lt HO1.out)) HB.out.size); have n2_ := Aside0.mk (below_step HB.out hb); clear HO1 HB; have HO2 := n0_; have HO3 := n1_; have HB := n2_; clear n0_ n1_ n2_; clear hb ho9; obtain ⟨Ao11, co11, eo11⟩ := Kd.R_slice HO3.out; subst eo11)
    | ((with_reducible refine gate_builtin (b := .append) (xs := #[.tmp 8, .tmp 9]) rfl ?_); at_builtin; refine Kd.R_append_rows (Kd.int .u8) (w0 := w) w.heap.size rfl (.tmp 8) (.tmp 9) 23 5 (.int .u8 0) 1 rfl Tryd.underlying23 byteInfo rfl (by decide) (by omega) _ b z0 _ _ _ (fun k_ => some k_ ≠ (.slice Ao11 z0.length co11 : Value).ownBlock) (fun _ => False) rfl rfl (Kd.R_mono HO2.out (fun _ hk => hk.2)) (Kd.R_reads' HO3.out).2.2 (fun _ _ h => h) (fun _ h => h.elim) (fun k_ hk => Kd.fresh' (Kd.R_lt HO3.out) k_ hk) HB.out HB.out.size (by have := HZL.out; omega) ?_; intro v128 w10 ho hb hg hat; clear HB HO2; have HB := Aside0.mk hb; have HO4 := Aside0.mk ho; clear ho hb hg hat))
  obtain ⟨q0, hq0⟩ : ∃ q, b ++ z0 = q := ⟨_, rfl⟩
  rw [hq0] at HO4
  obtain ⟨Av4, cv4, ev4⟩ := Kd.R_slice HO4.out
  subst ev4
  obtain ⟨_, hcap, hC⟩ := Kd.R_reads' HO4.out
  rw [HZ0.out] at hq0
  have hq0l : q0.length = b.length + 1 := by rw [← hq0]; simp
  obtain ⟨gA, rfl⟩ : ∃ gA, Av4 = some gA := by
    obtain ⟨ad, h, _⟩ := hC.2.2 (by omega)
    exact ⟨ad, h⟩
  have HQ0 := Aside0.mk hq0
  have HQL := Aside0.mk hq0l
  have HCAP := Aside0.mk hcap
  have HC := Aside0.mk hC
  clear hq0 hq0l hcap hC HO4 HR0 HO3 HZL HZ0
  go_loopw [3, 4] (fun v3 v4 wr => ∃ (q out : List Int) (ad : Addr) (c : Nat), v3 = .slice (some ad) q.length c ∧ q.length ≤ c ∧ Kd.C (Kd.int .u8) w10 (some ad) q.length q ∧ Kd.R (Kd.int .u8) 5 wr w10.heap.size (fun _ => True) v4 out ∧ Below w10.heap.size w10 wr ∧ EndsZero q ∧
      (∀ c ∈ q, 0 ≤ c ∧ c ≤ 255) ∧ stuffed b = out ++ stuffOf (runsL q.length q) ∧ out.length + 2 * q.length ≤ 2 * (b.length + 1)) (fun v3 v4 wr => lenOf v3)
  case atStart =>
    refine ⟨q0, [], gA, cv4, rfl, HCAP.out, HC.out, Kd.R_nil _ _ _ _ _, Below.refl _ _, ?_, ?_, ?_, ?_⟩
    · rw [← HQ0.out]; exact .inr ⟨b, rfl⟩
    · rw [← HQ0.out]
      intro c hc
      rcases List.mem_append.1 hc with h | h
      · exact HBY.out c h
      · simp at h; omega
    · rw [HQL.out, ← HQ0.out]; rfl
    · have := HQL.out; simp; omega
  case round =>
    obtain ⟨q, out, ad, c, rfl, hqc, hqC, hout, hbw, hez, hqb, hst, hlen⟩ := hrel
    clear HC HCAP
    have HQC := Aside0.mk hqC
    have HOUT := Aside0.mk hout
    have HBW := Aside0.mk hbw
    have HEZ := Aside0.mk hez
    have HQB := Aside0.mk hqb
    have HSTF := Aside0.mk hst
    clear hqC hout hbw hez hqb hst
    obtain ⟨Avo, cvo, evo⟩ := Kd.R_slice HOUT.out
    subst evo
    by_cases hq : q = []
    · subst hq
      simp only [List.length_nil]
      go_wp2
      go_ret
      exact ⟨_, rfl, by have h := HSTF.out; rw [h]; simp [runsL_nil, runsL, stuffOf]; exact Kd.R_lower HOUT.out HB.out.size, HB.out.trans (HBW.out.mono HB.out.size)⟩
    · have hpos : 0 < q.length := List.length_pos_iff.2 hq
      have HQN := Aside0.mk hq
      clear hq
      obtain ⟨nv, hnv⟩ : ∃ nv : Nat, cutN q = nv := ⟨_, rfl⟩
      have HNV := Aside0.mk hnv
      have hn0 := cutN_le q
      rw [hnv] at hn0
      clear hnv
      go_wp2
      go_loopw [5] (fun v5 wi => ∃ n : Nat, v5 = .int .i64 n ∧ n ≤ nv ∧ wi = wr) (fun v5 wi => 254 - (intOf v5).toNat)
      case atStart => exact ⟨0, rfl, by omega, rfl⟩
      case round =>
        obtain ⟨n, rfl, hn, rfl⟩ := hrel
        rcases Nat.lt_or_eq_of_le hn with hlt | heq
        · obtain ⟨h1, h2, h3⟩ := cutN_at (q := q) (n := n) (by rw [HNV.out]; exact hlt)
          obtain ⟨zc, hzc⟩ : ∃ zc, q.getD n 0 = zc := ⟨_, rfl⟩
          obtain ⟨ad2, e2, hcell⟩ := (Kd.reads_of_C (enc := Value.int .u8) (d := (0 : Int)) (h1 := fun _ => rfl) (Kd.C_below HQC.out HBW.out)).2.2 hpos
          cases e2
          have hc1 := hcell n h2
          rw [hzc] at hc1 h3
          clear hcell hzc
          have hnz : (zc == 0) = false := by simpa using h3
          go_wp2
          exact ⟨⟨n + 1, by simp, by omega, trivial⟩, by simp [intOf]; omega⟩
        · subst heq
          obtain ⟨xv, hxv⟩ : ∃ xv : Nat, cutNext q = xv := ⟨_, rfl⟩
          have hNX := cutNext_le HEZ.out HQN.out
          have hST := runsL_step q HQN.out
          have hx0 : xv = if n < 254 then n + 1 else 254 := by rw [← hxv, ← HNV.out]; rfl
          rw [hxv] at hNX
          rw [hxv, HNV.out] at hST
          obtain ⟨zn, hzn⟩ : ∃ zn, zn = [(n : Int) + 1] := ⟨_, rfl⟩
          have hznl : zn.length = 1 := by rw [hzn]; rfl
          obtain ⟨i09, hi09, _, hsz9, _⟩ := info_parts byteInfo
          obtain ⟨hcut2, hA2, hC2⟩ := print_take_of (P := Tryd.prog) (Value.int .u8) 0 23 5 .i64 Tryd.underlying23 hi09 hsz9 (some ad) c q (n : Int) (by omega) (by omega) hqc
          rw [Int.toNat_natCast] at hcut2 hA2 hC2
          obtain ⟨ad3, hb3, hcut3, hC3⟩ := drop_at (P := Tryd.prog) 23 5 .i64 Tryd.underlying23 hi09 hsz9 ad c xv q hNX hqc
          have hrl : (q.take n).length = n := by rw [List.length_take]; omega
          have hdl : (q.drop xv).length = q.length - xv := List.length_drop
          obtain ⟨hd, hhd⟩ : ∃ hd, q.take n = hd := ⟨_, rfl⟩
          have HHD := Aside0.mk hhd
          have hhl : hd.length = n := by rw [← hhd]; exact hrl
          have HHL := Aside0.mk hhl
          have hcut4 : ∀ W : World, (Instr.slice 23 (.slice (some ad) q.length c) none (some (.int .i64 (n : Int))) none).run Tryd.prog W = .ok (.slice (some ad) hd.length c) W := fun W => by rw [hcut2 W, hhd]
          have HTK := Aside0.mk (show Kd.C (Kd.int .u8) w10 (some ad) hd.length hd by rw [← hhd]; exact Kd.C_of_reads (h1 := fun _ => rfl) (hA2 w10 (Kd.reads_of_C HQC.out)))
          have HC3 := Aside0.mk (hC3 w10 HQC.out)
          have HZN := Aside0.mk hzn
          have HZNL := Aside0.mk hznl
          have HTL := Aside0.mk hrl
          have HDL := Aside0.mk hdl
          have HX0 := Aside0.mk hx0
          have HST := Aside0.mk hST
          clear hA2 hC2 hi09 hsz9 hxv hx0 hST hC3 hb3 hrl hdl hzn hznl hcut2 hhd hhl
          rcases Nat.lt_or_ge n 254 with h254 | h254
          · have hxe : xv = n + 1 := by rw [HX0.out, if_pos h254]
            subst hxe
            rw [HDL.out] at hcut3
            have e1 : ((n + 1 : Nat) : Int) = (n : Int) + 1 := by omega
            rw [e1] at hcut3
            clear e1
            have hnl : n < q.length := by omega
            have hz := cutN_stop (q := q) (by rw [HNV.out]; exact h254) (by rw [HNV.out]; exact hnl)
            rw [HNV.out] at hz
            obtain ⟨ad2, e2, hcell⟩ := (Kd.reads_of_C (enc := Value.int .u8) (d := (0 : Int)) (h1 := fun _ => rfl) (Kd.C_below HQC.out HBW.out)).2.2 hpos
            cases e2
            have hc1 := hcell n hnl
            rw [hz] at hc1
            clear hcell hz
            go_wp2_with (first
              | ((with_reducible refine gate_dst (N := 35) rfl ?_); refine Kd.R_lit (Kd.int .u8) _ 5 ?hg (N := 35) ?hd (xs := ([(n : Int) + 1] : List Int)) (inner := [.int .u8 ((n : Int) + 1)]) (ok := fun _ => True) (okp := fun _ => True) ?hr ?hp (fun _ hk => hk) trivial (Below.refl _ _) (Nat.le_refl _) (by simp) ?_; (case hd => rfl); (case hg => rfl); (case hr => first | (go_simp; done) | (go_simp; rfl)); (case hp => exact (Reps.one (show Kd.M (Kd.int .u8) _ _ _ ((n : Int) + 1) [.int .u8 ((n : Int) + 1)] from rfl) (Reps.none _ _))); intro v125 w8 ho9 hb hg_ hnew_; clear hg_ hnew_; rw [← HZN.out] at ho9; have n0_ := Aside0.mk (Kd.R_elder' HOUT.out (Kd.R_base ho9) hb); have n1_ := Aside0.mk (Kd.R_lower (Kd.R_new' ho9 (Kd.R_lt HOUT.out)) HBW.out.size); have n2_ := Aside0.mk (below_step HBW.out hb); clear HOUT HBW; have HO2 := n0_; have HO3 := n1_; have HBW := n2_; clear n0_ n1_ n2_; clear hb ho9; obtain ⟨Ao11, co11, eo11⟩ := Kd.R_slice HO3.out; subst eo11)
              | ((with_reducible refine gate_builtin (b := .append) (xs := #[.tmp 31, .tmp 35]) rfl ?_); at_builtin; refine Kd.R_append_rows (Kd.int .u8) (w0 := w10) w10.heap.size rfl (.tmp 31) (.tmp 35) 23 5 (.int .u8 0) 1 rfl Tryd.underlying23 byteInfo rfl (by decide) (by omega) _ out zn _ _ _ (fun k_ => some k_ ≠ (.slice Ao11 zn.length co11 : Value).ownBlock) (fun _ => False) rfl rfl (Kd.R_mono HO2.out (fun _ hk => hk.2)) (Kd.R_reads' HO3.out).2.2 (fun _ _ h => h) (fun _ h => h.elim) (fun k_ hk => Kd.fresh' (Kd.R_lt HO3.out) k_ hk) HBW.out HBW.out.size (by have := HZNL.out; omega) ?_; intro v128 w11 ho hb hg hat; obtain ⟨o1, ho1⟩ : ∃ o1, out ++ zn = o1 := ⟨_, rfl⟩; rw [ho1] at ho; have HO1L := Aside0.mk (show o1.length = out.length + 1 by rw [← ho1]; have := HZNL.out; simp; omega); have HO1E := Aside0.mk ho1; clear ho1; clear HBW HO2; have HBW := Aside0.mk hb; have HO4 := Aside0.mk ho; clear ho hb hg hat; obtain ⟨Av4, cv4, ev4⟩ := Kd.R_slice HO4.out; subst ev4)
              | ((with_reducible refine gate_builtin (b := .append) (xs := #[.tmp 37, .tmp 40]) rfl ?_); at_builtin; refine Kd.R_append_rows (Kd.int .u8) (w0 := w10) w10.heap.size rfl (.tmp 37) (.tmp 40) 23 5 (.int .u8 0) 1 rfl Tryd.underlying23 byteInfo rfl (by decide) (by omega) _ o1 hd _ _ _ (fun k_ => True) (fun _ => False) rfl rfl (Kd.R_mono HO4.out (fun _ hk => trivial)) (Kd.C_below HTK.out HBW.out) (fun _ _ h => h) (fun _ h => h.elim) (fun k_ hk => trivial) HBW.out HBW.out.size (by have := HO1L.out; have := HHL.out; omega) ?_; intro v129 w12 ho hb hg hat; clear HBW HO4; have HBW := Aside0.mk hb; have HO5 := Aside0.mk ho; clear ho hb hg hat; obtain ⟨Av5, cv5, ev5⟩ := Kd.R_slice HO5.out; subst ev5))
            go_roundw
            case rel => exact ⟨q.drop (n + 1), o1 ++ hd, ad3, c - (n + 1), by rw [HDL.out], by rw [HDL.out]; omega, HC3.out, by simpa using HO5.out, HBW.out, HEZ.out.drop _, fun c hc => HQB.out c (List.mem_of_mem_drop hc), by rw [HSTF.out, HST.out, ← HO1E.out, HZN.out, HHD.out]; simp [stuffOf, HHL.out], by have := HO1L.out; have := HHL.out; have := HDL.out; simp; omega⟩
            case measure => simp [lenOf]; omega
          · have hxe : xv = 254 := by rw [HX0.out, if_neg (by omega)]
            subst hxe
            obtain rfl : n = 254 := by omega
            rw [HDL.out] at hcut3
            have e1 : ((254 : Nat) : Int) = 254 := rfl
            rw [e1] at hcut4 hcut3
            have HZN := Aside0.mk (show zn = [255] by rw [HZN.out]; rfl)
            go_wp2_with (first
              | ((with_reducible refine gate_dst (N := 35) rfl ?_); refine Kd.R_lit (Kd.int .u8) _ 5 ?hg (N := 35) ?hd (xs := ([255] : List Int)) (inner := [.int .u8 255]) (ok := fun _ => True) (okp := fun _ => True) ?hr ?hp (fun _ hk => hk) trivial (Below.refl _ _) (Nat.le_refl _) (by simp) ?_; (case hd => rfl); (case hg => rfl); (case hr => first | (go_simp; done) | (go_simp; rfl)); (case hp => exact (Reps.one (show Kd.M (Kd.int .u8) _ _ _ 255 [.int .u8 255] from rfl) (Reps.none _ _))); intro v125 w8 ho9 hb hg_ hnew_; clear hg_ hnew_; rw [← HZN.out] at ho9; have n0_ := Aside0.mk (Kd.R_elder' HOUT.out (Kd.R_base ho9) hb); have n1_ := Aside0.mk (Kd.R_lower (Kd.R_new' ho9 (Kd.R_lt HOUT.out)) HBW.out.size); have n2_ := Aside0.mk (below_step HBW.out hb); clear HOUT HBW; have HO2 := n0_; have HO3 := n1_; have HBW := n2_; clear n0_ n1_ n2_; clear hb ho9; obtain ⟨Ao11, co11, eo11⟩ := Kd.R_slice HO3.out; subst eo11)
              | ((with_reducible refine gate_builtin (b := .append) (xs := #[.tmp 31, .tmp 35]) rfl ?_); at_builtin; refine Kd.R_append_rows (Kd.int .u8) (w0 := w10) w10.heap.size rfl (.tmp 31) (.tmp 35) 23 5 (.int .u8 0) 1 rfl Tryd.underlying23 byteInfo rfl (by decide) (by omega) _ out zn _ _ _ (fun k_ => some k_ ≠ (.slice Ao11 zn.length co11 : Value).ownBlock) (fun _ => False) rfl rfl (Kd.R_mono HO2.out (fun _ hk => hk.2)) (Kd.R_reads' HO3.out).2.2 (fun _ _ h => h) (fun _ h => h.elim) (fun k_ hk => Kd.fresh' (Kd.R_lt HO3.out) k_ hk) HBW.out HBW.out.size (by have := HZNL.out; omega) ?_; intro v128 w11 ho hb hg hat; obtain ⟨o1, ho1⟩ : ∃ o1, out ++ zn = o1 := ⟨_, rfl⟩; rw [ho1] at ho; have HO1L := Aside0.mk (show o1.length = out.length + 1 by rw [← ho1]; have := HZNL.out; simp; omega); have HO1E := Aside0.mk ho1; clear ho1; clear HBW HO2; have HBW := Aside0.mk hb; have HO4 := Aside0.mk ho; clear ho hb hg hat; obtain ⟨Av4, cv4, ev4⟩ := Kd.R_slice HO4.out; subst ev4)
              | ((with_reducible refine gate_builtin (b := .append) (xs := #[.tmp 37, .tmp 40]) rfl ?_); at_builtin; refine Kd.R_append_rows (Kd.int .u8) (w0 := w10) w10.heap.size rfl (.tmp 37) (.tmp 40) 23 5 (.int .u8 0) 1 rfl Tryd.underlying23 byteInfo rfl (by decide) (by omega) _ o1 hd _ _ _ (fun k_ => True) (fun _ => False) rfl rfl (Kd.R_mono HO4.out (fun _ hk => trivial)) (Kd.C_below HTK.out HBW.out) (fun _ _ h => h) (fun _ h => h.elim) (fun k_ hk => trivial) HBW.out HBW.out.size (by have := HO1L.out; have := HHL.out; omega) ?_; intro v129 w12 ho hb hg hat; clear HBW HO4; have HBW := Aside0.mk hb; have HO5 := Aside0.mk ho; clear ho hb hg hat; obtain ⟨Av5, cv5, ev5⟩ := Kd.R_slice HO5.out; subst ev5))
            go_roundw
            case rel => exact ⟨q.drop 254, o1 ++ hd, ad3, c - 254, by rw [HDL.out], by rw [HDL.out]; omega, HC3.out, by simpa using HO5.out, HBW.out, HEZ.out.drop _, fun c hc => HQB.out c (List.mem_of_mem_drop hc), by rw [HSTF.out, HST.out, ← HO1E.out, HZN.out, HHD.out]; simp [stuffOf, HHL.out], by have := HO1L.out; have := HHL.out; have := HDL.out; simp; omega⟩
            case measure => simp [lenOf]; omega
end Go.Proofs.YtlbmfbbdfmmfnaaDoor
