/- The contract of pennantref04.Plain: for all bytes. -/
import Derived.Test.YtlbmfbbdfmmfnaaDoorPlain
namespace Go.Proofs.YtlbmfbbdfmmfnaaDoor
open Go.RowKit Go.Shelf Go.Proofs.YtlbmfbbdfmmfnaaDoorW.PrintWords Go.Proofs.YtlbmfbbdfmmfnaaDoorW.PrintLast Go.Proofs.YtlbmfbbdfmmfnaaDoorW.PrintMore
set_option linter.unusedVariables false
set_option linter.unusedSimpArgs false
attribute [local go_sem] Oper.semAt_some max2_int min2_int max_two min_two max_three min_three max_four min_four

theorem pl_byte_inj : ∀ (a b : List Int), (∀ c ∈ a, 0 ≤ c ∧ c ≤ 255) → (∀ c ∈ b, 0 ≤ c ∧ c ≤ 255) → (a.map fun n => UInt8.ofNat n.toNat) = (b.map fun n => UInt8.ofNat n.toNat) → a = b
  | [], [], _, _, _ => rfl
  | [], _ :: _, _, _, h => by simp at h
  | _ :: _, [], _, _, h => by simp at h
  | x :: la, y :: lb, ha, hb, h => by
    simp only [List.map_cons, List.cons.injEq] at h
    have hx := ha x (by simp)
    have hy := hb y (by simp)
    have h1 := congrArg UInt8.toNat h.1
    simp only [UInt8.toNat_ofNat'] at h1
    rw [pl_byte_inj la lb (fun c hc => ha c (by simp [hc])) (fun c hc => hb c (by simp [hc])) h.2]
    congr 1
    omega
theorem pl_str_iff (a b : List Int) (ha : ∀ c ∈ a, 0 ≤ c ∧ c ≤ 255) (hb : ∀ c ∈ b, 0 ≤ c ∧ c ≤ 255) : (strOfNums a).toList = (strOfNums b).toList ↔ a = b := by
  constructor
  · intro h
    rw [Lib.strOfNums_toList, Lib.strOfNums_toList] at h
    exact pl_byte_inj a b ha hb h
  · rintro rfl; rfl

theorem pl_undrew {w w1 : World} (h : Below w.drew.heap.size w.drew w1) : Below w.heap.size w w1 := ⟨h.os, h.tape, h.output, h.size, h.block⟩
theorem stuffOf_bytes (rs : List (List Int)) (h1 : ∀ r ∈ rs, r.length ≤ 254) (h2 : ∀ r ∈ rs, ∀ c ∈ r, 0 ≤ c ∧ c ≤ 255) : ∀ c ∈ stuffOf rs, 0 ≤ c ∧ c ≤ 255 := by
  intro c hc
  obtain ⟨r, hr, hc⟩ := List.mem_flatMap.1 hc
  rcases List.mem_cons.1 hc with rfl | hc
  · have := h1 r hr; omega
  · exact h2 r hr c hc
theorem runsL_bytes : ∀ (k : Nat) (q : List Int), (∀ c ∈ q, 0 ≤ c ∧ c ≤ 255) → ∀ r ∈ runsL k q, ∀ c ∈ r, 0 ≤ c ∧ c ≤ 255
  | 0, q, h, r, hr, c, hc => by simp [runsL] at hr
  | k + 1, q, h, r, hr, c, hc => by
    unfold runsL at hr
    split at hr
    · simp at hr
    · rcases List.mem_cons.1 hr with rfl | hr
      · exact h c (List.mem_of_mem_take hc)
      · exact runsL_bytes k _ (fun c hc => h c (List.mem_of_mem_drop hc)) r hr c hc
theorem stuffed_bytes (b : List Int) (hb : ∀ c ∈ b, 0 ≤ c ∧ c ≤ 255) : ∀ c ∈ stuffed b, 0 ≤ c ∧ c ≤ 255 := by
  obtain ⟨_, h2, _, _⟩ := runs_good (b.length + 1) (b ++ [0]) (by simp) (.inr ⟨_, rfl⟩)
  refine stuffOf_bytes _ h2 (runsL_bytes _ _ ?_)
  intro c hc
  rcases List.mem_append.1 hc with h | h
  · exact hb c h
  · simp at h; omega

set_option maxHeartbeats 2000000 in
set_option maxRecDepth 100000 in
theorem refPlain_calls (A0 : Option Addr) (c0 : Nat) (b : List Int) (w : World) (hr0 : Kd.C (Kd.int .u8) w A0 b.length b) (hc0 : b.length ≤ c0) (hl : b.length < 500000) (hby : ∀ c ∈ b, 0 ≤ c ∧ c ≤ 255) :
    Calls Tryd.prog 33 #[.slice A0 b.length c0] w fun e w' => ∃ v0_ : Value, e = .returned (.tuple #[v0_, .int .i64 (plainR b).2]) ∧ Kd.R (Kd.int .u8) 5 w' w.heap.size (fun _ => True) v0_ (plainR b).1 ∧ Below w.heap.size w w' := by
  have HR0 := Aside0.mk hr0
  have HBY := Aside0.mk hby
  obtain ⟨p1, p2, hpp⟩ : ∃ p1 p2, plainR b = (p1, p2) := ⟨_, _, rfl⟩
  rw [hpp]
  dsimp only
  have HPP := Aside0.mk hpp
  clear hr0 hby hpp
  go_enter Tryd.func33, Tryd.ntmps33
  go_wp2
  go_loopw [4, 5] (fun v4 v5 wr => ∃ (q out : List Int) (pre : List (List Int)) (A : Option Addr) (c : Nat), v5 = .slice A q.length c ∧ q.length ≤ c ∧ Kd.C (Kd.int .u8) w A q.length q ∧ Kd.R (Kd.int .u8) 5 wr w.heap.size (fun _ => True) v4 out ∧ Below w.heap.size w wr ∧
      (∀ c ∈ q, 0 ≤ c ∧ c ≤ 255) ∧ (∀ c ∈ out, 0 ≤ c ∧ c ≤ 255) ∧ parse b.length b = (parse q.length q).map (fun rs => pre ++ rs) ∧ out = unruns pre ∧ out.length + q.length ≤ b.length) (fun v4 v5 wr => lenOf v5)
  case atStart =>
    exact ⟨b, [], [], A0, c0, rfl, hc0, HR0.out, Kd.R_nil _ _ _ _ _, Below.refl _ _, HBY.out, by simp, by cases parse b.length b <;> simp, rfl, by simp⟩
  case round =>
    obtain ⟨q, out, pre, A, c, rfl, hqc, hqC, hout, hbw, hqb, hob, hpar, houte, hlen⟩ := hrel
    have HQC := Aside0.mk hqC
    have HOUT := Aside0.mk hout
    have HBW := Aside0.mk hbw
    have HQB := Aside0.mk hqb
    have HOB := Aside0.mk hob
    have HPAR := Aside0.mk hpar
    have HOE := Aside0.mk houte
    clear hqC hout hbw hqb hob hpar houte
    obtain ⟨Avo, cvo, evo⟩ := Kd.R_slice HOUT.out
    subst evo
    by_cases hq : q = []
    · subst hq
      have hp0 : parse b.length b = some pre := by rw [HPAR.out, List.length_nil, parse_nil]; simp
      simp only [List.length_nil]
      by_cases h0 : out.getLast? = some 0
      · obtain ⟨o2, ho2⟩ : ∃ o2, out = o2 ++ [0] := by
          obtain ⟨o2, x, rfl⟩ : ∃ o2 x, out = o2 ++ [x] := by
            rcases List.eq_nil_or_concat out with rfl | ⟨o2, x, h⟩
            · simp at h0
            · exact ⟨o2, x, by simpa using h⟩
          simp at h0
          exact ⟨o2, by rw [h0]⟩
        have hol : out.length = o2.length + 1 := by rw [ho2]; simp
        have ht : out.take (out.length - 1) = o2 := by rw [ho2]; simp
        have hob2 : ∀ c ∈ o2, 0 ≤ c ∧ c ≤ 255 := fun c hc => HOB.out c (by rw [ho2]; exact List.mem_append_left _ hc)
        have hpf : plainR b = if stuffed o2 = b then (o2, 0) else ([], 2) := by
          unfold plainR; rw [hp0]; dsimp only; rw [← HOE.out, if_pos h0, ht]
        obtain ⟨ad, hA, hcell⟩ := (Kd.reads_of_C (enc := Value.int .u8) (d := (0 : Int)) (h1 := fun _ => rfl) (Kd.R_reads' HOUT.out).2.2).2.2 (by omega)
        have hc1 := hcell (out.length - 1) (by omega)
        have hg : out.getD (out.length - 1) 0 = 0 := by rw [ho2]; simp
        rw [hg] at hc1
        subst hA
        obtain ⟨i09, hi09, _, hsz9, _⟩ := info_parts byteInfo
        have hcut := cut_to (P := Tryd.prog) 23 5 .i64 Tryd.underlying23 hi09 (some ad) out.length cvo ((out.length : Int) - 1) (by omega) (by omega) (Kd.R_reads' HOUT.out).2.1
        rw [show ((out.length : Int) - 1).toNat = o2.length by omega] at hcut
        have hR2 := Kd.R_take (m := out.length - 1) HOUT.out (by omega)
        rw [ht, show out.length - 1 = o2.length by omega] at hR2
        have HR2 := Aside0.mk hR2
        have hem : (out.length : Int) - 1 = ((o2.length : Nat) : Int) := by omega
        have hlo : o2.length < 1000000 := by omega
        have hlc : o2.length ≤ cvo := by have := (Kd.R_reads' HOUT.out).2.1; omega
        rw [show out.length - 1 = o2.length by omega] at hc1
        have HST := Aside0.mk (fun (w1 : World) (hb : Below wr.heap.size wr w1) => refStuff_calls (some ad) cvo o2 w1 (Kd.C_below (Kd.R_reads' HR2.out).2.2 hb) hlo hob2)
        have HCV := Aside0.mk (fun (W : World) (h : Kd.C (Kd.int .u8) W A0 b.length b) => Kd.C_string (P := Tryd.prog) (src := 23) (dst := 9) (e := 5) (c := c0) Tryd.underlying23 Tryd.underlying5 Tryd.underlying9 h)
        have h0 := HCV.out wr.drew (Kd.C_drew (Kd.C_below HR0.out HBW.out))
        have HSI := Aside0.mk (pl_str_iff (stuffed o2) b (stuffed_bytes o2 hob2) HBY.out)
        have HOB2 := Aside0.mk hob2
        clear hcell hg hp0 hi09 hsz9 ho2 ht hob2 hR2
        by_cases c2 : stuffed o2 = b
        · rw [if_pos c2] at hpf
          obtain ⟨rfl, rfl⟩ := Prod.mk.inj (HPP.out.symm.trans hpf)
          have hn1 : ((strOfNums (stuffed p1)).toList == (strOfNums b).toList) = true := beq_iff_eq.mpr (HSI.out.2 c2)
          have hn2 : ((strOfNums (stuffed p1)).toList != (strOfNums b).toList) = false := bne_eq_false_iff_eq.mpr (HSI.out.2 c2)
          clear c2 hpf
          go_upto_region 14 with fail
          go_region_with (go_at_call 31; refine (HST.out _ ((Below.refl _ _).drew)).mono ?_; rintro e w1 ⟨v0, rfl, hR, hb0⟩; have hb := pl_undrew hb0; clear hb0; have h1 := HCV.out w1 (Kd.C_below (Kd.C_below HR0.out HBW.out) hb); obtain ⟨Av1, cv1, ev1⟩ := Kd.R_slice hR; subst ev1; have h2 := Kd.C_string (P := Tryd.prog) (src := 23) (dst := 9) (e := 5) (c := cv1) Tryd.underlying23 Tryd.underlying5 Tryd.underlying9 (Kd.R_reads' hR).2.2; have HB := Aside0.mk hb; clear hb hR)
          all_goals go_wp2
          all_goals go_ret2
          all_goals exact ⟨_, rfl, Kd.R_below HR2.out HB.out, HBW.out.trans (HB.out.mono HBW.out.size)⟩
        · rw [if_neg c2] at hpf
          obtain ⟨rfl, rfl⟩ := Prod.mk.inj (HPP.out.symm.trans hpf)
          have hn1 : ((strOfNums (stuffed o2)).toList == (strOfNums b).toList) = false := beq_eq_false_iff_ne.mpr (fun h => c2 (HSI.out.1 h))
          have hn2 : ((strOfNums (stuffed o2)).toList != (strOfNums b).toList) = true := bne_iff_ne.mpr (fun h => c2 (HSI.out.1 h))
          clear c2 hpf
          go_upto_region 14 with fail
          go_region_with (go_at_call 31; refine (HST.out _ ((Below.refl _ _).drew)).mono ?_; rintro e w1 ⟨v0, rfl, hR, hb0⟩; have hb := pl_undrew hb0; clear hb0; have h1 := HCV.out w1 (Kd.C_below (Kd.C_below HR0.out HBW.out) hb); obtain ⟨Av1, cv1, ev1⟩ := Kd.R_slice hR; subst ev1; have h2 := Kd.C_string (P := Tryd.prog) (src := 23) (dst := 9) (e := 5) (c := cv1) Tryd.underlying23 Tryd.underlying5 Tryd.underlying9 (Kd.R_reads' hR).2.2; have HB := Aside0.mk hb; clear hb hR)
          all_goals go_wp2
          all_goals go_ret2
          all_goals exact ⟨_, rfl, Kd.R_nil _ _ _ _ _, HBW.out.trans (HB.out.mono HBW.out.size)⟩
      · have hpf : plainR b = ([], 2) := by
          unfold plainR; rw [hp0]; dsimp only; rw [← HOE.out, if_neg h0]
        obtain ⟨rfl, rfl⟩ := Prod.mk.inj (HPP.out.symm.trans hpf)
        rcases List.eq_nil_or_concat out with rfl | ⟨o2, x, hx⟩
        · clear hp0 hpf h0
          simp only [List.length_nil] at *
          go_wp2
          go_ret2
          exact ⟨_, rfl, Kd.R_nil _ _ _ _ _, HBW.out⟩
        · rw [List.concat_eq_append] at hx
          have hx0 : x ≠ 0 := fun e => h0 (by rw [hx, e]; simp)
          have hol : out.length = o2.length + 1 := by rw [hx]; simp
          obtain ⟨ad, hA, hcell⟩ := (Kd.reads_of_C (enc := Value.int .u8) (d := (0 : Int)) (h1 := fun _ => rfl) (Kd.R_reads' HOUT.out).2.2).2.2 (by omega)
          have hc1 := hcell (out.length - 1) (by omega)
          have hg : out.getD (out.length - 1) 0 = x := by rw [hx]; simp
          rw [hg] at hc1
          subst hA
          have hem : (out.length : Int) - 1 = ((o2.length : Nat) : Int) := by omega
          rw [show out.length - 1 = o2.length by omega] at hc1
          have hxb : (x == 0) = false := by simpa using hx0
          have hxn : (x != 0) = true := by simpa using hx0
          clear hcell hg hp0 hpf h0 hx
          go_wp2
          go_ret2
          exact ⟨_, rfl, Kd.R_nil _ _ _ _ _, HBW.out⟩
    · have hpos : 0 < q.length := List.length_pos_iff.2 hq
      have HPS := Aside0.mk (parse_step q hq)
      obtain ⟨ad, rfl, hcell⟩ := (Kd.reads_of_C (enc := Value.int .u8) (d := (0 : Int)) (h1 := fun _ => rfl) (Kd.C_below HQC.out HBW.out)).2.2 hpos
      have hc1 := hcell 0 hpos
      obtain ⟨z, hz⟩ : ∃ z, q.headD 0 = z := ⟨_, rfl⟩
      have hzm : 0 ≤ z ∧ z ≤ 255 := by
        apply HQB.out
        rw [← hz]
        cases q with | nil => exact absurd rfl hq | cons x t => simp
      have hzg : q.getD 0 0 = z := by rw [← hz]; cases q <;> rfl
      rw [hzg, Addr.add_zero'] at hc1
      rw [hz] at HPS
      have HQN := Aside0.mk hq
      have HZ := Aside0.mk hz
      clear hcell hzg hz hq
      by_cases hz0 : z = 0
      · subst hz0
        have hpf : plainR b = ([], 2) := by
          unfold plainR; rw [HPAR.out, HPS.out]; simp
        obtain ⟨rfl, rfl⟩ := Prod.mk.inj (HPP.out.symm.trans hpf)
        clear hpf
        go_wp2
        go_ret2
        exact ⟨_, rfl, Kd.R_nil _ _ _ _ _, HBW.out⟩
      · obtain ⟨n, rfl⟩ : ∃ n : Nat, z = (n : Int) + 1 := ⟨(z - 1).toNat, by omega⟩
        have hn254 : n ≤ 254 := by omega
        clear hz0 hzm
        by_cases hnl : q.length ≤ n
        · have hpf : plainR b = ([], 2) := by
            unfold plainR; rw [HPAR.out, HPS.out, if_neg (by omega)]; simp
          obtain ⟨rfl, rfl⟩ := Prod.mk.inj (HPP.out.symm.trans hpf)
          clear hpf
          go_wp2
          go_ret2
          exact ⟨_, rfl, Kd.R_nil _ _ _ _ _, HBW.out⟩
        · have hpar2 : parse q.length q = (parse (q.drop (n + 1)).length (q.drop (n + 1))).map fun rs => (q.drop 1).take n :: rs := by
            rw [HPS.out, if_pos (by omega), show ((n : Int) + 1).toNat = n + 1 by omega, Nat.add_sub_cancel]
          obtain ⟨i09, hi09, _, hsz9, _⟩ := info_parts byteInfo
          obtain ⟨adm, hmid, hmC⟩ := mid_at (P := Tryd.prog) 23 5 Tryd.underlying23 hi09 hsz9 ad c n q (by omega) hqc
          obtain ⟨hd, hhd⟩ : ∃ hd, (q.drop 1).take n = hd := ⟨_, rfl⟩
          have hhl : hd.length = n := by rw [← hhd, List.length_take, List.length_drop]; omega
          rw [hhd] at hmid hmC hpar2
          have HMC := Aside0.mk (hmC w HQC.out)
          have HHL := Aside0.mk hhl
          have HHD := Aside0.mk hhd
          have hhb : ∀ x ∈ hd, 0 ≤ x ∧ x ≤ 255 := by
            intro x hx
            rw [← hhd] at hx
            exact HQB.out x (List.mem_of_mem_drop (List.mem_of_mem_take hx))
          have HHB := Aside0.mk hhb
          have HP2 := Aside0.mk hpar2
          clear hmC hhl hhd hhb hi09 hsz9 hpar2
          obtain ⟨adr, hbr, hdrop, hdC⟩ := drop_at (P := Tryd.prog) 23 5 .i64 Tryd.underlying23 (info_parts byteInfo).choose_spec.1 (info_parts byteInfo).choose_spec.2.2.1 ad c (n + 1) q (by omega) hqc
          have e1 : ((n + 1 : Nat) : Int) = (n : Int) + 1 := by omega
          have hdl : (q.drop (n + 1)).length = q.length - (n + 1) := List.length_drop
          rw [e1] at hdrop
          have HDC := Aside0.mk (hdC w HQC.out)
          have HDL := Aside0.mk hdl
          obtain ⟨qd, hqd⟩ : ∃ qd, q.drop (n + 1) = qd := ⟨_, rfl⟩
          rw [hqd] at hdrop HDC HDL HP2
          have HQD := Aside0.mk hqd
          have hwr : IntKind.i64.wrap ((n : Int) + 1) = (n : Int) + 1 := by rw [IntKind.wrap_i64]; omega
          clear e1 hdl hdC hqd
          have hmap : parse b.length b = (parse qd.length qd).map (fun rs => (pre ++ [hd]) ++ rs) := by
            rw [HPAR.out, HP2.out, Option.map_map]
            congr 1
            funext rs
            simp
          have HMAP := Aside0.mk hmap
          have HQB2 : Aside0 (∀ c ∈ qd, 0 ≤ c ∧ c ≤ 255) := ⟨fun c hc => HQB.out c (List.mem_of_mem_drop (by rw [HQD.out]; exact hc))⟩
          clear hmap
          go_upto_region 9 with ((with_reducible refine gate_builtin (b := .append) (xs := #[.tmp 25, .tmp 29]) rfl ?_); at_builtin; refine Kd.R_append_rows (Kd.int .u8) (w0 := w) w.heap.size rfl (.tmp 25) (.tmp 29) 23 5 (.int .u8 0) 1 rfl Tryd.underlying23 byteInfo rfl (by decide) (by omega) _ out hd _ _ _ (fun k_ => True) (fun _ => False) rfl rfl HOUT.out (Kd.C_below HMC.out HBW.out) (fun _ _ h => h) (fun _ h => h.elim) (fun k_ hk => trivial) HBW.out HBW.out.size (by have := HHL.out; omega) ?_; intro v2 w2 ho hb hg hat; obtain ⟨o1, ho1⟩ : ∃ o1, out ++ hd = o1 := ⟨_, rfl⟩; rw [ho1] at ho; have HO1L := Aside0.mk (show o1.length = out.length + n by rw [← ho1, List.length_append, HHL.out]); have HO1E := Aside0.mk ho1; clear ho1; have HO2 := Aside0.mk ho; have HB2 := Aside0.mk hb; clear ho hb hg hat; obtain ⟨Av2, cv2, ev2⟩ := Kd.R_slice HO2.out; subst ev2)
          by_cases h254 : n < 254
          · obtain ⟨z0, hz0⟩ : ∃ z, z = ([0] : List Int) := ⟨_, rfl⟩
            have HZ0 := Aside0.mk hz0
            have hzl : z0.length = 1 := by rw [hz0]; rfl
            have HZL := Aside0.mk hzl
            clear hz0 hzl
            go_wp2_with (first
              | ((with_reducible refine gate_dst (N := 38) rfl ?_); refine Kd.R_lit (Kd.int .u8) _ 5 ?hg (N := 38) ?hd (xs := ([0] : List Int)) (inner := [.int .u8 0]) (ok := fun _ => True) (okp := fun _ => True) ?hr ?hp (fun _ hk => hk) trivial (Below.refl _ _) (Nat.le_refl _) (by simp) ?_; (case hd => rfl); (case hg => rfl); (case hr => first | (go_simp; done) | (go_simp; rfl)); (case hp => exact (Reps.one (show Kd.M (Kd.int .u8) _ _ _ 0 [.int .u8 0] from rfl) (Reps.none _ _))); intro v125 w8 ho9 hb hg_ hnew_; clear hg_ hnew_; rw [← HZ0.out] at ho9; have n0_ := Aside0.mk (Kd.R_elder' HO2.out (Kd.R_base ho9) hb); have n1_ := Aside0.mk (Kd.R_lower (Kd.R_new' ho9 (Kd.R_lt HO2.out)) HB2.out.size); have n2_ := Aside0.mk (below_step HB2.out hb); clear HO2 HB2; have HO2 := n0_; have HO3 := n1_; have HB2 := n2_; clear n0_ n1_ n2_; clear hb ho9; obtain ⟨Ao11, co11, eo11⟩ := Kd.R_slice HO3.out; subst eo11)
              | ((with_reducible refine gate_builtin (b := .append) (xs := #[.tmp 37, .tmp 38]) rfl ?_); at_builtin; refine Kd.R_append_rows (Kd.int .u8) (w0 := w) w.heap.size rfl (.tmp 37) (.tmp 38) 23 5 (.int .u8 0) 1 rfl Tryd.underlying23 byteInfo rfl (by decide) (by omega) _ o1 z0 _ _ _ (fun k_ => some k_ ≠ (.slice Ao11 z0.length co11 : Value).ownBlock) (fun _ => False) rfl rfl (Kd.R_mono HO2.out (fun _ hk => hk.2)) (Kd.R_reads' HO3.out).2.2 (fun _ _ h => h) (fun _ h => h.elim) (fun k_ hk => Kd.fresh' (Kd.R_lt HO3.out) k_ hk) HB2.out HB2.out.size (by have := HZL.out; have := HO1L.out; omega) ?_; intro v128 w11 ho hb hg hat; clear HB2 HO2; have HB2 := Aside0.mk hb; have HO4 := Aside0.mk ho; clear ho hb hg hat))
            go_roundw
            case rel =>
              have hob3 : ∀ x ∈ o1 ++ z0, 0 ≤ x ∧ x ≤ 255 := by
                intro x hx
                rw [← HO1E.out, HZ0.out] at hx
                simp only [List.mem_append, List.mem_singleton] at hx
                rcases hx with (hx | hx) | hx
                · exact HOB.out x hx
                · exact HHB.out x hx
                · omega
              exact ⟨qd, o1 ++ z0, pre ++ [hd], some adr, c - (n + 1), rfl, by have := HDL.out; omega, HDC.out, Kd.R_mono HO4.out (fun _ _ => trivial), HB2.out, HQB2.out, hob3, HMAP.out, by rw [unruns_snoc, ← HOE.out, ← HO1E.out, HZ0.out]; simp [unrun, HHL.out, h254], by have := HO1L.out; have := HZL.out; have := HDL.out; simp; omega⟩
            case measure => have := HDL.out; simp [lenOf]; omega
          · obtain rfl : n = 254 := by omega
            go_wp2
            go_roundw
            case rel =>
              have hob3 : ∀ x ∈ o1, 0 ≤ x ∧ x ≤ 255 := by
                intro x hx
                rw [← HO1E.out] at hx
                rcases List.mem_append.1 hx with hx | hx
                · exact HOB.out x hx
                · exact HHB.out x hx
              exact ⟨qd, o1, pre ++ [hd], some adr, c - (254 + 1), rfl, by have := HDL.out; omega, HDC.out, HO2.out, HB2.out, HQB2.out, hob3, HMAP.out, by rw [unruns_snoc, ← HOE.out, ← HO1E.out]; simp [unrun, HHL.out], by have := HO1L.out; have := HDL.out; omega⟩
            case measure => have := HDL.out; simp [lenOf]; omega
end Go.Proofs.YtlbmfbbdfmmfnaaDoor
