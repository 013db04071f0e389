/- The contract of frame.Plain: for all bytes. -/
import Derived.Test.YtlbmfbbdfmmfnaaDoorRefStuff
import Derived.Test.YtlbmfbbdfmmfnaaDoorParse
import Derived.Deep.RegionLaw
import Derived.Deep.RegionWith
namespace Go.Proofs.YtlbmfbbdfmmfnaaDoor
open Go.RowKit Go.Shelf Go.Proofs.YtlbmfbbdfmmfnaaDoorW.PrintWords Go.Proofs.YtlbmfbbdfmmfnaaDoorW.PrintLast Go.Proofs.YtlbmfbbdfmmfnaaDoorW.PrintMore
set_option linter.unusedVariables false
set_option linter.unusedSimpArgs false
attribute [local go_sem] Oper.semAt_some max2_int min2_int max_two min_two max_three min_three max_four min_four

/-- 's[1:n+1]' of a slice that is not nil. -/
theorem mid_at {P : Program} (t e : TypeId) {i : TypeInfo} (ht : P.underlying t = some (.slice e)) (hi : P.info? e = some i) (hsz : i.size = 1) (ad : Addr) (c nn : Nat) (xs : List Int) (hm : nn + 1 ≤ xs.length) (hc : xs.length ≤ c) :
    ∃ ad' : Addr, (∀ W : World, (Instr.slice t (.slice (some ad) xs.length c) (some (.int .i64 1)) (some (.int .i64 ((nn : Int) + 1))) none).run P W = .ok (.slice (some ad') ((xs.drop 1).take nn).length (c - 1)) W) ∧
      ∀ (w : World), Kd.C (Kd.int .u8) w (some ad) xs.length xs → Kd.C (Kd.int .u8) w (some ad') ((xs.drop 1).take nn).length ((xs.drop 1).take nn) := by
  have hcut := cut_mid (P := P) t e .i64 .i64 ht hi 1 hsz (some ad) xs.length c 1 ((nn : Int) + 1) (by omega) (by omega) (by omega) hc
  have h1 : (1 : Int).toNat = 1 := rfl
  have h2 : ((nn : Int) + 1).toNat = nn + 1 := by omega
  have hl : ((xs.drop 1).take nn).length = nn := by rw [List.length_take, List.length_drop]; omega
  have he : (xs.take (nn + 1)).drop 1 = (xs.drop 1).take nn := by rw [List.drop_take]; rfl
  rw [h1, h2] at hcut
  refine ⟨if c = 1 then ad else ad.add 1, fun W => ?_, fun w h => ?_⟩
  · rw [hcut W, hl]
    split <;> rfl
  · have h3 := ((Kd.reads_of_C (enc := Value.int .u8) (d := (0 : Int)) (h1 := fun _ => rfl) h).take_ (nn + 1) hm).drop_ (c := c) 1 (by omega) (by omega)
    have h4 := Kd.C_of_reads (h1 := fun _ => rfl) h3
    rw [he] at h4
    rw [hl]
    have e : (if c = 1 then some ad else (some ad).map (·.add 1)) = some (if c = 1 then ad else ad.add 1) := by split <;> rfl
    rw [e] at h4
    exact h4

/-- append, as one step of a region that draws its order. -/
theorem step_append_R {P : Program} {ops : Array Oper} {o : Oper} {a : Act} {w w0 : World} {K : Act → World → Prop} {Q : Exit → Act → World → Prop} {E : Prop}
    (hg : o.guard = none) (s x : Operand) (t : TypeId) (hop : o.op = Op.call { callee := Callee.builtin Builtin.append, args := #[s, x], argTypes := #[t, t] })
    (base : Nat) (h1 : P.underlying t = some (.slice 5)) (h2 : (P.info? 5).map (fun i => (i.zero, i.size, i.bytes)) = some (some (.int .u8 0), 1, 1))
    (v : Value) (xs ys : List Int) (A : Option Addr) (n cap : Nat) (hv : v = .slice A n cap) (hs : a.eval s = .slice A n cap) (hR : Kd.R (Kd.int .u8) 5 w base (fun _ => True) v xs)
    (ad : Addr) (m c : Nat) (hx : a.eval x = .slice (some ad) m c) (hm : m = ys.length) (hC : Kd.C (Kd.int .u8) w (some ad) ys.length ys) (b1 : xs.length + ys.length < 140737488355328) (HB : Below base w0 w) (hbase : base ≤ w.heap.size)
    (hK : ∀ v' w', Kd.R (Kd.int .u8) 5 w' base (fun _ => True) v' (xs ++ ys) → Below base w0 w' → K (a.put o.dst v') w') :
    if Region.wanted o (yielded ops a.tmps) = true then Oper.wp P o a w K Q else E := by
  have hw : Region.wanted o (yielded ops a.tmps) = true := by simp [Region.wanted, hg]
  rw [if_pos hw]
  obtain ⟨i0, hi, hz0, hz1, hz2⟩ := info_parts h2
  have hown := Kd.own_of_R (enc := Value.int .u8) hR
  subst hm hv
  obtain ⟨v', w', hrun, r1, r2, _⟩ := run_append_own (P := P) w base t o.type 5 i0 (.int .u8 0) 1 1 h1 hi hz0 hz1 hz2 rfl (by decide) _ _ _ hown ad ys.length c (nums .u8 ys) (by simp [nums]) (cells_of_C hC rfl) (by simp [nums, Value.oneCell']) (by unfold maxLen; omega) (by omega) hbase
  have hn : n = xs.length := (Kd.R_reads' hR).1
  unfold Oper.wp
  rw [hn] at hs hrun
  simp [execOp, hop, resolve, invoke, builtin, hs, hx, hrun, Result.andThen]
  refine hK v' w' (Kd.R_of_own (enc := Value.int .u8) (h1 := fun _ => rfl) (by rw [List.length_append]; simpa [nums, encs] using r1) (fun _ _ => trivial)) (HB.grown r2 hbase (own_base hown))

theorem lastLen_snoc (pre : List (List Int)) (r : List Int) : lastLen (pre ++ [r]) = r.length := by simp [lastLen]
theorem unruns_snoc (pre : List (List Int)) (r : List Int) : unruns (pre ++ [r]) = unruns pre ++ unrun r := by simp [unruns]

set_option maxHeartbeats 2000000 in
set_option maxRecDepth 100000 in
theorem framePlain_calls (A0 : Option Addr) (c0 : Nat) (b : List Int) (w : World) (hr0 : Kd.C (Kd.int .u8) w A0 b.length b) (hc0 : b.length ≤ c0) (hl : b.length < 1000000) (hby : ∀ c ∈ b, 0 ≤ c ∧ c ≤ 255) :
    Calls Tryd.prog 35 #[.slice A0 b.length c0] w fun e w' => ∃ v0_ : Value, e = .returned (.tuple #[v0_, .int .i64 (plainF b).2]) ∧ Kd.R (Kd.int .u8) 5 w' w.heap.size (fun _ => True) v0_ (plainF b).1 ∧ Below w.heap.size w w' := by
  have HR0 := Aside0.mk hr0
  have HBY := Aside0.mk hby
  obtain ⟨p1, p2, hpp⟩ : ∃ p1 p2, plainF b = (p1, p2) := ⟨_, _, rfl⟩
  rw [hpp]
  dsimp only
  have HPP := Aside0.mk hpp
  clear hr0 hby hpp
  go_enter Tryd.func35, Tryd.ntmps35
  go_wp2
  go_loopw [0, 4, 5] (fun v0 v4 v5 wr => ∃ (q out : List Int) (pre : List (List Int)) (A : Option Addr) (c last : Nat), v0 = .slice A q.length c ∧ q.length ≤ c ∧ Kd.C (Kd.int .u8) w A q.length q ∧ Kd.R (Kd.int .u8) 5 wr w.heap.size (fun _ => True) v4 out ∧ Below w.heap.size w wr ∧ v5 = .int .i64 (last : Int) ∧ last ≤ 254 ∧
      (∀ c ∈ q, 0 ≤ c ∧ c ≤ 255) ∧ (∀ r ∈ pre, (0 : Int) ∉ r) ∧ parse b.length b = (parse q.length q).map (fun rs => pre ++ rs) ∧ out = unruns pre ∧ last = lastLen pre ∧ out.length + q.length ≤ b.length) (fun v0 v4 v5 wr => lenOf v0)
  case atStart =>
    exact ⟨b, [], [], A0, c0, 254, rfl, hc0, HR0.out, Kd.R_nil _ _ _ _ _, Below.refl _ _, rfl, Nat.le_refl _, HBY.out, by simp, by cases parse b.length b <;> simp, rfl, rfl, by simp⟩
  case round =>
    obtain ⟨q, out, pre, A, c, last, rfl, hqc, hqC, hout, hbw, rfl, hl254, hqb, hpre, hpar, houte, hlast, hlen⟩ := hrel
    have HQC := Aside0.mk hqC
    have HOUT := Aside0.mk hout
    have HBW := Aside0.mk hbw
    have HQB := Aside0.mk hqb
    have HPRE := Aside0.mk hpre
    have HPAR := Aside0.mk hpar
    have HOE := Aside0.mk houte
    have HLA := Aside0.mk hlast
    clear hqC hout hbw hqb hpre hpar houte hlast
    obtain ⟨Avo, cvo, evo⟩ := Kd.R_slice HOUT.out
    subst evo
    by_cases hq : q = []
    · subst hq
      have hp0 : parse b.length b = some pre := by rw [HPAR.out, List.length_nil, parse_nil]; simp
      simp only [List.length_nil]
      by_cases h254 : last = 254
      · subst h254
        have hpf : plainF b = ([], 2) := by
          unfold plainF; rw [hp0]; dsimp only; rw [if_neg (fun h => by have := HLA.out; omega)]
        obtain ⟨rfl, rfl⟩ := Prod.mk.inj (HPP.out.symm.trans hpf)
        clear hp0 hpf
        go_wp2
        go_ret2
        exact ⟨_, rfl, Kd.R_nil _ _ _ _ _, HBW.out⟩
      · have hpf : plainF b = (out.take (out.length - 1), 0) := by
          unfold plainF; rw [hp0]; dsimp only; rw [if_pos ⟨HPRE.out, by have := HLA.out; omega⟩, HOE.out]
        have hop : 0 < out.length := by
          obtain ⟨a, ha⟩ := unruns_last pre (by have := HLA.out; omega)
          rw [HOE.out, ha]; simp
        obtain ⟨rfl, rfl⟩ := Prod.mk.inj (HPP.out.symm.trans hpf)
        have hd254 : ((last : Int) == 254) = false := by simp; omega
        obtain ⟨i09, hi09, _, hsz9, _⟩ := info_parts byteInfo
        have hcut := cut_to (P := Tryd.prog) 23 5 .i64 Tryd.underlying23 hi09 Avo out.length cvo ((out.length : Int) - 1) (by omega) (by omega) (Kd.R_reads' HOUT.out).2.1
        rw [show ((out.length : Int) - 1).toNat = out.length - 1 by omega] at hcut
        have HR2 := Aside0.mk (Kd.R_take (m := out.length - 1) HOUT.out (by omega))
        clear hp0 hpf hi09 hsz9 h254
        go_wp2
        go_ret2
        exact ⟨_, rfl, HR2.out, HBW.out⟩
    · have hpos : 0 < q.length := List.length_pos_iff.2 hq
      have HPS := Aside0.mk (parse_step q hq)
      obtain ⟨ad, rfl, hcell⟩ := (Kd.reads_of_C (enc := Value.int .u8) (d := (0 : Int)) (h1 := fun _ => rfl) (Kd.C_below HQC.out HBW.out)).2.2 hpos
      have hc1 := hcell 0 hpos
      obtain ⟨z, hz⟩ : ∃ z, q.headD 0 = z := ⟨_, rfl⟩
      have hzm : 0 ≤ z ∧ z ≤ 255 := by
        apply HQB.out
        rw [← hz]
        cases q with | nil => exact absurd rfl hq | cons x t => simp
      have hzg : q.getD 0 0 = z := by rw [← hz]; cases q <;> rfl
      rw [hzg, Addr.add_zero'] at hc1
      rw [hz] at HPS
      have HQN := Aside0.mk hq
      have HZ := Aside0.mk hz
      clear hcell hzg hz hq
      by_cases hz0 : z = 0
      · subst hz0
        have hpf : plainF b = ([], 2) := by
          unfold plainF; rw [HPAR.out, HPS.out]; simp
        obtain ⟨rfl, rfl⟩ := Prod.mk.inj (HPP.out.symm.trans hpf)
        clear hpf
        go_wp2
        go_ret2
        exact ⟨_, rfl, Kd.R_nil _ _ _ _ _, HBW.out⟩
      · obtain ⟨n, rfl⟩ : ∃ n : Nat, z = (n : Int) + 1 := ⟨(z - 1).toNat, by omega⟩
        have hn254 : n ≤ 254 := by omega
        clear hz0 hzm
        by_cases hnl : q.length ≤ n
        · have hpf : plainF b = ([], 2) := by
            unfold plainF; rw [HPAR.out, HPS.out, if_neg (by omega)]; simp
          obtain ⟨rfl, rfl⟩ := Prod.mk.inj (HPP.out.symm.trans hpf)
          clear hpf
          go_wp2
          go_ret2
          exact ⟨_, rfl, Kd.R_nil _ _ _ _ _, HBW.out⟩
        · have hpar2 : parse q.length q = (parse (q.drop (n + 1)).length (q.drop (n + 1))).map fun rs => (q.drop 1).take n :: rs := by
            rw [HPS.out, if_pos (by omega), show ((n : Int) + 1).toNat = n + 1 by omega, Nat.add_sub_cancel]
          obtain ⟨i09, hi09, _, hsz9, _⟩ := info_parts byteInfo
          obtain ⟨adm, hmid, hmC⟩ := mid_at (P := Tryd.prog) 23 5 Tryd.underlying23 hi09 hsz9 ad c n q (by omega) hqc
          obtain ⟨hd, hhd⟩ : ∃ hd, (q.drop 1).take n = hd := ⟨_, rfl⟩
          have hhl : hd.length = n := by rw [← hhd, List.length_take, List.length_drop]; omega
          rw [hhd] at hmid hmC hpar2
          have HMC := Aside0.mk (hmC w HQC.out)
          have HHL := Aside0.mk hhl
          have HHD := Aside0.mk hhd
          have hhb : ∀ x ∈ hd, 0 ≤ x ∧ x ≤ 255 := by
            intro x hx
            rw [← hhd] at hx
            exact HQB.out x (List.mem_of_mem_drop (List.mem_of_mem_take hx))
          have hix := indexByte_zero hd hhb
          have HIX : Aside0 (Calls Tryd.prog 38 #[.slice (some adm) hd.length (c - 1), .int .u8 0] wr fun e w' => e = .returned (.int .i64 (Lib.indexByte (Lib.bytesOf hd) 0)) ∧ w' = wr) := by
            refine ⟨(Tryd.bytes_IndexByte_at adm hd.length (c - 1) hd 0 wr rfl ?_).mono ?_⟩
            · intro i hi
              obtain ⟨ad2, e2, h2⟩ := (Kd.reads_of_C (enc := Value.int .u8) (d := (0 : Int)) (h1 := fun _ => rfl) (Kd.C_below HMC.out HBW.out)).2.2 (by omega)
              cases e2
              exact h2 i hi
            · rintro e w' ⟨rfl, rfl⟩
              exact ⟨rfl, rfl⟩
          have HP2 := Aside0.mk hpar2
          clear hmC hhl hhd hhb hi09 hsz9 hpar2
          by_cases h0 : (0 : Int) ∈ hd
          · have hk : ∃ k : Nat, Lib.indexByte (Lib.bytesOf hd) 0 = (k : Int) := by
              rw [hix]
              by_cases hlt : (hd.takeWhile (fun c => c != 0)).length < hd.length
              · exact ⟨_, if_pos hlt⟩
              · exfalso
                have he : hd.takeWhile (fun c => c != 0) = hd := by
                  have := takeWhile_le hd (fun c => c != 0)
                  have h1 := take_takeWhile hd (fun c => c != 0)
                  rw [← h1, List.take_of_length_le (by omega)]
                rw [← he] at h0
                have := mem_takeWhile (fun c => c != 0) 0 hd h0
                simp at this
            obtain ⟨k, hk⟩ := hk
            rw [hk] at HIX
            have hpf : plainF b = ([], 2) := by
              unfold plainF
              rw [HPAR.out, HP2.out]
              cases parse (q.drop (n + 1)).length (q.drop (n + 1)) with
              | none => simp
              | some rs =>
                simp only [Option.map_some]
                rw [if_neg]
                intro h
                exact h.1 hd (by simp) h0
            obtain ⟨rfl, rfl⟩ := Prod.mk.inj (HPP.out.symm.trans hpf)
            clear hpf hix hk h0
            go_wp2_with (go_at_call 38; refine HIX.out.mono ?_; rintro e w' ⟨rfl, rfl⟩)
            go_ret2
            exact ⟨_, rfl, Kd.R_nil _ _ _ _ _, HBW.out⟩
          · have hk : Lib.indexByte (Lib.bytesOf hd) 0 = -1 := by
              rw [hix, if_neg]
              intro hlt
              have hs := takeWhile_stop hd (fun c => c != 0) hlt
              have hz : hd[(hd.takeWhile (fun c => c != 0)).length] = 0 := by simpa using hs
              exact h0 (by rw [← hz]; exact List.getElem_mem _)
            rw [hk] at HIX
            have H0 := Aside0.mk h0
            clear hix hk h0
            go_upto_region 7 with (go_at_call 38; refine HIX.out.mono ?_; rintro e w' ⟨rfl, rfl⟩)
            obtain ⟨adr, hbr, hdrop, hdC⟩ := drop_at (P := Tryd.prog) 23 5 .i64 Tryd.underlying23 (info_parts byteInfo).choose_spec.1 (info_parts byteInfo).choose_spec.2.2.1 ad c (n + 1) q (by omega) hqc
            have e1 : ((n + 1 : Nat) : Int) = (n : Int) + 1 := by omega
            have hdl : (q.drop (n + 1)).length = q.length - (n + 1) := List.length_drop
            rw [e1] at hdrop
            have HDC := Aside0.mk (hdC w HQC.out)
            have HDL := Aside0.mk hdl
            obtain ⟨qd, hqd⟩ : ∃ qd, q.drop (n + 1) = qd := ⟨_, rfl⟩
            rw [hqd] at hdrop HDC HDL HP2
            have HQD := Aside0.mk hqd
            have hwr : IntKind.i64.wrap ((n : Int) + 1) = (n : Int) + 1 := by rw [IntKind.wrap_i64]; omega
            clear e1 hdl hdC hqd
            go_region_law (refine step_append_R rfl (.tmp 31) (.tmp 35) 23 rfl w.heap.size Tryd.underlying23 byteInfo _ out hd Avo out.length cvo rfl (by simp [Act.eval, Act.put]) (Kd.R_drew HOUT.out) adm hd.length (c - 1) (by simp [Act.eval, Act.put]) rfl (Kd.C_drew (Kd.C_below HMC.out HBW.out)) (by have := HHL.out; omega) (below_drew1 HBW.out) HBW.out.size ?_; intro v2 w2 ho hb; obtain ⟨o1, ho1⟩ : ∃ o1, out ++ hd = o1 := ⟨_, rfl⟩; rw [ho1] at ho; have HO1L := Aside0.mk (show o1.length = out.length + n by rw [← ho1, List.length_append, HHL.out]); have HO1E := Aside0.mk ho1; clear ho1; have HO2 := Aside0.mk ho; have HB2 := Aside0.mk hb; clear ho hb; obtain ⟨Av2, cv2, ev2⟩ := Kd.R_slice HO2.out; subst ev2)
            have hmap : parse b.length b = (parse qd.length qd).map (fun rs => (pre ++ [hd]) ++ rs) := by
              rw [HPAR.out, HP2.out, Option.map_map]
              congr 1
              funext rs
              simp
            have HMAP := Aside0.mk hmap
            have HPR2 : Aside0 (∀ r ∈ pre ++ [hd], (0 : Int) ∉ r) := by
              refine ⟨fun r hr => ?_⟩
              rcases List.mem_append.1 hr with h | h
              · exact HPRE.out r h
              · rw [List.mem_singleton.1 h]; exact H0.out
            have HQB2 : Aside0 (∀ c ∈ qd, 0 ≤ c ∧ c ≤ 255) := ⟨fun c hc => HQB.out c (List.mem_of_mem_drop (by rw [HQD.out]; exact hc))⟩
            clear hmap
            by_cases h254 : n < 254
            · obtain ⟨z0, hz0⟩ : ∃ z, z = ([0] : List Int) := ⟨_, rfl⟩
              have HZ0 := Aside0.mk hz0
              have hzl : z0.length = 1 := by rw [hz0]; rfl
              have HZL := Aside0.mk hzl
              clear hz0 hzl
              go_wp2_with (first
                | ((with_reducible refine gate_dst (N := 45) rfl ?_); refine Kd.R_lit (Kd.int .u8) _ 5 ?hg (N := 45) ?hd (xs := ([0] : List Int)) (inner := [.int .u8 0]) (ok := fun _ => True) (okp := fun _ => True) ?hr ?hp (fun _ hk => hk) trivial (Below.refl _ _) (Nat.le_refl _) (by simp) ?_; (case hd => rfl); (case hg => rfl); (case hr => first | (go_simp; done) | (go_simp; rfl)); (case hp => exact (Reps.one (show Kd.M (Kd.int .u8) _ _ _ 0 [.int .u8 0] from rfl) (Reps.none _ _))); intro v125 w8 ho9 hb hg_ hnew_; clear hg_ hnew_; rw [← HZ0.out] at ho9; have n0_ := Aside0.mk (Kd.R_elder' HO2.out (Kd.R_base ho9) hb); have n1_ := Aside0.mk (Kd.R_lower (Kd.R_new' ho9 (Kd.R_lt HO2.out)) HB2.out.size); have n2_ := Aside0.mk (below_step HB2.out hb); clear HO2 HB2; have HO2 := n0_; have HO3 := n1_; have HB2 := n2_; clear n0_ n1_ n2_; clear hb ho9; obtain ⟨Ao11, co11, eo11⟩ := Kd.R_slice HO3.out; subst eo11)
                | ((with_reducible refine gate_builtin (b := .append) (xs := #[.tmp 44, .tmp 45]) rfl ?_); at_builtin; refine Kd.R_append_rows (Kd.int .u8) (w0 := w) w.heap.size rfl (.tmp 44) (.tmp 45) 23 5 (.int .u8 0) 1 rfl Tryd.underlying23 byteInfo rfl (by decide) (by omega) _ o1 z0 _ _ _ (fun k_ => some k_ ≠ (.slice Ao11 z0.length co11 : Value).ownBlock) (fun _ => False) rfl rfl (Kd.R_mono HO2.out (fun _ hk => hk.2)) (Kd.R_reads' HO3.out).2.2 (fun _ _ h => h) (fun _ h => h.elim) (fun k_ hk => Kd.fresh' (Kd.R_lt HO3.out) k_ hk) HB2.out HB2.out.size (by have := HZL.out; have := HO1L.out; omega) ?_; intro v128 w11 ho hb hg hat; clear HB2 HO2; have HB2 := Aside0.mk hb; have HO4 := Aside0.mk ho; clear ho hb hg hat))
              go_roundw
              case rel => exact ⟨qd, o1 ++ z0, pre ++ [hd], some adr, c - (n + 1), n, rfl, by have := HDL.out; omega, HDC.out, Kd.R_mono HO4.out (fun _ _ => trivial), HB2.out, rfl, hn254, HQB2.out, HPR2.out, HMAP.out, by rw [unruns_snoc, ← HOE.out, ← HO1E.out, HZ0.out]; simp [unrun, HHL.out, h254], by rw [lastLen_snoc, HHL.out], by have := HO1L.out; have := HZL.out; have := HDL.out; simp; omega⟩
              case measure => have := HDL.out; simp [lenOf]; omega
            · obtain rfl : n = 254 := by omega
              go_wp2
              go_roundw
              case rel => exact ⟨qd, o1, pre ++ [hd], some adr, c - (254 + 1), 254, rfl, by have := HDL.out; omega, HDC.out, HO2.out, HB2.out, rfl, hn254, HQB2.out, HPR2.out, HMAP.out, by rw [unruns_snoc, ← HOE.out, ← HO1E.out]; simp [unrun, HHL.out], by rw [lastLen_snoc, HHL.out], by have := HO1L.out; have := HDL.out; omega⟩
              case measure => have := HDL.out; simp [lenOf]; omega
end Go.Proofs.YtlbmfbbdfmmfnaaDoor
