/- FrameTold, walked: behind anything, and a nought, frames one behind the other, in whichever parts they come, are told as they were: for all bytes. -/
import Derived.Test.YtlbmfbbdfmmfnaaDoorFrames
namespace Go.Proofs.YtlbmfbbdfmmfnaaDoor
open Go.RowKit Go.Shelf Go.Proofs.YtlbmfbbdfmmfnaaDoorW.PrintWords Go.Proofs.YtlbmfbbdfmmfnaaDoorW.PrintLast Go.Proofs.YtlbmfbbdfmmfnaaDoorW.PrintMore
open Go.Proofs.YtlbmfbbdfmmfnaaDoor.PRdr
set_option linter.unusedVariables false
set_option linter.unusedSimpArgs false
attribute [local go_sem] Oper.semAt_some max2_int min2_int max_two min_two max_three min_three max_four min_four

theorem step_bound (s : St) (c : Int) : (stepSt s c).out.length ≤ s.out.length + 1 ∧ (stepSt s c).n ≤ s.n + 1 := by
  unfold stepSt
  split
  · split <;> exact ⟨Nat.le_succ _, Nat.le_succ _⟩
  · split
    · exact ⟨Nat.le_succ _, Nat.le_succ _⟩
    · split
      · exact ⟨by simp, Nat.le_succ _⟩
      · exact ⟨Nat.le_succ _, Nat.le_refl _⟩
theorem feed_bound : ∀ (b : List Int) (s : St), (feedSt s b).out.length ≤ s.out.length + b.length ∧ (feedSt s b).n ≤ s.n + b.length
  | [], s => ⟨Nat.le_refl _, Nat.le_refl _⟩
  | c :: b, s => by
    have h1 := feed_bound b (stepSt s c)
    have h2 := step_bound s c
    have e : feedSt s (c :: b) = feedSt (stepSt s c) b := rfl
    rw [e]
    simp only [List.length_cons]
    omega
theorem take_split (T : List Int) (f c : Nat) (h : f ≤ c) : T.take c = T.take f ++ (T.take c).drop f := by
  have h1 := List.take_append_drop f (T.take c)
  rw [List.take_take, Nat.min_eq_left h] at h1
  exact h1.symm
theorem flat_snoc (L : List (List Int)) (i : Nat) (h : i < L.length) : (L.take (i + 1)).flatMap frameOf = (L.take i).flatMap frameOf ++ frameOf (L.getD i []) := by
  rw [List.take_succ_eq_append_getElem h, List.flatMap_append, List.getD_eq_getElem?_getD, List.getElem?_eq_getElem h]
  simp
theorem flat_len : ∀ (L : List (List Int)), (∀ x ∈ L, x.length ≤ 2048) → (L.flatMap frameOf).length ≤ L.length * 2061
  | [], _ => by simp
  | b :: L, h => by
    have h1 := flat_len L (fun x hx => h x (by simp [hx]))
    have h2 := frame_len b
    have h3 := h2.2.2 (h b (by simp))
    rw [List.flatMap_cons, List.length_append, List.length_cons]
    omega
def St1 : St := ⟨[], false, [], 0⟩
set_option maxHeartbeats 2000000 in
set_option maxRecDepth 100000 in
theorem frameTold_walk (A0 : Option Addr) (c0 : Nat) (no : List Int) (A1 : Option Addr) (c1 : Nat) (L : List (List Int)) (A2 : Option Addr) (c2 : Nat) (cuts : List Int) (w : World) (hT : TabOk w) (hC0 : Kd.C (Kd.int .u8) w A0 no.length no) (hc0 : no.length ≤ c0) (hb0 : ∀ c ∈ no, 0 ≤ c ∧ c ≤ 255)
    (hC1 : Kd.C (Kd.slice 5 (Kd.int .u8)) w A1 L.length L) (hc1 : L.length ≤ c1) (hb1 : bytesAll L) (hC2 : Kd.C (Kd.int .i64) w A2 cuts.length cuts) :
    Calls Tryd.prog 12 #[.slice A0 no.length c0, .slice A1 L.length c1, .slice A2 cuts.length c2] w fun e w' => e = .returned (.bool true) ∧ Below w.heap.size w w' := by
  have HT := Aside0.mk hT
  have HC0 := Aside0.mk hC0
  have HC1 := Aside0.mk hC1
  have HC2 := Aside0.mk hC2
  have HN0 := Aside0.mk hb0
  have HN1 := Aside0.mk hb1
  have h0 : 0 < w.heap.size := World.block_lt_of_cell? w _ (hT 0 (by decide))
  clear hT hC0 hC1 hC2 hb0 hb1
  by_cases hgood : (no.length : Int) ≤ 5000 ∧ (L.length : Int) ≤ 30
  · obtain ⟨hno, hL⟩ := hgood
    have hd1 : decide ((5000 : Int) < (no.length : Int)) = false := by simp; omega
    have hd2 : decide ((30 : Int) < (L.length : Int)) = false := by simp; omega
    obtain ⟨nz, hnz⟩ : ∃ nz, no ++ [0] = nz := ⟨_, rfl⟩
    have HNZ := Aside0.mk hnz
    have HNL := Aside0.mk (show nz.length = no.length + 1 by rw [← hnz]; simp)
    have HNB := Aside0.mk (show ∀ c ∈ nz, 0 ≤ c ∧ c ≤ 255 from fun c hc => by
      rw [← hnz] at hc
      rcases List.mem_append.1 hc with h | h
      · exact HN0.out c h
      · rw [List.mem_singleton.1 h]; omega)
    obtain ⟨S0, hS0⟩ : ∃ S0, feedSt ⟨[], false, [], 0⟩ nz = S0 := ⟨_, rfl⟩
    have HS0 := Aside0.mk hS0
    have HSE := Aside0.mk (show S0.held = [] ∧ S0.sp = false by
      rw [← hS0, ← hnz, feed_append, feed_nought]
      exact after_nought _ (Fine.start.feed no HN0.out))
    clear hnz hS0
    go_enter Tryd.func12, Tryd.ntmps12
    go_wp2_with (first
      | (go_at_call 22; refine (awake_true _).mono ?_; rintro e w1 ⟨rfl, hb1⟩; have HB1 := Aside0.mk hb1; clear hb1)
      | (go_at_call 25; refine (new_any w1 w.heap.size HB1.out.size).mono ?_; rintro e w2 ⟨g, rfl, ho, hg1, hb2⟩; have HO2 := Aside0.mk ho; have HB2 := Aside0.mk (below_then HB1.out HB1.out.size hb2); clear ho hb2)
      | ((with_reducible refine gate_dst (N := 40) rfl ?_); refine Kd.R_lit (Kd.int .u8) _ 5 ?hg40 (N := 40) ?hd40 (xs := ([] : List Int)) (inner := []) (ok := fun _ => True) (okp := fun _ => True) ?hr40 ?hp40 (fun _ hk => hk) trivial (Below.refl _ _) (Nat.le_refl _) (by simp) ?_; (case hd40 => rfl); (case hg40 => rfl); (case hr40 => first | (go_simp; done) | (go_simp; rfl)); (case hp40 => exact (Reps.none _ _)); intro v40 w3 hr40 hb40 hgx40 hnx40; clear hgx40 hnx40; have HL3 := Aside0.mk hr40; have HK3 := Aside0.mk hb40; clear hr40 hb40; obtain ⟨Al3, cl3, el3⟩ := Kd.R_slice HL3.out; subst el3)
      | ((with_reducible refine gate_builtin (b := .append) (xs := #[.tmp 40, .tmp 41]) rfl ?_); at_builtin; refine Kd.R_append_rows (Kd.int .u8) (w0 := w2) w2.heap.size rfl (.tmp 40) (.tmp 41) 23 5 (.int .u8 0) 1 rfl Tryd.underlying23 byteInfo rfl (by decide) (by omega) _ [] no _ _ _ (fun _ => True) (fun _ => False) rfl rfl HL3.out (Kd.C_below (Kd.C_below HC0.out HB2.out) HK3.out) (fun _ _ h => h) (fun _ h => h.elim) (fun _ _ => trivial) HK3.out HK3.out.size (by (try simp); omega) ?_; intro vv40 w4 hr40 hb40 hgx40 hat40; clear hgx40 hat40; rw [List.nil_append] at hr40; obtain ⟨A4, c4, e4⟩ := Kd.R_slice hr40; subst e4; have HL4 := Aside0.mk hr40; have HK4 := Aside0.mk hb40; clear hr40 hb40)
      | ((with_reducible refine gate_builtin (b := .append) (xs := #[.tmp 42, .tmp 43]) rfl ?_); at_builtin; refine Kd.R_append (Kd.int .u8) (w0 := w2) w2.heap.size rfl (.tmp 42) (.tmp 43) 23 5 (.int .u8 0) 1 rfl Tryd.underlying23 byteInfo rfl (by decide) (by omega) _ no 0 [.int .u8 0] (fun _ => True) (fun _ => False) rfl rfl rfl (fun _ hk => hk.elim) (fun _ _ => trivial) HL4.out HK4.out HK4.out.size (by omega) ?_; intro vv42 w5 hr42 hb42 hgx42 hat42; clear hgx42 hat42; rw [HNZ.out] at hr42; obtain ⟨A5, c5, e5⟩ := Kd.R_slice hr42; subst e5; have HL5 := Aside0.mk hr42; have HK5 := Aside0.mk hb42; clear hr42 hb42)
      | (go_at_call 26; have HO5 := Aside0.mk (HO2.out.keep (Keep.of_below HK5.out (fun _ => False)) (fun h => h) (fun _ _ h => h)); have HB5 := Aside0.mk (HB2.out.trans (HK5.out.mono HB2.out.size)); refine (fed w5 w.heap.size g (.slice none 0 0) [] false A5 c5 nz HO5.out Fine.start HB5.out.size h0 (HT.out.below HB5.out) (Kd.R_reads' HL5.out).2.2 HNB.out (by have := HNL.out; omega) (fun hp ad e => ⟨by simp [Value.ownBlock], fun e2 => by have h1 := row_block HL5.out hp e; have h2 := blk_lt HO2.out.blk; omega⟩)).mono ?_; rintro e w6 ⟨x, rfl, hfd⟩; rw [HS0.out] at hfd ⊢; obtain ⟨hv6, ho6, _, _⟩ := hfd.ex; rw [HSE.out.1, HSE.out.2] at ho6; have HO6 := Aside0.mk ho6; have HB6 := Aside0.mk (HB5.out.trans (hfd.keep.below (fun k hs => hs.elim (fun e => e ▸ HO5.out.at_) (fun e => by simp [Value.ownBlock] at e)) HB5.out.size)); clear hfd ho6))
    go_loopw [9, 10] (fun v9 v10 wr => ∃ i : Nat, v10 = .int .i64 (i : Int) ∧ i ≤ L.length ∧ (∀ x ∈ L.take i, x.length ≤ 2048) ∧ Kd.R (Kd.int .u8) 5 wr w6.heap.size (fun _ => True) v9 ((L.take i).flatMap frameOf) ∧ Below w6.heap.size w6 wr) (fun v9 v10 wr => L.length - (intOf v10).toNat)
    case atStart => exact ⟨0, rfl, Nat.zero_le _, by simp, Kd.R_nil _ _ _ _ _, Below.refl _ _⟩
    case round =>
      obtain ⟨i, rfl, hi, hall, hra, hbl⟩ := hrel
      have HALL := Aside0.mk hall
      have HRA := Aside0.mk hra
      have HBL := Aside0.mk hbl
      have HB := Aside0.mk (HB6.out.trans (hbl.mono HB6.out.size))
      have hfl := flat_len (L.take i) hall
      have htl : (L.take i).length ≤ 30 := by rw [List.length_take]; omega
      obtain ⟨T, hTe⟩ : ∃ T, (L.take i).flatMap frameOf = T := ⟨_, rfl⟩
      rw [hTe] at HRA hfl
      have HTE := Aside0.mk hTe
      have hTl : T.length ≤ 61830 := by omega
      clear hall hra hbl hTe hfl
      obtain ⟨At, ct, et⟩ := Kd.R_slice HRA.out
      subst et
      by_cases hlt : i < L.length
      · obtain ⟨ad, Ai, ci, e1, hcell, hci, hCi⟩ := elem_at HC1.out i hlt
        subst e1
        have HFS := Aside0.mk (flat_snoc L i hlt)
        have HTK := Aside0.mk (show (L.getD i []).length ≤ 2048 → ∀ x ∈ L.take (i + 1), x.length ≤ 2048 from fun h x hx => by
          rw [List.take_succ_eq_append_getElem hlt] at hx
          rcases List.mem_append.1 hx with h1 | h1
          · exact HALL.out x h1
          · rw [List.mem_singleton.1 h1]
            rw [List.getD_eq_getElem?_getD, List.getElem?_eq_getElem hlt] at h
            exact h)
        obtain ⟨b, hbe⟩ : ∃ b, L.getD i [] = b := ⟨_, rfl⟩
        have HBB := Aside0.mk (show ∀ c ∈ b, 0 ≤ c ∧ c ≤ 255 from by
          apply HN1.out
          rw [← hbe, List.getD_eq_getElem?_getD, List.getElem?_eq_getElem hlt]
          exact List.getElem_mem hlt)
        rw [hbe] at hcell hci hCi HFS HTK
        rw [HTE.out] at HFS
        have hcr := pw_cell_below HB.out hcell
        have HCI := Aside0.mk hCi
        clear hcell hCi hbe
        by_cases hlen : (b.length : Int) ≤ 2048
        · have hs : decide ((2048 : Int) < (b.length : Int)) = false := by simp; omega
          have H1 := Aside0.mk (put_any Ai ci b wr (Kd.C_below HCI.out HB.out) hci (HT.out.below HB.out) HBB.out (by omega))
          obtain ⟨f, hf⟩ : ∃ f, frameOf b = f := ⟨_, rfl⟩
          have hfl : f.length ≤ 2061 := by
            have h1 := frame_len b
            have h2 := h1.2.2 (by omega)
            rw [hf] at h1
            omega
          rw [hf] at H1 HFS
          clear hf
          go_wp2_with (first
            | (go_at_call 23; refine H1.out.mono ?_; rintro e w7 ⟨vf, rfl, hR, hb7⟩; obtain ⟨Af, cf, ef⟩ := Kd.R_slice hR; subst ef; have HRF := Aside0.mk hR; have HK7 := Aside0.mk (HBL.out.trans (hb7.mono HBL.out.size)); have HRA7 := Aside0.mk (Kd.R_below HRA.out hb7); clear hR hb7)
            | ((with_reducible refine gate_builtin (b := .append) (xs := #[.tmp 68, .tmp 69]) rfl ?_); at_builtin; refine Kd.R_append_rows (Kd.int .u8) (w0 := w6) w6.heap.size rfl (.tmp 68) (.tmp 69) 23 5 (.int .u8 0) 1 rfl Tryd.underlying23 byteInfo rfl (by decide) (by omega) _ T f _ _ _ (fun _ => True) (fun _ => False) rfl rfl HRA7.out (Kd.R_reads' HRF.out).2.2 (fun _ _ h => h) (fun _ h => h.elim) (fun _ _ => trivial) HK7.out HK7.out.size (by omega) ?_; intro vv68 w8 hr68 hb68 hgx68 hat68; have HR8 := Aside0.mk hr68; have HK8 := Aside0.mk hb68; clear hr68 hb68 hgx68 hat68))
          go_roundw
          case rel => exact ⟨i + 1, by simp, by omega, HTK.out (by omega), by rw [HFS.out]; exact HR8.out, HK8.out⟩
          case measure => simp [intOf]; omega
        · have hs : decide ((2048 : Int) < (b.length : Int)) = true := by simp; omega
          go_wp2
          go_ret
          exact ⟨rfl, HB.out⟩
      · obtain rfl : i = L.length := by omega
        have hlt2 : decide (L.length < L.length) = false := by simp
        have HALL2 := Aside0.mk (show ∀ x ∈ L, x.length ≤ 2048 from fun x hx => HALL.out x (by rw [List.take_length]; exact hx))
        have HTT := Aside0.mk (show feedSt St1 T = ⟨[], false, L, 0⟩ by
          rw [← HTE.out, List.take_length]
          exact frames_told L [] 0 HN1.out HALL2.out)
        have HTB := Aside0.mk (show ∀ c ∈ T, 0 ≤ c ∧ c ≤ 255 from fun c hc => by
          rw [← HTE.out, List.take_length] at hc
          obtain ⟨x, hx, hc⟩ := List.mem_flatMap.1 hc
          exact frame_bytes x (HN1.out x hx) c hc)
        have HOW := Aside0.mk (HO6.out.keep (Keep.of_below HBL.out (fun _ => False)) (fun h => h) (fun _ _ h => h))
        have HTC := Aside0.mk (show T.length ≤ ct from (Kd.R_reads' HRA.out).2.1)
        clear hi
        go_wp2
        obtain ⟨wo, rfl⟩ : ∃ wo, wo = wr := ⟨_, rfl⟩
        go_loopw [13, 14, 15, 16] (fun v13 v14 v15 v16 wr => ∃ i fr : Nat, v16 = .int .i64 (i : Int) ∧ i ≤ cuts.length ∧ v15 = .int .i64 (fr : Int) ∧ fr ≤ T.length ∧ v14 = .int .i64 ((feedSt St1 (T.take fr)).n : Int) ∧ ∃ hv, OwnR wr w.heap.size g hv (feedSt St1 (T.take fr)).held (feedSt St1 (T.take fr)).sp ∧ (hv.ownBlock = hv6.ownBlock ∨ ∀ k, hv.ownBlock = some k → wo.heap.size ≤ k) ∧ Kd.R (Kd.slice 5 (Kd.int .u8)) 23 wr wo.heap.size (fun k => some k ≠ hv.ownBlock) v13 (feedSt St1 (T.take fr)).out ∧ Keep wo wr (fun k => k = g ∨ some k = hv6.ownBlock)) (fun v13 v14 v15 v16 wr => cuts.length - (intOf v16).toNat)
        case atStart => exact ⟨0, 0, rfl, Nat.zero_le _, rfl, Nat.zero_le _, rfl, hv6, HOW.out, .inl rfl, Kd.R_nil _ _ _ _ _, Keep.refl _ _⟩
        case round =>
          obtain ⟨i, fr, rfl, hi, rfl, hfr, rfl, hv, ho, hnew, hout, hkeep⟩ := hrel
          have HOY := Aside0.mk ho
          have HNEW := Aside0.mk hnew
          have HOUT := Aside0.mk hout
          have HKEEP := Aside0.mk hkeep
          have HBQ := Aside0.mk (HB.out.trans (hkeep.below (fun k hs => hs.elim (fun e => e ▸ HO6.out.at_) (fun e => Kd.R_base HO6.out.row k e.symm)) HB.out.size))
          have HFS := Aside0.mk (Fine.start.feed (T.take fr) (fun c hc => HTB.out c (List.mem_of_mem_take hc)))
          have hbd := feed_bound (T.take fr) St1
          have htk : (T.take fr).length ≤ fr := List.length_take_le _ _
          have HTQ := Aside0.mk (bytes_keep hkeep (Kd.R_mono HRA.out (fun _ _ => trivial)) (fun k hk hs => hs.elim (fun e => row_ne HRA.out HOW.out.blk (by decide) (e ▸ hk)) (fun e => by have h1 := Kd.R_base HRA.out k hk; have h2 := Kd.R_lt HO6.out.row k e.symm; omega)))
          clear ho hnew hout hkeep
          obtain ⟨S, hS⟩ : ∃ S, feedSt St1 (T.take fr) = S := ⟨_, rfl⟩
          have hS2 : feedSt ⟨[], false, [], 0⟩ (T.take fr) = S := hS
          rw [hS] at HOY HOUT hbd ⊢
          rw [hS2] at HFS
          have HS := Aside0.mk hS
          have hb1 : S.out.length ≤ 61830 := by have h1 : St1.out.length = 0 := rfl; omega
          have hb2 : S.n ≤ 61830 := by have h1 : St1.n = 0 := rfl; omega
          clear hS hS2 hbd htk
          obtain ⟨Ao, co, eo⟩ := Kd.R_slice HOUT.out
          subst eo
          obtain ⟨i0, hi0, _, hsz, _⟩ := info_parts byteInfo
          by_cases hlt : i < cuts.length
          · by_cases h60 : (i : Int) < 60
            · have h60d : decide ((i : Int) < 60) = true := by simpa using h60
              obtain ⟨ad2, e2, hcells⟩ := (Kd.reads_of_C (enc := Value.int .i64) (d := (0 : Int)) (h1 := fun _ => rfl) HC2.out).2.2 (by omega)
              subst e2
              have hcw := hcells i hlt
              have HADB := Aside0.mk (World.block_lt_of_cell? w _ (hcells i hlt))
              obtain ⟨z, hz⟩ : ∃ z, cuts.getD i 0 = z := ⟨_, rfl⟩
              rw [hz] at hcw
              have hcut := pw_cell_below HBQ.out hcw
              have HCW := Aside0.mk hcw
              clear hcells hz hcw
              by_cases hzin : (fr : Int) ≤ z ∧ z ≤ (T.length : Int)
              · obtain ⟨hz1, hz2⟩ := hzin
                obtain ⟨cn, rfl⟩ := Int.eq_ofNat_of_zero_le (show 0 ≤ z by omega)
                have hd3 : decide (cn < fr) = false := by simp; omega
                have hd3' : decide ((cn : Int) < (fr : Int)) = false := by simp; omega
                have hd4 : decide (T.length < cn) = false := by simp; omega
                have hd4' : decide ((T.length : Int) < (cn : Int)) = false := by simp; omega
                obtain ⟨A', hrun, hCC, hin⟩ := mid_cut (P := Tryd.prog) 23 5 .i64 .i64 Tryd.underlying23 hi0 hsz At ct T fr cn (by omega) (by omega) HTC.out
                have HNX := Aside0.mk (show feedSt St1 (T.take cn) = feedSt S ((T.take cn).drop fr) by rw [← HS.out, ← feed_append, ← take_split T fr cn (by omega)])
                have hpb : ∀ c ∈ (T.take cn).drop fr, 0 ≤ c ∧ c ≤ 255 := fun c hc => HTB.out c (List.mem_of_mem_take (List.mem_of_mem_drop hc))
                have hpl : ((T.take cn).drop fr).length ≤ 61830 := by rw [List.length_drop, List.length_take]; omega
                obtain ⟨pc, hpc⟩ : ∃ pc, (T.take cn).drop fr = pc := ⟨_, rfl⟩
                have hpT : pc.length ≤ T.length := by rw [← hpc, List.length_drop, List.length_take]; omega
                rw [hpc] at hrun hCC HNX hpb hpl
                obtain ⟨G, hG⟩ : ∃ G, feedSt ⟨S.held, S.sp, [], 0⟩ pc = G := ⟨_, rfl⟩
                have hsn : feedSt S pc = ⟨G.held, G.sp, S.out ++ G.out, S.n + G.n⟩ := by rw [feed_from, hG]
                have hgb := feed_bound pc ⟨S.held, S.sp, [], 0⟩
                rw [hG] at hgb
                rw [hsn] at HNX
                have hg1 : G.out.length ≤ 61830 := by have h1 : (⟨S.held, S.sp, [], 0⟩ : St).out.length = 0 := rfl; omega
                have hg2 : G.n ≤ 61830 := by have h1 : (⟨S.held, S.sp, [], 0⟩ : St).n = 0 := rfl; omega
                have HPC := Aside0.mk (hCC wr (Kd.R_reads' HTQ.out).2.2)
                have HPB := Aside0.mk (show 0 < pc.length → ∀ ad, A' = some ad → (Value.slice At T.length ct).ownBlock = some ad.block from fun hp ad e => piece_block HTQ.out (by omega) hin e)
                have H1 := Aside0.mk (fed wr w.heap.size g hv S.held S.sp A' (ct - fr) pc HOY.out HFS.out.again HBQ.out.size h0 (HT.out.below HBQ.out) HPC.out hpb (by omega) (fun hp ad e => by
                  have e3 := HPB.out hp ad e
                  exact ⟨fun e4 => by
                      have h1 := Kd.R_base HTQ.out ad.block e3
                      rcases HNEW.out with e5 | e5
                      · have := Kd.R_lt HO6.out.row ad.block (e5.symm.trans e4.symm)
                        omega
                      · have h2 := e5 ad.block e4.symm
                        have h3 := Kd.R_lt HRA.out ad.block e3
                        omega,
                    fun e4 => row_ne HTQ.out HOY.out.blk (by decide) (e4 ▸ e3)⟩))
                rw [hG] at H1
                clear hCC hin hpc hG hsn hgb hpb hi0 hsz
                go_wp2_with (first
                  | (go_at_call 26; refine H1.out.mono ?_; rintro e w7 ⟨l, rfl, hfd⟩; obtain ⟨hv7, ho7, hn7, hl7⟩ := hfd.ex; obtain ⟨Al, cl, el⟩ := Kd.R_slice hl7; subst el; have hk7 := HBQ.out.trans (hfd.keep.below (fun k hs => hs.elim (fun e => e ▸ HOY.out.at_) (fun e => Kd.R_base HOY.out.row k e.symm)) HBQ.out.size); have hcut7 := pw_cell_below hk7 HCW.out; have HO7 := Aside0.mk ho7; have HN7 := Aside0.mk hn7; have HL7 := Aside0.mk hl7; have HP7 := Aside0.mk (lists_past HOY.out hfd HOUT.out hn7); have HK7 := Aside0.mk hfd.keep; clear hfd ho7 hn7 hl7 hk7)
                  | ((with_reducible refine gate_builtin (b := .append) (xs := #[.tmp 108, .tmp 109]) rfl ?_); at_builtin; refine Kd.R_append_rows (Kd.slice 5 (Kd.int .u8)) (w0 := w7) wo.heap.size rfl (.tmp 108) (.tmp 109) 38 23 (.slice none 0 0) 24 rfl Tryd.underlying38 sliceInfo rfl (by decide) (by omega) _ S.out G.out _ _ _ (fun k => some k ≠ hv7.ownBlock) (fun k => some k ≠ hv7.ownBlock ∧ wr.heap.size ≤ k) rfl rfl HP7.out (R_rows HL7.out (by have := HKEEP.out.size; omega)) (fun _ _ h => h) (fun k hk => ⟨hk.1, Kd.fresh' (Kd.R_lt HOUT.out) k hk.2⟩) (fun k hk e => by have := Kd.R_lt HO7.out.row k e.symm; omega) (Below.refl _ _) (by have := HKEEP.out.size; have := HK7.out.size; omega) (by omega) ?_; intro vv108 w8 hr8 hb8 hg8 hat8; have HR8 := Aside0.mk hr8; have HG8 := Aside0.mk hg8; have hcut8 : w8.cell? (ad2.add i) = some (.int .i64 (cn : Int)) := (World.cell?_of_block (hg8.block _ (World.block_lt_of_cell? w7 _ hcut7) (fun e => by have h1 := Kd.R_base HOUT.out _ e.symm; have h2 := HADB.out; have h3 := HB.out.size; omega))).trans hcut7; clear hr8 hb8 hg8 hat8))
                go_roundw
                case rel =>
                  refine ⟨i + 1, cn, by simp, by omega, rfl, by omega, ?_⟩
                  rw [HNX.out]
                  have hk8 := Keep.of_grown HG8.out
                  have hne : ∀ k, hv7.ownBlock = some k → ¬ some k = (Value.slice Ao S.out.length co).ownBlock := fun k hk e => by
                    obtain ⟨c1, hc1⟩ := Kd.R_typed HO7.out.row k hk
                    obtain ⟨c2, hc2⟩ := Kd.R_typed HP7.out k e.symm
                    have := hc1.symm.trans hc2
                    cases this
                  have hk7 : Keep wr w7 (fun k => (k = g ∨ some k = hv6.ownBlock) ∨ wo.heap.size ≤ k) := HK7.out.mono (fun k _ hs => hs.elim (fun e => .inl (.inl e)) (fun e => by
                    rcases HNEW.out with e5 | e5
                    · exact .inl (.inr (e.trans e5))
                    · exact .inr (e5 k e.symm)))
                  refine ⟨by simp, hv7, HO7.out.keep hk8 (fun e => ?_) hne, ?_, HR8.out, ?_⟩
                  · obtain ⟨c2, hc2⟩ := Kd.R_typed HP7.out g e.symm
                    have := HO7.out.blk.symm.trans hc2
                    cases this
                  · rcases HN7.out with e | e
                    · rw [e]; exact HNEW.out
                    · exact .inr (fun k hk => by have := e k hk; have := HKEEP.out.size; omega)
                  · exact ((HKEEP.out.then_ hk7 (fun k hs => hs)).then_ hk8 (fun k e => .inr (Kd.R_base HOUT.out k e.symm)))
                case measure => simp [intOf]; omega
              · have hways : decide (z < (fr : Int)) = true ∨ (decide (z < (fr : Int)) = false ∧ decide ((T.length : Int) < z) = true) := by
                  simp only [decide_eq_true_eq, decide_eq_false_iff_not]
                  omega
                clear hzin
                rcases hways with h1 | ⟨h1, h2⟩
                all_goals
                  go_wp2
                  go_roundw
                  case rel => exact ⟨i + 1, fr, by simp, by omega, rfl, hfr, by rw [HS.out], hv, by rw [HS.out]; exact HOY.out, HNEW.out, by rw [HS.out]; exact HOUT.out, HKEEP.out⟩
                  case measure => simp [intOf]; omega
            · have h60d : decide ((i : Int) < 60) = false := by simp; omega
              obtain ⟨A', hrun, hCC, hin⟩ := rest_cut (P := Tryd.prog) 23 5 .i64 Tryd.underlying23 hi0 hsz At ct T fr hfr HTC.out
              have htot : feedSt S (T.drop fr) = ⟨[], false, L, 0⟩ := by rw [← HS.out, ← feed_append, List.take_append_drop]; exact HTT.out
              have hpb : ∀ c ∈ T.drop fr, 0 ≤ c ∧ c ≤ 255 := fun c hc => HTB.out c (List.mem_of_mem_drop hc)
              have hpT : (T.drop fr).length ≤ T.length := by rw [List.length_drop]; omega
              obtain ⟨pc, hpc⟩ : ∃ pc, T.drop fr = pc := ⟨_, rfl⟩
              rw [hpc] at hrun hCC htot hpb hpT
              obtain ⟨G, hG⟩ : ∃ G, feedSt ⟨S.held, S.sp, [], 0⟩ pc = G := ⟨_, rfl⟩
              rw [feed_from, hG] at htot
              injection htot with hGh hGs hGo hGn
              have HPC := Aside0.mk (hCC wr (Kd.R_reads' HTQ.out).2.2)
              have HPB := Aside0.mk (show 0 < pc.length → ∀ ad, A' = some ad → (Value.slice At T.length ct).ownBlock = some ad.block from fun hp ad e => piece_block HTQ.out (by omega) hin e)
              have H1 := Aside0.mk (fed wr w.heap.size g hv S.held S.sp A' (ct - fr) pc HOY.out HFS.out.again HBQ.out.size h0 (HT.out.below HBQ.out) HPC.out hpb (by omega) (fun hp ad e => by
                have e3 := HPB.out hp ad e
                exact ⟨fun e4 => by
                    have h1 := Kd.R_base HTQ.out ad.block e3
                    rcases HNEW.out with e5 | e5
                    · have := Kd.R_lt HO6.out.row ad.block (e5.symm.trans e4.symm)
                      omega
                    · have h2 := e5 ad.block e4.symm
                      have h3 := Kd.R_lt HRA.out ad.block e3
                      omega,
                  fun e4 => row_ne HTQ.out HOY.out.blk (by decide) (e4 ▸ e3)⟩))
              rw [hG] at H1
              have HGO := Aside0.mk hGo
              have HGH := Aside0.mk hGh
              have HGL := Aside0.mk (show G.out.length ≤ 61830 from by have h1 := congrArg List.length hGo; rw [List.length_append] at h1; omega)
              have hSn : S.n = 0 := by omega
              have hGn2 : G.n = 0 := by omega
              clear hCC hin hpc hG hGh hGs hGo hGn hpb hi0 hsz
              go_wp2_with (first
                | (go_at_call 26; refine H1.out.mono ?_; rintro e w7 ⟨l, rfl, hfd⟩; obtain ⟨hv7, ho7, hn7, hl7⟩ := hfd.ex; obtain ⟨Al, cl, el⟩ := Kd.R_slice hl7; subst el; have hk7 := HBQ.out.trans (hfd.keep.below (fun k hs => hs.elim (fun e => e ▸ HOY.out.at_) (fun e => Kd.R_base HOY.out.row k e.symm)) HBQ.out.size); have HB7 := Aside0.mk hk7; have HO7 := Aside0.mk ho7; have HL7 := Aside0.mk hl7; have HP7 := Aside0.mk (lists_past HOY.out hfd HOUT.out hn7); have HK7 := Aside0.mk hfd.keep; clear hfd ho7 hn7 hl7 hk7)
                | ((with_reducible refine gate_builtin (b := .append) (xs := #[.tmp 126, .tmp 127]) rfl ?_); at_builtin; refine Kd.R_append_rows (Kd.slice 5 (Kd.int .u8)) (w0 := w7) wo.heap.size rfl (.tmp 126) (.tmp 127) 38 23 (.slice none 0 0) 24 rfl Tryd.underlying38 sliceInfo rfl (by decide) (by omega) _ S.out G.out _ _ _ (fun k => some k ≠ hv7.ownBlock) (fun k => some k ≠ hv7.ownBlock ∧ wr.heap.size ≤ k) rfl rfl HP7.out (R_rows HL7.out (by have := HKEEP.out.size; omega)) (fun _ _ h => h) (fun k hk => ⟨hk.1, Kd.fresh' (Kd.R_lt HOUT.out) k hk.2⟩) (fun k hk e => by have := Kd.R_lt HO7.out.row k e.symm; omega) (Below.refl _ _) (by have := HKEEP.out.size; have := HK7.out.size; omega) (by have := HGL.out; omega) ?_; intro vv126 w8 hr8 hb8 hg8 hat8; rw [HGO.out] at hr8; obtain ⟨Ag, cg, eg⟩ := Kd.R_slice hr8; subst eg; have hk8 := Keep.of_grown hg8; have ho8 := HO7.out.keep hk8 (fun e => by (obtain ⟨c2, hc2⟩ := Kd.R_typed HP7.out g e.symm; have := HO7.out.blk.symm.trans hc2; cases this)) (fun k hk e => by (obtain ⟨c1, hc1⟩ := Kd.R_typed HO7.out.row k hk; obtain ⟨c2, hc2⟩ := Kd.R_typed HP7.out k e.symm; have := hc1.symm.trans hc2; cases this)); rw [HGH.out] at ho8; have HB8 := Aside0.mk (HB7.out.trans (hk8.below (fun k e => by have h1 := Kd.R_base HOUT.out k e.symm; have h2 := HB.out.size; omega) HB7.out.size)); obtain ⟨A7, c7, e7⟩ := Kd.R_slice ho8.row; subst e7; have HO8 := Aside0.mk ho8; have HR8 := Aside0.mk hr8; clear hr8 hb8 hg8 hat8 hk8 ho8)
                | (go_at_call 28; (with_reducible refine (pennantref04_Same.calls 1 Ag cg L A1 c1 L true w8 (Kd.R_reads' HR8.out).2.2 (Kd.R_reads' HR8.out).2.1 (Kd.C_below HC1.out HB8.out) hc1 (same_true L HN1.out 1)).mono ?_); rintro e w9 ⟨rfl, hd⟩; have HB9 := Aside0.mk (below_then HB8.out HB8.out.size hd.below); have HO9 := Aside0.mk (HO8.out.keep (Keep.of_below hd.below (fun _ => False)) (fun h => h) (fun _ _ h => h)); have hcg : w9.cell? ⟨g, 0, none⟩ = some (.slice A7 0 c7) := (blk_cell HO9.out.blk 0).trans rfl; clear hd)
                | (go_at_call 29; (with_reducible refine (held_any w9 g A7 0 c7 hcg).mono ?_); rintro e w' ⟨rfl, rfl⟩))
              go_ret
              exact ⟨by simp, HB9.out⟩
          · have hlt3 : decide (i < cuts.length) = false := by simp; omega
            obtain ⟨A', hrun, hCC, hin⟩ := rest_cut (P := Tryd.prog) 23 5 .i64 Tryd.underlying23 hi0 hsz At ct T fr hfr HTC.out
            have htot : feedSt S (T.drop fr) = ⟨[], false, L, 0⟩ := by rw [← HS.out, ← feed_append, List.take_append_drop]; exact HTT.out
            have hpb : ∀ c ∈ T.drop fr, 0 ≤ c ∧ c ≤ 255 := fun c hc => HTB.out c (List.mem_of_mem_drop hc)
            have hpT : (T.drop fr).length ≤ T.length := by rw [List.length_drop]; omega
            obtain ⟨pc, hpc⟩ : ∃ pc, T.drop fr = pc := ⟨_, rfl⟩
            rw [hpc] at hrun hCC htot hpb hpT
            obtain ⟨G, hG⟩ : ∃ G, feedSt ⟨S.held, S.sp, [], 0⟩ pc = G := ⟨_, rfl⟩
            rw [feed_from, hG] at htot
            injection htot with hGh hGs hGo hGn
            have HPC := Aside0.mk (hCC wr (Kd.R_reads' HTQ.out).2.2)
            have HPB := Aside0.mk (show 0 < pc.length → ∀ ad, A' = some ad → (Value.slice At T.length ct).ownBlock = some ad.block from fun hp ad e => piece_block HTQ.out (by omega) hin e)
            have H1 := Aside0.mk (fed wr w.heap.size g hv S.held S.sp A' (ct - fr) pc HOY.out HFS.out.again HBQ.out.size h0 (HT.out.below HBQ.out) HPC.out hpb (by omega) (fun hp ad e => by
              have e3 := HPB.out hp ad e
              exact ⟨fun e4 => by
                  have h1 := Kd.R_base HTQ.out ad.block e3
                  rcases HNEW.out with e5 | e5
                  · have := Kd.R_lt HO6.out.row ad.block (e5.symm.trans e4.symm)
                    omega
                  · have h2 := e5 ad.block e4.symm
                    have h3 := Kd.R_lt HRA.out ad.block e3
                    omega,
                fun e4 => row_ne HTQ.out HOY.out.blk (by decide) (e4 ▸ e3)⟩))
            rw [hG] at H1
            have HGO := Aside0.mk hGo
            have HGH := Aside0.mk hGh
            have HGL := Aside0.mk (show G.out.length ≤ 61830 from by have h1 := congrArg List.length hGo; rw [List.length_append] at h1; omega)
            have hSn : S.n = 0 := by omega
            have hGn2 : G.n = 0 := by omega
            clear hCC hin hpc hG hGh hGs hGo hGn hpb hi0 hsz
            go_wp2_with (first
              | (go_at_call 26; refine H1.out.mono ?_; rintro e w7 ⟨l, rfl, hfd⟩; obtain ⟨hv7, ho7, hn7, hl7⟩ := hfd.ex; obtain ⟨Al, cl, el⟩ := Kd.R_slice hl7; subst el; have hk7 := HBQ.out.trans (hfd.keep.below (fun k hs => hs.elim (fun e => e ▸ HOY.out.at_) (fun e => Kd.R_base HOY.out.row k e.symm)) HBQ.out.size); have HB7 := Aside0.mk hk7; have HO7 := Aside0.mk ho7; have HL7 := Aside0.mk hl7; have HP7 := Aside0.mk (lists_past HOY.out hfd HOUT.out hn7); have HK7 := Aside0.mk hfd.keep; clear hfd ho7 hn7 hl7 hk7)
              | ((with_reducible refine gate_builtin (b := .append) (xs := #[.tmp 126, .tmp 127]) rfl ?_); at_builtin; refine Kd.R_append_rows (Kd.slice 5 (Kd.int .u8)) (w0 := w7) wo.heap.size rfl (.tmp 126) (.tmp 127) 38 23 (.slice none 0 0) 24 rfl Tryd.underlying38 sliceInfo rfl (by decide) (by omega) _ S.out G.out _ _ _ (fun k => some k ≠ hv7.ownBlock) (fun k => some k ≠ hv7.ownBlock ∧ wr.heap.size ≤ k) rfl rfl HP7.out (R_rows HL7.out (by have := HKEEP.out.size; omega)) (fun _ _ h => h) (fun k hk => ⟨hk.1, Kd.fresh' (Kd.R_lt HOUT.out) k hk.2⟩) (fun k hk e => by have := Kd.R_lt HO7.out.row k e.symm; omega) (Below.refl _ _) (by have := HKEEP.out.size; have := HK7.out.size; omega) (by have := HGL.out; omega) ?_; intro vv126 w8 hr8 hb8 hg8 hat8; rw [HGO.out] at hr8; obtain ⟨Ag, cg, eg⟩ := Kd.R_slice hr8; subst eg; have hk8 := Keep.of_grown hg8; have ho8 := HO7.out.keep hk8 (fun e => by (obtain ⟨c2, hc2⟩ := Kd.R_typed HP7.out g e.symm; have := HO7.out.blk.symm.trans hc2; cases this)) (fun k hk e => by (obtain ⟨c1, hc1⟩ := Kd.R_typed HO7.out.row k hk; obtain ⟨c2, hc2⟩ := Kd.R_typed HP7.out k e.symm; have := hc1.symm.trans hc2; cases this)); rw [HGH.out] at ho8; have HB8 := Aside0.mk (HB7.out.trans (hk8.below (fun k e => by have h1 := Kd.R_base HOUT.out k e.symm; have h2 := HB.out.size; omega) HB7.out.size)); obtain ⟨A7, c7, e7⟩ := Kd.R_slice ho8.row; subst e7; have HO8 := Aside0.mk ho8; have HR8 := Aside0.mk hr8; clear hr8 hb8 hg8 hat8 hk8 ho8)
              | (go_at_call 28; (with_reducible refine (pennantref04_Same.calls 1 Ag cg L A1 c1 L true w8 (Kd.R_reads' HR8.out).2.2 (Kd.R_reads' HR8.out).2.1 (Kd.C_below HC1.out HB8.out) hc1 (same_true L HN1.out 1)).mono ?_); rintro e w9 ⟨rfl, hd⟩; have HB9 := Aside0.mk (below_then HB8.out HB8.out.size hd.below); have HO9 := Aside0.mk (HO8.out.keep (Keep.of_below hd.below (fun _ => False)) (fun h => h) (fun _ _ h => h)); have hcg : w9.cell? ⟨g, 0, none⟩ = some (.slice A7 0 c7) := (blk_cell HO9.out.blk 0).trans rfl; clear hd)
              | (go_at_call 29; (with_reducible refine (held_any w9 g A7 0 c7 hcg).mono ?_); rintro e w' ⟨rfl, rfl⟩))
            go_ret
            exact ⟨by simp, HB9.out⟩
  · have hbad : decide ((5000 : Int) < (no.length : Int)) = true ∨ (decide ((5000 : Int) < (no.length : Int)) = false ∧ decide ((30 : Int) < (L.length : Int)) = true) := by
      simp only [decide_eq_true_eq, decide_eq_false_iff_not]
      omega
    rcases hbad with h1 | ⟨h1, h2⟩
    all_goals
      go_enter Tryd.func12, Tryd.ntmps12
      go_wp2_with (first
        | (go_at_call 22; refine (awake_true _).mono ?_; rintro e w1 ⟨rfl, hb1⟩; have HB1 := Aside0.mk hb1; clear hb1))
      go_ret
      exact ⟨rfl, HB1.out⟩
end Go.Proofs.YtlbmfbbdfmmfnaaDoor
