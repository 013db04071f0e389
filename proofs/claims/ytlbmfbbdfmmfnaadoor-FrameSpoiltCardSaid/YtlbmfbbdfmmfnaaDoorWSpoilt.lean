/- FrameSpoilt, walked: of a frame with one byte turned and another one behind, the other one is told, and of the first what the reference says: for all bytes. -/
import Derived.Test.YtlbmfbbdfmmfnaaDoorFrames
namespace Go.Proofs.YtlbmfbbdfmmfnaaDoor
open Go.RowKit Go.Shelf Go.Proofs.YtlbmfbbdfmmfnaaDoorW.PrintWords Go.Proofs.YtlbmfbbdfmmfnaaDoorW.PrintLast Go.Proofs.YtlbmfbbdfmmfnaaDoorW.PrintMore
open Go.Proofs.YtlbmfbbdfmmfnaaDoor.PRdr
set_option linter.unusedVariables false
set_option linter.unusedSimpArgs false
attribute [local go_sem] Oper.semAt_some max2_int min2_int max_two min_two max_three min_three max_four min_four

set_option maxHeartbeats 1000000 in
set_option maxRecDepth 100000 in
theorem frameSpoilt_walk (A0 : Option Addr) (c0 : Nat) (a : List Int) (A1 : Option Addr) (c1 : Nat) (b : List Int) (x0 x1 : Int) (w : World) (hT : TabOk w) (hCa : Kd.C (Kd.int .u8) w A0 a.length a) (hca : a.length ≤ c0) (hba : ∀ c ∈ a, 0 ≤ c ∧ c ≤ 255)
    (hCb : Kd.C (Kd.int .u8) w A1 b.length b) (hcb : b.length ≤ c1) (hbb : ∀ c ∈ b, 0 ≤ c ∧ c ≤ 255) (hx0 : (Lit.int .i64 x0).wf = true) (hx1 : (Lit.int .i64 x1).wf = true) :
    Calls Tryd.prog 11 #[.slice A0 a.length c0, .slice A1 b.length c1, .agg #[.int .i64 x0, .int .i64 x1]] w fun e w' => e = .returned (.bool true) ∧ Below w.heap.size w w' := by
  have HT := Aside0.mk hT
  have HCA := Aside0.mk hCa
  have HCB := Aside0.mk hCb
  have HBA := Aside0.mk hba
  have HBB := Aside0.mk hbb
  have h0 : 0 < w.heap.size := World.block_lt_of_cell? w _ (hT 0 (by decide))
  have hx0r : -9223372036854775808 ≤ x0 ∧ x0 ≤ 9223372036854775807 := by simpa [Lit.wf, IntKind.min, IntKind.max, IntKind.bits, IntKind.signed] using hx0
  clear hT hCa hCb hba hbb hx0 hx1
  by_cases hgood : (a.length : Int) ≤ 2048 ∧ (b.length : Int) ≤ 2048 ∧ 0 ≤ x0
  · obtain ⟨hla, hlb, hx⟩ := hgood
    obtain ⟨f, hf⟩ : ∃ f, frameOf a = f := ⟨_, rfl⟩
    obtain ⟨q, hq⟩ : ∃ q, frameOf b = q := ⟨_, rfl⟩
    have HF := Aside0.mk hf
    have HQ := Aside0.mk hq
    have hfl : 5 ≤ (f.length : Int) ∧ (f.length : Int) ≤ 2061 := by
      have h1 := frame_len a
      have h2 := h1.2.2 (by omega)
      rw [hf] at h1
      omega
    have hql : 5 ≤ (q.length : Int) ∧ (q.length : Int) ≤ 2061 := by
      have h1 := frame_len b
      have h2 := h1.2.2 (by omega)
      rw [hq] at h1
      omega
    obtain ⟨hf5, hf6⟩ := hfl
    obtain ⟨hq5, hq6⟩ := hql
    clear hf hq
    have H1 := Aside0.mk (fun (W : World) (hb : Below w.heap.size w W) => put_any A0 c0 a W (Kd.C_below HCA.out hb) hca (HT.out.below hb) HBA.out (by omega))
    have H2 := Aside0.mk (fun (W : World) (hb : Below w.heap.size w W) => put_any A1 c1 b W (Kd.C_below HCB.out hb) hcb (HT.out.below hb) HBB.out (by omega))
    rw [HF.out] at H1
    rw [HQ.out] at H2
    have hkr : 0 ≤ x0 % ((f.length : Int) - 1) ∧ x0 % ((f.length : Int) - 1) < (f.length : Int) - 1 := ⟨Int.emod_nonneg _ (by omega), Int.emod_lt_of_pos _ (by omega)⟩
    obtain ⟨k, hk⟩ := Int.eq_ofNat_of_zero_le hkr.1
    rw [hk] at hkr
    have hkl : k < f.length := by omega
    obtain ⟨t, ht⟩ : ∃ t, x1 % 256 = t := ⟨_, rfl⟩
    have htr : 0 ≤ t ∧ t ≤ 255 := by omega
    obtain ⟨z, hz⟩ : ∃ z, f.getD k 0 = z := ⟨_, rfl⟩
    have HZ := Aside0.mk hz
    have hzr : 0 ≤ z ∧ z ≤ 255 := by
      rw [← hz, ← HF.out, List.getD_eq_getElem?_getD, List.getElem?_eq_getElem (by rw [HF.out]; exact hkl)]
      exact frame_bytes a HBA.out _ (List.getElem_mem _)
    have hdl : decide ((2048 : Int) < (a.length : Int)) = false := by simp; omega
    have hdl2 : decide ((2048 : Int) < (b.length : Int)) = false := by simp; omega
    have hdx : decide (x0 < 0) = false := by simp; omega
    clear hz
    by_cases ht0 : t = 0
    · subst ht0
      go_enter Tryd.func11, Tryd.ntmps11
      go_wp2_with (first
        | (go_at_call 22; refine (awake_true _).mono ?_; rintro e w1 ⟨rfl, hb1⟩; have HB1 := Aside0.mk (below_then (below_alloc (Below.refl _ _) _) (by simp) hb1); have hcx0 : w1.cell? ⟨w.heap.size, 0, none⟩ = some (.int .i64 x0) := pw_cell_below hb1 (by simp); have hcx1 : w1.cell? ⟨w.heap.size, 1, none⟩ = some (.int .i64 x1) := pw_cell_below hb1 (by simp); clear hb1)
        | (go_at_call 23; first
            | ((with_reducible refine (H1.out w1 HB1.out).mono ?_); rintro e w2 ⟨vf, rfl, hR, hb2⟩; obtain ⟨Af, cf, ef⟩ := Kd.R_slice hR; subst ef; have HRF := Aside0.mk hR; have hdx0 := pw_cell_below hb2 hcx0; have hdx1 := pw_cell_below hb2 hcx1; have HB2 := Aside0.mk (below_then HB1.out HB1.out.size hb2); clear hR hb2)
            | ((with_reducible refine (H2.out w2 HB2.out).mono ?_); rintro e w3 ⟨vq, rfl, hR, hb2⟩; obtain ⟨Aq, cq, eq⟩ := Kd.R_slice hR; subst eq; have HRQ := Aside0.mk hR; have HRF3 := Aside0.mk (Kd.R_below HRF.out hb2); have hex0 := pw_cell_below hb2 hdx0; have hex1 := pw_cell_below hb2 hdx1; have HB3 := Aside0.mk (below_then HB2.out HB2.out.size hb2); clear hR hb2))
        | (go_at_call 25; refine (new_any w3 w.heap.size HB3.out.size).mono ?_; rintro e w4 ⟨g, rfl, ho, hg1, hb2⟩; have HO := Aside0.mk ho; have hrf4 := Kd.R_below HRF3.out hb2; obtain ⟨gf, ef, hgf1, hcz, hfz⟩ := byte_at hrf4 k hkl; subst ef; rw [HZ.out] at hcz; have HRF4 := Aside0.mk hrf4; clear hrf4; have HRQ4 := Aside0.mk (Kd.R_below HRQ.out hb2); have hfx0 := pw_cell_below hb2 hex0; have hfx1 := pw_cell_below hb2 hex1; have HB4 := Aside0.mk (below_then HB3.out HB3.out.size hb2); clear ho hb2))
      go_ret
      exact ⟨rfl, HB4.out⟩
    by_cases hzt : z = t
    · have ht1 : (t == 0) = false := by simpa using ht0
      have ht2 : (z == t) = true := by simpa using hzt
      clear hzt
      go_enter Tryd.func11, Tryd.ntmps11
      go_wp2_with (first
        | (go_at_call 22; refine (awake_true _).mono ?_; rintro e w1 ⟨rfl, hb1⟩; have HB1 := Aside0.mk (below_then (below_alloc (Below.refl _ _) _) (by simp) hb1); have hcx0 : w1.cell? ⟨w.heap.size, 0, none⟩ = some (.int .i64 x0) := pw_cell_below hb1 (by simp); have hcx1 : w1.cell? ⟨w.heap.size, 1, none⟩ = some (.int .i64 x1) := pw_cell_below hb1 (by simp); clear hb1)
        | (go_at_call 23; first
            | ((with_reducible refine (H1.out w1 HB1.out).mono ?_); rintro e w2 ⟨vf, rfl, hR, hb2⟩; obtain ⟨Af, cf, ef⟩ := Kd.R_slice hR; subst ef; have HRF := Aside0.mk hR; have hdx0 := pw_cell_below hb2 hcx0; have hdx1 := pw_cell_below hb2 hcx1; have HB2 := Aside0.mk (below_then HB1.out HB1.out.size hb2); clear hR hb2)
            | ((with_reducible refine (H2.out w2 HB2.out).mono ?_); rintro e w3 ⟨vq, rfl, hR, hb2⟩; obtain ⟨Aq, cq, eq⟩ := Kd.R_slice hR; subst eq; have HRQ := Aside0.mk hR; have HRF3 := Aside0.mk (Kd.R_below HRF.out hb2); have hex0 := pw_cell_below hb2 hdx0; have hex1 := pw_cell_below hb2 hdx1; have HB3 := Aside0.mk (below_then HB2.out HB2.out.size hb2); clear hR hb2))
        | (go_at_call 25; refine (new_any w3 w.heap.size HB3.out.size).mono ?_; rintro e w4 ⟨g, rfl, ho, hg1, hb2⟩; have HO := Aside0.mk ho; have hrf4 := Kd.R_below HRF3.out hb2; obtain ⟨gf, ef, hgf1, hcz, hfz⟩ := byte_at hrf4 k hkl; subst ef; rw [HZ.out] at hcz; have HRF4 := Aside0.mk hrf4; clear hrf4; have HRQ4 := Aside0.mk (Kd.R_below HRQ.out hb2); have hfx0 := pw_cell_below hb2 hex0; have hfx1 := pw_cell_below hb2 hex1; have HB4 := Aside0.mk (below_then HB3.out HB3.out.size hb2); clear ho hb2))
      go_ret
      exact ⟨rfl, HB4.out⟩
    have ht1 : (t == 0) = false := by simpa using ht0
    have ht2 : (z == t) = false := by simpa using hzt
    obtain ⟨v, hv⟩ : ∃ v, bits .xor .u8 z t = v := ⟨_, rfl⟩
    have hvr : v ≠ 0 ∧ 0 ≤ v ∧ v ≤ 255 := by
      rw [← hv, u8_xor z t hzr.1 (by omega) htr.1 (by omega)]
      have hlt : z.toNat ^^^ t.toNat < 2 ^ 8 := Nat.xor_lt_two_pow (by omega) (by omega)
      refine ⟨fun e => ?_, by omega, by omega⟩
      have e2 : z.toNat ^^^ t.toNat = 0 := by omega
      have := xor_zero e2
      omega
    have hkl2 : k < (stuffed (sealOf a)).length := by
      have h1 := (frame_len a).1
      rw [HF.out] at h1
      omega
    obtain ⟨o, n, hfe, holn, hnl⟩ := spoilt_last a b k v HBA.out HBB.out (by omega) (by omega) hkl2 hvr
    rw [HF.out, HQ.out] at hfe
    obtain ⟨fv, hfv⟩ : ∃ fv, f.set k v = fv := ⟨_, rfl⟩
    obtain ⟨tl, htl⟩ : ∃ tl, fv ++ q = tl := ⟨_, rfl⟩
    rw [hfv, htl] at hfe
    obtain ⟨ol, hol⟩ : ∃ ol, o ++ [b] = ol := ⟨_, rfl⟩
    rw [hol] at hfe
    have HOL := Aside0.mk hol
    clear hol
    have HFV := Aside0.mk hfv
    have HTL := Aside0.mk htl
    have HFVL := Aside0.mk (show fv.length = f.length by rw [← hfv]; simp)
    clear hfv htl
    have HFE := Aside0.mk hfe
    have HTB := Aside0.mk (show ∀ c ∈ tl, 0 ≤ c ∧ c ≤ 255 from fun c hc => by
      rw [← HTL.out, ← HFV.out] at hc
      rcases List.mem_append.1 hc with h | h
      · rcases List.mem_or_eq_of_mem_set h with h1 | h1
        · exact frame_bytes a HBA.out c (by rw [HF.out]; exact h1)
        · rw [h1]; exact hvr.2
      · exact frame_bytes b HBB.out c (by rw [HQ.out]; exact h))
    have HTN := Aside0.mk (show tl.length = f.length + q.length by rw [← HTL.out, ← HFV.out]; simp)
    have HOB := Aside0.mk (show bytesAll ol from by
      have h1 := Fine.start.feed tl HTB.out
      rw [HFE.out] at h1
      exact h1.out)
    clear hfe
    go_enter Tryd.func11, Tryd.ntmps11
    go_wp2_with (first
      | (go_at_call 22; refine (awake_true _).mono ?_; rintro e w1 ⟨rfl, hb1⟩; have HB1 := Aside0.mk (below_then (below_alloc (Below.refl _ _) _) (by simp) hb1); have hcx0 : w1.cell? ⟨w.heap.size, 0, none⟩ = some (.int .i64 x0) := pw_cell_below hb1 (by simp); have hcx1 : w1.cell? ⟨w.heap.size, 1, none⟩ = some (.int .i64 x1) := pw_cell_below hb1 (by simp); clear hb1)
      | (go_at_call 23; first
          | ((with_reducible refine (H1.out w1 HB1.out).mono ?_); rintro e w2 ⟨vf, rfl, hR, hb2⟩; obtain ⟨Af, cf, ef⟩ := Kd.R_slice hR; subst ef; have HRF := Aside0.mk hR; have hdx0 := pw_cell_below hb2 hcx0; have hdx1 := pw_cell_below hb2 hcx1; have HB2 := Aside0.mk (below_then HB1.out HB1.out.size hb2); clear hR hb2)
          | ((with_reducible refine (H2.out w2 HB2.out).mono ?_); rintro e w3 ⟨vq, rfl, hR, hb2⟩; obtain ⟨Aq, cq, eq⟩ := Kd.R_slice hR; subst eq; have HRQ := Aside0.mk hR; have HRF3 := Aside0.mk (Kd.R_below HRF.out hb2); have hex0 := pw_cell_below hb2 hdx0; have hex1 := pw_cell_below hb2 hdx1; have HB3 := Aside0.mk (below_then HB2.out HB2.out.size hb2); clear hR hb2))
      | (go_at_call 25; refine (new_any w3 w.heap.size HB3.out.size).mono ?_; rintro e w4 ⟨g, rfl, ho, hg1, hb2⟩; have HO := Aside0.mk ho; have hrf4 := Kd.R_below HRF3.out hb2; obtain ⟨gf, ef, hgf1, hcz, hfz⟩ := byte_at hrf4 k hkl; subst ef; rw [HZ.out] at hcz; have HRF4 := Aside0.mk hrf4; clear hrf4; have HRQ4 := Aside0.mk (Kd.R_below HRQ.out hb2); have hfx0 := pw_cell_below hb2 hex0; have hfx1 := pw_cell_below hb2 hex1; have HB4 := Aside0.mk (below_then HB3.out HB3.out.size hb2); clear ho hb2)
      | ((with_reducible refine gate_dst (N := 86) rfl ?_); refine Kd.R_lit (Kd.int .u8) _ 5 ?hg86 (N := 86) ?hd86 (xs := ([] : List Int)) (inner := []) (ok := fun _ => True) (okp := fun _ => True) ?hr86 ?hp86 (fun _ hk => hk) trivial (Below.refl _ _) (Nat.le_refl _) (by simp) ?_; (case hd86 => rfl); (case hg86 => rfl); (case hr86 => first | (go_simp; done) | (go_simp; rfl)); (case hp86 => exact (Reps.none _ _)); intro v86 w5 hr86 hb86 hgx86 hnx86; clear hgx86 hnx86; have HL5 := Aside0.mk hr86; have HK5 := Aside0.mk hb86; clear hr86 hb86; obtain ⟨Al5, cl5, el5⟩ := Kd.R_slice HL5.out; subst el5)
      | ((with_reducible refine gate_builtin (b := .append) (xs := #[.tmp 86, .tmp 87]) rfl ?_); at_builtin; refine Kd.R_append_rows (Kd.int .u8) (w0 := w4) w4.heap.size rfl (.tmp 86) (.tmp 87) 23 5 (.int .u8 0) 1 rfl Tryd.underlying23 byteInfo rfl (by decide) (by omega) _ [] f _ _ _ (fun _ => True) (fun _ => False) rfl rfl HL5.out ((Kd.R_reads' (Kd.R_below HRF4.out HK5.out)).2.2) (fun _ _ h => h) (fun _ h => h.elim) (fun _ _ => trivial) HK5.out HK5.out.size (by (try simp); omega) ?_; intro vv86 w6 hr86 hb86 hgx86 hat86; clear hgx86 hat86; rw [List.nil_append] at hr86; obtain ⟨Ac, cc, ec⟩ := Kd.R_slice hr86; subst ec; obtain ⟨gc, ec, hgc, hcz6, hfz6⟩ := byte_at hr86 k hkl; subst ec; rw [HZ.out] at hcz6; have HC6 := Aside0.mk hr86; have HK6 := Aside0.mk hb86; clear hr86 hb86)
      | ((with_reducible refine gate_dst (N := 100) rfl ?_); refine Kd.R_lit (Kd.int .u8) _ 5 ?hg100 (N := 100) ?hd100 (xs := ([] : List Int)) (inner := []) (ok := fun _ => True) (okp := fun _ => True) ?hr100 ?hp100 (fun _ hk => hk) trivial (Below.refl _ _) (Nat.le_refl _) (by simp) ?_; (case hd100 => rfl); (case hg100 => rfl); (case hr100 => first | (go_simp; done) | (go_simp; rfl)); (case hp100 => exact (Reps.none _ _)); intro v100 w9 hr100 hb100 hgx100 hnx100; clear hgx100 hnx100; have hb8 : Below w4.heap.size w4 ((w6.setCell ⟨gc, k, none⟩ (.int .u8 v)).alloc (.cells #[.slice none 0 0, .bool false] 43)) := (HK6.out.setCell hgc _).alloc (by simp [World.setCell]; exact HK6.out.size) _; have hk8 : Keep w4 ((w6.setCell ⟨gc, k, none⟩ (.int .u8 v)).alloc (.cells #[.slice none 0 0, .bool false] 43)) (fun _ => False) := Keep.of_below hb8 _; have HO8 := Aside0.mk (HO.out.keep hk8 (fun h => h) (fun _ _ h => h)); have HQ8 := Aside0.mk (Kd.R_below HRQ4.out hb8); have hc8 := byte_put HC6.out k v; rw [HFV.out] at hc8; have HC8 := Aside0.mk (Kd.R_alloc hc8 (.cells #[.slice none 0 0, .bool false] 43)); have HR8 := Aside0.mk (show RefR ((w6.setCell ⟨gc, k, none⟩ (.int .u8 v)).alloc (.cells #[.slice none 0 0, .bool false] 43)) w.heap.size w6.heap.size (.slice none 0 0) [] false from ⟨by have := blk_new (w6.setCell ⟨gc, k, none⟩ (.int .u8 v)) (.cells #[.slice none 0 0, .bool false] 43); simpa [World.setCell] using this, Kd.R_nil _ _ _ _ _, by have := HB4.out.size; have := HK6.out.size; omega⟩); have HB8 := Aside0.mk (below_then HB4.out HB4.out.size hb8); have HS8 := Aside0.mk (show (((w6.setCell ⟨gc, k, none⟩ (.int .u8 v)).alloc (.cells #[.slice none 0 0, .bool false] 43))).heap.size = w6.heap.size + 1 by simp [World.setCell]); have HL9 := Aside0.mk hr100; have HK9 := Aside0.mk hb100; clear hb8 hk8 hr100 hb100 hc8; obtain ⟨Al9, cl9, el9⟩ := Kd.R_slice HL9.out; subst el9)
      | ((with_reducible refine gate_builtin (b := .append) (xs := #[.tmp 100, .tmp 101]) rfl ?_); at_builtin; refine Kd.R_append_rows (Kd.int .u8) (w0 := ((w6.setCell ⟨gc, k, none⟩ (.int .u8 v)).alloc (.cells #[.slice none 0 0, .bool false] 43))) ((w6.setCell ⟨gc, k, none⟩ (.int .u8 v)).alloc (.cells #[.slice none 0 0, .bool false] 43)).heap.size rfl (.tmp 100) (.tmp 101) 23 5 (.int .u8 0) 1 rfl Tryd.underlying23 byteInfo rfl (by decide) (by omega) _ [] fv _ _ _ (fun _ => True) (fun _ => False) rfl rfl HL9.out (C_of_R (Kd.R_below HC8.out HK9.out)) (fun _ _ h => h) (fun _ h => h.elim) (fun _ _ => trivial) HK9.out HK9.out.size (by have := HFVL.out; simp; omega) ?_; intro vv100 w10 hr100 hb100 hgx100 hat100; clear hgx100 hat100; rw [List.nil_append] at hr100; obtain ⟨A10, c10, e10⟩ := Kd.R_slice hr100; subst e10; have HL10 := Aside0.mk hr100; have HK10 := Aside0.mk hb100; clear hr100 hb100)
      | ((with_reducible refine gate_builtin (b := .append) (xs := #[.tmp 102, .tmp 103]) rfl ?_); at_builtin; refine Kd.R_append_rows (Kd.int .u8) (w0 := ((w6.setCell ⟨gc, k, none⟩ (.int .u8 v)).alloc (.cells #[.slice none 0 0, .bool false] 43))) ((w6.setCell ⟨gc, k, none⟩ (.int .u8 v)).alloc (.cells #[.slice none 0 0, .bool false] 43)).heap.size rfl (.tmp 102) (.tmp 103) 23 5 (.int .u8 0) 1 rfl Tryd.underlying23 byteInfo rfl (by decide) (by omega) _ fv q _ _ _ (fun _ => True) (fun _ => False) rfl rfl HL10.out ((Kd.R_reads' (Kd.R_below HQ8.out HK10.out)).2.2) (fun _ _ h => h) (fun _ h => h.elim) (fun _ _ => trivial) HK10.out HK10.out.size (by have := HFVL.out; omega) ?_; intro vv102 w11 hr102 hb102 hgx102 hat102; clear hgx102 hat102; rw [HTL.out] at hr102; obtain ⟨A11, c11, e11⟩ := Kd.R_slice hr102; subst e11; have HL11 := Aside0.mk hr102; have HK11 := Aside0.mk hb102; clear hr102 hb102))
    have hk11 : Keep ((w6.setCell ⟨gc, k, none⟩ (.int .u8 v)).alloc (.cells #[.slice none 0 0, .bool false] 43)) w11 (fun _ => False) := Keep.of_below HK11.out _
    have HR11 := Aside0.mk (HR8.out.keep hk11 (fun h => h) (fun _ _ h => h))
    have HO11 := Aside0.mk (HO8.out.keep hk11 (fun h => h) (fun _ _ h => h))
    have HB11 := Aside0.mk (HB8.out.trans (HK11.out.mono (by have := HB8.out.size; omega)))
    have H3 := Aside0.mk (fedR w11 w.heap.size w6.heap.size (.slice none 0 0) [] false A11 c11 tl HR11.out Fine.start HB11.out.size (Kd.R_reads' HL11.out).2.2 HTB.out (by rw [HTN.out]; omega) (fun hp ad e => ⟨by simp [Value.ownBlock], fun e2 => by have h1 := row_block HL11.out hp e; have h2 := HS8.out; omega⟩))
    rw [HFE.out] at H3
    clear hk11
    go_wp2_with (first
      | (go_at_call 27; refine H3.out.mono ?_; rintro e w12 ⟨y, rfl, hfr⟩; have HFR := Aside0.mk hfr; clear hfr; have hg6 : g ≠ w6.heap.size := blk_ne HO11.out.blk HR11.out.blk (by decide); have hc12 := bytes_keep HFR.out.keep (Kd.R_mono (Kd.R_below HC8.out HK11.out) (fun _ _ => trivial)) (fun k hk hs => hs.elim (fun e => row_ne (Kd.R_mono HC8.out (fun _ _ => trivial)) HR8.out.blk (by decide) (e ▸ hk)) (fun e => by simp [Value.ownBlock] at e)); have hq12 := bytes_keep HFR.out.keep (Kd.R_mono (Kd.R_below HQ8.out HK11.out) (fun _ _ => trivial)) (fun k hk hs => hs.elim (fun e => row_ne (Kd.R_mono HQ8.out (fun _ _ => trivial)) HR8.out.blk (by decide) (e ▸ hk)) (fun e => by simp [Value.ownBlock] at e)); have HC12 := Aside0.mk hc12; have HQ12 := Aside0.mk hq12; have HO12 := Aside0.mk (HO11.out.keep HFR.out.keep (fun hs => hs.elim (fun e => hg6 e) (fun e => by simp [Value.ownBlock] at e)) (fun k hk => by simp [Value.ownBlock] at hk)); have HB12 := Aside0.mk (HB11.out.trans (HFR.out.keep.below (fun k hs => hs.elim (fun e => e ▸ HR11.out.at_) (fun e => by simp [Value.ownBlock] at e)) HB11.out.size)); have HY12 := Aside0.mk HFR.out.out; have HG11 := Aside0.mk (blk_lt HO11.out.blk); obtain ⟨Ay, cy, ey⟩ := Kd.R_slice HY12.out; subst ey; clear hc12 hq12 hg6)
      | ((with_reducible refine gate_dst (N := 110) rfl ?_); refine Kd.R_lit (Kd.int .u8) _ 5 ?hg110 (N := 110) ?hd110 (xs := ([] : List Int)) (inner := []) (ok := fun _ => True) (okp := fun _ => True) ?hr110 ?hp110 (fun _ hk => hk) trivial (Below.refl _ _) (Nat.le_refl _) (by simp) ?_; (case hd110 => rfl); (case hg110 => rfl); (case hr110 => first | (go_simp; done) | (go_simp; rfl)); (case hp110 => exact (Reps.none _ _)); intro v110 w13 hr110 hb110 hgx110 hnx110; clear hgx110 hnx110; have HL13 := Aside0.mk hr110; have HK13 := Aside0.mk hb110; clear hr110 hb110; obtain ⟨Al13, cl13, el13⟩ := Kd.R_slice HL13.out; subst el13)
      | ((with_reducible refine gate_builtin (b := .append) (xs := #[.tmp 110, .tmp 111]) rfl ?_); at_builtin; refine Kd.R_append_rows (Kd.int .u8) (w0 := w12) w12.heap.size rfl (.tmp 110) (.tmp 111) 23 5 (.int .u8 0) 1 rfl Tryd.underlying23 byteInfo rfl (by decide) (by omega) _ [] fv _ _ _ (fun _ => True) (fun _ => False) rfl rfl HL13.out (C_of_R (Kd.R_below HC12.out HK13.out)) (fun _ _ h => h) (fun _ h => h.elim) (fun _ _ => trivial) HK13.out HK13.out.size (by have := HFVL.out; (try simp); omega) ?_; intro vv110 w14 hr110 hb110 hgx110 hat110; clear hgx110 hat110; rw [List.nil_append] at hr110; obtain ⟨A14, c14, e14⟩ := Kd.R_slice hr110; subst e14; have HL14 := Aside0.mk hr110; have HK14 := Aside0.mk hb110; clear hr110 hb110)
      | ((with_reducible refine gate_builtin (b := .append) (xs := #[.tmp 112, .tmp 113]) rfl ?_); at_builtin; refine Kd.R_append_rows (Kd.int .u8) (w0 := w12) w12.heap.size rfl (.tmp 112) (.tmp 113) 23 5 (.int .u8 0) 1 rfl Tryd.underlying23 byteInfo rfl (by decide) (by omega) _ fv q _ _ _ (fun _ => True) (fun _ => False) rfl rfl HL14.out (C_of_R (Kd.R_below HQ12.out HK14.out)) (fun _ _ h => h) (fun _ h => h.elim) (fun _ _ => trivial) HK14.out HK14.out.size (by have := HFVL.out; (try simp); omega) ?_; intro vv112 w15 hr112 hb112 hgx112 hat112; clear hgx112 hat112; rw [HTL.out] at hr112; obtain ⟨A15, c15, e15⟩ := Kd.R_slice hr112; subst e15; have HL15 := Aside0.mk hr112; have HK15 := Aside0.mk hb112; clear hr112 hb112))
    have hk15 : Keep w12 w15 (fun _ => False) := Keep.of_below HK15.out _
    have HB15 := Aside0.mk (HB12.out.trans (HK15.out.mono HB12.out.size))
    have HO15 := Aside0.mk (HO12.out.keep hk15 (fun h => h) (fun _ _ h => h))
    have HGL := Aside0.mk (blk_lt HO12.out.blk)
    have H4 := Aside0.mk (fed w15 w.heap.size g (.slice none 0 0) [] false A15 c15 tl HO15.out Fine.start HB15.out.size h0 (HT.out.below HB15.out) (Kd.R_reads' HL15.out).2.2 HTB.out (by rw [HTN.out]; omega) (fun hp ad e => ⟨by simp [Value.ownBlock], fun e2 => by have h1 := row_block HL15.out hp e; have h2 := HGL.out; omega⟩))
    rw [HFE.out] at H4
    clear hk15
    go_wp2_with (first
      | (go_at_call 26; refine H4.out.mono ?_; rintro e w16 ⟨x, rfl, hfd⟩; have HFD := Aside0.mk hfd; clear hfd; obtain ⟨Ax, cx, ex⟩ := Kd.R_slice HFD.out.out; subst ex; have HY16 := Aside0.mk (lists_keep HFD.out.keep (Kd.R_below HY12.out HK15.out) (fun k hk _ hs => hs.elim (fun e => by have := HG11.out; omega) (fun e => by simp [Value.ownBlock] at e))); have HB16 := Aside0.mk (HB15.out.trans (HFD.out.keep.below (fun k hs => hs.elim (fun e => e ▸ HO15.out.at_) (fun e => by simp [Value.ownBlock] at e)) HB15.out.size)))
      | (go_at_call 28; (with_reducible refine (pennantref04_Same.calls 1 Ax cx ol Ay cy ol true w16 (Kd.R_reads' HFD.out.out).2.2 (Kd.R_reads' HFD.out.out).2.1 (Kd.R_reads' HY16.out).2.2 (Kd.R_reads' HY16.out).2.1 (same_true _ HOB.out 1)).mono ?_); rintro e w17 ⟨rfl, hd⟩; have HB17 := Aside0.mk (below_then HB16.out HB16.out.size hd.below); have HX17 := Aside0.mk (Kd.R_below HFD.out.out hd.below); clear hd))
    have hol1 : ol.length = o.length + 1 := by rw [← HOL.out]; simp
    obtain ⟨adx, Ab, cb, eax, hcx, hcb2, hCx⟩ := elem_at (Kd.R_reads' HX17.out).2.2 o.length (by omega)
    subst eax
    have hgb : ol.getD o.length [] = b := by rw [← HOL.out]; simp
    rw [hgb] at hcx hCx
    have hcv1 : ∀ m, (convert 23 9 (.slice Ab b.length cb)).run Tryd.prog (w17.drewN m) = .ok (.string (strOfNums b)) (w17.drewN m) := fun m => Kd.C_string (P := Tryd.prog) (src := 23) (dst := 9) (e := 5) (c := cb) Tryd.underlying23 Tryd.underlying5 Tryd.underlying9 (Kd.C_below hCx (pw_below_drewN (Below.refl _ _) m))
    have hcv2 : ∀ m, (convert 23 9 (.slice A1 b.length c1)).run Tryd.prog (w17.drewN m) = .ok (.string (strOfNums b)) (w17.drewN m) := fun m => Kd.C_string (P := Tryd.prog) (src := 23) (dst := 9) (e := 5) (c := c1) Tryd.underlying23 Tryd.underlying5 Tryd.underlying9 (Kd.C_below (Kd.C_below HCB.out HB17.out) (pw_below_drewN (Below.refl _ _) m))
    have hm1 : o.length < ol.length := by omega
    have hm2 : decide ((0 : Int) < (ol.length : Int)) = true := by simp; omega
    have hm5 : decide (0 < ol.length) = true := by simp; omega
    have hm6 : 0 < ol.length := by omega
    have hm3 : (ol.length : Int) - 1 = (o.length : Int) := by omega
    have hm4 : (ol.length : Int) ≤ 2 := by omega
    clear hol1 hgb hCx
    go_quiet (fail)
    go_wp2
    go_ret
    exact ⟨by simp, pw_below_drewN HB17.out nq⟩
  · have hbad : decide ((2048 : Int) < (a.length : Int)) = true ∨ (decide ((2048 : Int) < (a.length : Int)) = false ∧ decide ((2048 : Int) < (b.length : Int)) = true) ∨ (decide ((2048 : Int) < (a.length : Int)) = false ∧ decide ((2048 : Int) < (b.length : Int)) = false ∧ decide (x0 < 0) = true) := by
      simp only [decide_eq_true_eq, decide_eq_false_iff_not]
      omega
    rcases hbad with h1 | ⟨h1, h2⟩ | ⟨h1, h2, h3⟩
    all_goals
      go_enter Tryd.func11, Tryd.ntmps11
      go_wp2_with (first
        | (go_at_call 22; refine (awake_true _).mono ?_; rintro e w1 ⟨rfl, hb1⟩; have HB1 := Aside0.mk (below_then (below_alloc (Below.refl _ _) _) (by simp) hb1); have hcx0 : w1.cell? ⟨w.heap.size, 0, none⟩ = some (.int .i64 x0) := pw_cell_below hb1 (by simp); clear hb1))
      go_ret
      exact ⟨rfl, HB1.out⟩
end Go.Proofs.YtlbmfbbdfmmfnaaDoor
