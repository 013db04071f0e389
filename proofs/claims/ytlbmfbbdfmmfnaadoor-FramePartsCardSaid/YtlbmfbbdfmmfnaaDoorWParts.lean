/- FrameParts, walked: a stream that comes byte by byte brings what it brings at once: for all bytes. -/
import Derived.Test.YtlbmfbbdfmmfnaaDoorReads
namespace Go.Proofs.YtlbmfbbdfmmfnaaDoor
open Go.RowKit Go.Shelf Go.Proofs.YtlbmfbbdfmmfnaaDoorW.PrintWords Go.Proofs.YtlbmfbbdfmmfnaaDoorW.PrintLast Go.Proofs.YtlbmfbbdfmmfnaaDoorW.PrintMore
open Go.Proofs.YtlbmfbbdfmmfnaaDoor.PRdr
set_option linter.unusedVariables false
set_option linter.unusedSimpArgs false
attribute [local go_sem] Oper.semAt_some max2_int min2_int max_two min_two max_three min_three max_four min_four

def St0 : St := ⟨[], false, [], 0⟩
theorem byte_cut (b : List Int) (i : Nat) (h : i < b.length) : (b.take (i + 1)).drop i = [b.getD i 0] := by
  rw [List.take_succ_eq_append_getElem h, List.drop_append_of_le_length (by simp; omega), List.drop_of_length_le (by simp; omega), List.getD_eq_getElem?_getD, List.getElem?_eq_getElem h]
  rfl
theorem feed_one (s : St) (b : List Int) (i : Nat) (h : i < b.length) : feedSt s (b.take (i + 1)) = feedSt (feedSt s (b.take i)) [b.getD i 0] := by
  rw [List.take_succ_eq_append_getElem h, feed_append, List.getD_eq_getElem?_getD, List.getElem?_eq_getElem h]
  rfl
set_option maxHeartbeats 4000000 in
set_option maxRecDepth 100000 in
theorem frameParts_walk (A0 : Option Addr) (cap : Nat) (b : List Int) (w : World) (hT : TabOk w) (hC : Kd.C (Kd.int .u8) w A0 b.length b) (hcap : b.length ≤ cap) (hby : ∀ c ∈ b, 0 ≤ c ∧ c ≤ 255) :
    Calls Tryd.prog 10 #[.slice A0 b.length cap] w fun e w' => e = .returned (.bool true) ∧ Below w.heap.size w w' := by
  have HT := Aside0.mk hT
  have HC := Aside0.mk hC
  have HBY := Aside0.mk hby
  have h0 : 0 < w.heap.size := World.block_lt_of_cell? w _ (hT 0 (by decide))
  clear hT hC hby
  by_cases hlen : (b.length : Int) ≤ 10000
  · obtain ⟨F, hF⟩ : ∃ F, feedSt St0 b = F := ⟨_, rfl⟩
    have HF := Aside0.mk hF
    have HFF := Aside0.mk (show Fine F from hF ▸ Fine.start.feed b HBY.out)
    have HSEP := Aside0.mk (show 0 < b.length → ∀ ad, A0 = some ad → ad.block < w.heap.size from fun hp ad e => C_block (e ▸ HC.out) hp)
    clear hF
    go_enter Tryd.func10, Tryd.ntmps10
    go_wp2_with (first
      | (go_at_call 22; refine (awake_true _).mono ?_; rintro e w1 ⟨rfl, hb1⟩; have HB1 := Aside0.mk hb1; clear hb1)
      | (go_at_call 25; first
          | (refine (new_any w1 w.heap.size HB1.out.size).mono ?_; rintro e w2 ⟨g, rfl, ho, hg1, hb2⟩; have HO := Aside0.mk ho; have HB2 := Aside0.mk (below_then HB1.out HB1.out.size hb2); clear ho hb2)
          | (refine (new_any w2 w.heap.size HB2.out.size).mono ?_; rintro e w3 ⟨g2, rfl, ho, hg2, hb2⟩; have HO2 := Aside0.mk ho; have HO3 := Aside0.mk (HO.out.keep (Keep.of_below hb2 (fun _ => False)) (fun h => h) (fun _ _ h => h)); have HGG := Aside0.mk (show g ≠ g2 by have := blk_lt HO.out.blk; omega); have HB3 := Aside0.mk (below_then HB2.out HB2.out.size hb2); clear ho hb2))
      | (go_at_call 26; refine (fed w3 w.heap.size g (.slice none 0 0) [] false A0 cap b HO3.out Fine.start HB3.out.size h0 (HT.out.below HB3.out) (Kd.C_below HC.out HB3.out) HBY.out (by omega) (fun hp ad e => ⟨by simp [Value.ownBlock], fun e2 => by have := HSEP.out hp ad e; have := HO3.out.at_; omega⟩)).mono ?_; rintro e w4 ⟨x, rfl, hfd⟩; have hFd : feedSt ⟨[], false, [], 0⟩ b = F := HF.out; rw [hFd] at hfd ⊢; clear hFd; have HFD := Aside0.mk hfd; clear hfd))
    have HX4 := Aside0.mk (show ∃ A c, OwnR w4 w.heap.size g (.slice A F.held.length c) F.held F.sp ∧ Keep w3 w4 (fun k => k = g) from by
      obtain ⟨hv', ho, hn, _⟩ := HFD.out.ex
      obtain ⟨A, c, e⟩ := Kd.R_slice ho.row
      subst e
      exact ⟨A, c, ho, HFD.out.keep.mono (fun k _ hs => hs.elim (fun e => e) (fun e => by simp [Value.ownBlock] at e))⟩)
    obtain ⟨Ax, cx, ex⟩ := Kd.R_slice HFD.out.out
    subst ex
    obtain ⟨Ag, cg, hog, hk4⟩ := HX4.out
    have HO4 := Aside0.mk hog
    have HY4 := Aside0.mk (HO2.out.keep hk4 (fun e => HGG.out e.symm) (fun k hk => by simp [Value.ownBlock] at hk))
    have HB4 := Aside0.mk (HB3.out.trans (hk4.below (fun k e => e ▸ HO3.out.at_) HB3.out.size))
    clear hog hk4
    go_loopw [8, 9, 10] (fun v8 v9 v10 wr => ∃ i : Nat, v10 = .int .i64 (i : Int) ∧ i ≤ b.length ∧ v9 = .int .i64 ((feedSt St0 (b.take i)).n : Int) ∧ (feedSt St0 (b.take i)).n ≤ i ∧ (feedSt St0 (b.take i)).out.length ≤ i ∧ ∃ hv, OwnR wr w.heap.size g2 hv (feedSt St0 (b.take i)).held (feedSt St0 (b.take i)).sp ∧ (∀ k, hv.ownBlock = some k → w4.heap.size ≤ k) ∧ Kd.R (Kd.slice 5 (Kd.int .u8)) 23 wr w4.heap.size (fun k => some k ≠ hv.ownBlock) v8 (feedSt St0 (b.take i)).out ∧ Keep w4 wr (fun k => k = g2)) (fun v8 v9 v10 wr => b.length - (intOf v10).toNat)
    case atStart => exact ⟨0, rfl, Nat.zero_le _, rfl, Nat.le_refl _, Nat.le_refl _, _, HY4.out, by simp [Value.ownBlock], Kd.R_nil _ _ _ _ _, Keep.refl _ _⟩
    case round =>
      obtain ⟨i, rfl, hi, rfl, hn, hol, hv, ho, hnew, hout, hkeep⟩ := hrel
      have HOY := Aside0.mk ho
      have HNEW := Aside0.mk hnew
      have HOUT := Aside0.mk hout
      have HKEEP := Aside0.mk hkeep
      have HB := Aside0.mk (HB4.out.trans (hkeep.below (fun k e => e ▸ HO2.out.at_) HB4.out.size))
      have HFS := Aside0.mk (Fine.start.feed (b.take i) (fun c hc => HBY.out c (List.mem_of_mem_take hc)))
      clear ho hnew hout hkeep
      obtain ⟨S, hS⟩ : ∃ S, feedSt St0 (b.take i) = S := ⟨_, rfl⟩
      have hS2 : feedSt ⟨[], false, [], 0⟩ (b.take i) = S := hS
      rw [hS] at hn hol HOY HOUT ⊢
      rw [hS2] at HFS
      have HS := Aside0.mk hS
      clear hS hS2
      obtain ⟨Ao, co, eo⟩ := Kd.R_slice HOUT.out
      subst eo
      by_cases hlt : i < b.length
      · obtain ⟨z, hz⟩ : ∃ z, b.getD i 0 = z := ⟨_, rfl⟩
        have HNX := Aside0.mk (feed_one St0 b i hlt)
        have hzb : 0 ≤ z ∧ z ≤ 255 := by
          apply HBY.out
          rw [← hz, List.getD_eq_getElem?_getD, List.getElem?_eq_getElem hlt]
          exact List.getElem_mem hlt
        obtain ⟨i0, hi0, _, hsz, _⟩ := info_parts byteInfo
        obtain ⟨A', hrun, hCC, hle⟩ := print_mid_of (P := Tryd.prog) (Value.int .u8) (0 : Int) 23 5 .i64 .i64 Tryd.underlying23 hi0 hsz A0 cap b (i : Int) ((i : Int) + 1) (by omega) (by omega) (by omega) hcap
        have ecut : (b.take ((i : Int) + 1).toNat).drop ((i : Int)).toNat = [z] := by
          rw [show ((i : Int) + 1).toNat = i + 1 by omega, Int.toNat_natCast, byte_cut b i hlt, hz]
        rw [ecut] at hrun hCC hle
        rw [HS.out, hz] at HNX
        obtain ⟨G, hG⟩ : ∃ G, feedSt ⟨S.held, S.sp, [], 0⟩ [z] = G := ⟨_, rfl⟩
        have HG := Aside0.mk hG
        have hsn : feedSt S [z] = ⟨G.held, G.sp, S.out ++ G.out, S.n + G.n⟩ := by rw [feed_from, hG]
        rw [hsn] at HNX
        have HC1 := Aside0.mk (Kd.C_of_reads (h1 := fun _ => rfl) (hCC w (Kd.reads_of_C HC.out)))
        have H1 := Aside0.mk (fed wr w.heap.size g2 hv S.held S.sp A' (cap - ((i : Int)).toNat) [z] HOY.out HFS.out.again HB.out.size h0 (HT.out.below HB.out) (Kd.C_below HC1.out HB.out) (by simpa using hzb) (by simp) (fun hp ad e => by
          have hbl := C_block (e ▸ HC1.out) hp
          exact ⟨fun e2 => by have := Kd.R_base HOY.out.row _ e2.symm; omega, fun e2 => by have := HOY.out.at_; omega⟩))
        rw [hG] at H1
        have hgl : G.out.length ≤ 1 ∧ G.n ≤ 1 := by
          rw [← HG.out]
          unfold feedSt stepSt
          simp only [List.foldl_cons, List.foldl_nil]
          split
          · split <;> simp
          · split
            · simp
            · split <;> simp
        clear hz hCC hle hG hsn ecut hi0 hsz
        simp only [List.length_singleton] at hrun H1
        go_wp2_with (first
          | (go_at_call 26; refine H1.out.mono ?_; rintro e w5 ⟨l, rfl, hfd⟩; obtain ⟨hv5, ho5, hn5, hl5⟩ := hfd.ex; obtain ⟨Al, cl, el⟩ := Kd.R_slice hl5; subst el; have HO5 := Aside0.mk ho5; have HN5 := Aside0.mk hn5; have HL5 := Aside0.mk hl5; have HP5 := Aside0.mk (lists_past HOY.out hfd HOUT.out hn5); have HK5 := Aside0.mk hfd.keep; clear hfd ho5 hn5 hl5)
          | (refine gate_builtin (b := .append) (xs := #[.tmp 63, .tmp 64]) rfl ?_; at_builtin; refine Kd.R_append_rows (Kd.slice 5 (Kd.int .u8)) (w0 := w5) w4.heap.size rfl (.tmp 63) (.tmp 64) 38 23 (.slice none 0 0) 24 rfl Tryd.underlying38 sliceInfo rfl (by decide) (by omega) _ S.out G.out _ _ _ (fun k => some k ≠ hv5.ownBlock) (fun k => some k ≠ hv5.ownBlock ∧ wr.heap.size ≤ k) rfl rfl HP5.out (R_rows HL5.out (by have := HKEEP.out.size; omega)) (fun _ _ h => h) (fun k hk => ⟨hk.1, Kd.fresh' (Kd.R_lt HOUT.out) k hk.2⟩) (fun k hk e => by have := Kd.R_lt HO5.out.row k e.symm; omega) (Below.refl _ _) (by have := HKEEP.out.size; have := HK5.out.size; omega) (by omega) ?_; intro v1 w6 hr6 hb6 hg6 hat6; have HR6 := Aside0.mk hr6; have HG6 := Aside0.mk hg6; clear hr6 hb6 hg6 hat6))
        go_roundw
        case rel =>
          refine ⟨i + 1, by simp, by omega, ?_⟩
          rw [HNX.out]
          have hk6 := Keep.of_grown HG6.out
          have hne : ∀ k, hv5.ownBlock = some k → ¬ some k = (Value.slice Ao S.out.length co).ownBlock := fun k hk e => by
            obtain ⟨c1, hc1⟩ := Kd.R_typed HO5.out.row k hk
            obtain ⟨c2, hc2⟩ := Kd.R_typed HP5.out k e.symm
            have := hc1.symm.trans hc2
            cases this
          have hk5 : Keep wr w5 (fun k => k = g2 ∨ w4.heap.size ≤ k) := HK5.out.mono (fun k _ hs => hs.elim .inl (fun e => .inr (HNEW.out k e.symm)))
          refine ⟨by simp, by show S.n + G.n ≤ i + 1; omega, by show (S.out ++ G.out).length ≤ i + 1; simp; omega, hv5, HO5.out.keep hk6 (fun e => ?_) hne, fun k hk => ?_, HR6.out, ?_⟩
          · obtain ⟨c2, hc2⟩ := Kd.R_typed HP5.out g2 e.symm
            have := HO5.out.blk.symm.trans hc2
            cases this
          · rcases HN5.out with e | e
            · exact HNEW.out k (e.symm.trans hk)
            · have := e k hk
              have := HKEEP.out.size
              omega
          · refine ((HKEEP.out.then_ hk5 (fun k hs => hs)).then_ hk6 (fun k e => .inr (Kd.R_base HOUT.out k e.symm)))
        case measure => simp [intOf]; omega
      · obtain rfl : i = b.length := by omega
        have HSE := Aside0.mk (show F = S by rw [← HF.out, ← HS.out, List.take_length])
        obtain rfl := HSE.out
        have HOX := Aside0.mk (HO4.out.keep HKEEP.out HGG.out (fun k hk e => row_ne HO4.out.row HY4.out.blk (by decide) (e ▸ hk)))
        have HWT := Aside0.mk (Kd.R_mono (HKEEP.out.R (Kd.R_types HFD.out.out HY4.out.blk sliE) (fun k hk e => hk.2 e)) (fun k _ => trivial) : Kd.R (Kd.slice 5 (Kd.int .u8)) 23 wr w3.heap.size (fun _ => True) _ F.out)
        obtain ⟨Ay, cy, ey⟩ := Kd.R_slice HOY.out.row
        subst ey
        have hlt2 : decide (b.length < b.length) = false := by simp
        go_wp2_with (first
          | (go_at_call 28; refine (pennantref04_Same.calls 1 Ao co F.out Ax cx F.out true wr (Kd.R_reads' HOUT.out).2.2 (Kd.R_reads' HOUT.out).2.1 (Kd.R_reads' HWT.out).2.2 (Kd.R_reads' HWT.out).2.1 (same_true F.out HFF.out.out 1)).mono ?_; rintro e w5 ⟨rfl, hd⟩; have HB5 := Aside0.mk (below_then HB.out HB.out.size hd.below); have HOX5 := Aside0.mk (HOX.out.keep (Keep.of_below hd.below (fun _ => False)) (fun h => h) (fun _ _ h => h)); have HOY5 := Aside0.mk (HOY.out.keep (Keep.of_below hd.below (fun _ => False)) (fun h => h) (fun _ _ h => h)); have hcg : w5.cell? ⟨g, 0, none⟩ = some (.slice Ag F.held.length cg) := (blk_cell HOX5.out.blk 0).trans rfl; have hcq : w5.cell? ⟨g2, 0, none⟩ = some (.slice Ay F.held.length cy) := (blk_cell HOY5.out.blk 0).trans rfl; clear hd)
          | (go_at_call 29; first
              | (refine (held_any w5 g Ag _ cg hcg).mono ?_; rintro e w' ⟨rfl, rfl⟩)
              | (refine (held_any w5 g2 Ay _ cy hcq).mono ?_; rintro e w' ⟨rfl, rfl⟩)))
        go_ret
        exact ⟨by simp, HB5.out⟩
  · have hs : decide ((10000 : Int) < (b.length : Int)) = true := by simp; omega
    go_enter Tryd.func10, Tryd.ntmps10
    go_wp2_with (first
      | (go_at_call 22; refine (awake_true _).mono ?_; rintro e w1 ⟨rfl, hb1⟩; have HB1 := Aside0.mk hb1; clear hb1)
      | (go_at_call 25; first
          | (refine (new_any w1 w.heap.size HB1.out.size).mono ?_; rintro e w2 ⟨g, rfl, ho, hg1, hb2⟩; have HO := Aside0.mk ho; have HB2 := Aside0.mk (below_then HB1.out HB1.out.size hb2); clear ho hb2)
          | (refine (new_any w2 w.heap.size HB2.out.size).mono ?_; rintro e w3 ⟨g2, rfl, ho, hg2, hb2⟩; have HB3 := Aside0.mk (below_then HB2.out HB2.out.size hb2); clear ho hb2)))
    go_ret
    exact ⟨rfl, HB3.out⟩
end Go.Proofs.YtlbmfbbdfmmfnaaDoor
