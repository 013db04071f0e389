/- FrameReads, walked: what comes off any stream, in any parts, is what the reference tells: for all bytes. -/
import Derived.Test.YtlbmfbbdfmmfnaaDoorReads
namespace Go.Proofs.YtlbmfbbdfmmfnaaDoor
open Go.RowKit Go.Shelf Go.Proofs.YtlbmfbbdfmmfnaaDoorW.PrintWords Go.Proofs.YtlbmfbbdfmmfnaaDoorW.PrintLast Go.Proofs.YtlbmfbbdfmmfnaaDoorW.PrintMore
open Go.Proofs.YtlbmfbbdfmmfnaaDoor.PRdr
set_option linter.unusedVariables false
set_option linter.unusedSimpArgs false
attribute [local go_sem] Oper.semAt_some max2_int min2_int max_two min_two max_three min_three max_four min_four

set_option maxHeartbeats 4000000 in
set_option maxRecDepth 100000 in
theorem frameReads_walk (A0 : Option Addr) (cap : Nat) (L : List (List Int)) (w : World) (hT : TabOk w) (hC : Kd.C (Kd.slice 5 (Kd.int .u8)) w A0 L.length L) (hby : bytesAll L) :
    Calls Tryd.prog 9 #[.slice A0 L.length cap] w fun e w' => e = .returned (.bool true) ∧ Below w.heap.size w w' := by
  have HT := Aside0.mk hT
  have HC := Aside0.mk hC
  have HBY := Aside0.mk hby
  have h0 : 0 < w.heap.size := World.block_lt_of_cell? w _ (hT 0 (by decide))
  clear hT hC hby
  go_enter Tryd.func9, Tryd.ntmps9
  go_wp2_with (first
    | (go_at_call 22; refine (awake_true _).mono ?_; rintro e w1 ⟨rfl, hb1⟩; have HB1 := Aside0.mk hb1; clear hb1)
    | (go_at_call 25; refine (new_any w1 w.heap.size HB1.out.size).mono ?_; rintro e w2 ⟨g, rfl, ho, hg1, hb2⟩; have HO := Aside0.mk ho; have HB2 := Aside0.mk (below_then HB1.out HB1.out.size hb2); clear ho hb2))
  go_loopw [6, 7] (fun v6 v7 wr => ∃ i n : Nat, v7 = .int .i64 (i : Int) ∧ v6 = .int .i64 (n : Int) ∧ i ≤ L.length ∧ n ≤ 30000 ∧ ∃ hv rv h sp, OwnR wr w.heap.size g hv h sp ∧ RefR wr w.heap.size w2.heap.size rv h sp ∧ (∀ k, hv.ownBlock = some k → rv.ownBlock ≠ some k) ∧ Fine ⟨h, sp, [], 0⟩ ∧ Below w.heap.size w wr) (fun v6 v7 wr => L.length - (intOf v7).toNat)
  case atStart => exact ⟨0, 0, rfl, rfl, Nat.zero_le _, Nat.zero_le _, .slice none 0 0, .slice none 0 0, [], false, HO.out.keep (Keep.of_below (below_alloc (Below.refl _ _) _) (fun _ => False)) (fun h => h) (fun _ _ h => h), ⟨blk_new _ _, Kd.R_nil _ _ _ _ _, HB2.out.size⟩, by simp [Value.ownBlock], Fine.start, HB2.out.alloc HB2.out.size _⟩
  case round =>
    obtain ⟨i, n, rfl, rfl, hi, hn, hv, rv, h, sp, ho, hr, hap, hf, hb⟩ := hrel
    have HOR := Aside0.mk ho
    have HRR := Aside0.mk hr
    have HAP := Aside0.mk hap
    have HF := Aside0.mk hf
    have HB := Aside0.mk hb
    clear ho hr hap hf hb
    by_cases hlt : i < L.length
    · by_cases h100 : (i : Int) < 100
      · obtain ⟨ad, Ai, ci, e1, hcell, hci, hCi⟩ := elem_at HC.out i hlt
        subst e1
        obtain ⟨b, hbe⟩ : ∃ b, L.getD i [] = b := ⟨_, rfl⟩
        rw [hbe] at hcell hci hCi
        have hbb : ∀ c ∈ b, 0 ≤ c ∧ c ≤ 255 := by
          apply HBY.out
          rw [← hbe, List.getD_eq_getElem?_getD, List.getElem?_eq_getElem hlt]
          exact List.getElem_mem hlt
        have hcr := pw_cell_below HB.out hcell
        have HCI := Aside0.mk hCi
        have HBB := Aside0.mk hbb
        have HCELL := Aside0.mk hcell
        clear hcell hCi hbb hbe
        by_cases hlen : (b.length : Int) ≤ 10000
        · by_cases hsum : (n : Int) + (b.length : Int) ≤ 30000
          · have HSEP := Aside0.mk (show 0 < b.length → ∀ ad, Ai = some ad → ad.block < w.heap.size from fun hp ad e => C_block (e ▸ HCI.out) hp)
            have H1 := Aside0.mk (fed wr w.heap.size g hv h sp Ai ci b HOR.out HF.out HB.out.size h0 (HT.out.below HB.out) (Kd.C_below HCI.out HB.out) HBB.out (by omega) (fun hp ad e => ⟨fun e2 => by have := HSEP.out hp ad e; have := Kd.R_base HOR.out.row _ e2.symm; omega, fun e2 => by have := HSEP.out hp ad e; have := HOR.out.at_; omega⟩))
            obtain ⟨F, hF⟩ : ∃ F, feedSt ⟨h, sp, [], 0⟩ b = F := ⟨_, rfl⟩
            have HFF := Aside0.mk (show Fine F from hF ▸ HF.out.feed b HBB.out)
            have H2 := Aside0.mk (fun (W : World) (o : RefR W w.heap.size w2.heap.size rv h sp) (hb : Below w.heap.size w W) => fedR W w.heap.size w2.heap.size rv h sp Ai ci b o HF.out hb.size (Kd.C_below HCI.out hb) HBB.out (by omega) (fun hp ad e => ⟨fun e2 => by have := HSEP.out hp ad e; have := Kd.R_base HRR.out.row _ e2.symm; omega, fun e2 => by have := HSEP.out hp ad e; have := HRR.out.at_; omega⟩))
            rw [hF] at H1 H2
            clear hF
            go_wp2_with (first
              | (go_at_call 26; refine H1.out.mono ?_; rintro e w3 ⟨x, rfl, hfd⟩; obtain ⟨A3, c3, ho3, hr3, hap3, hb3⟩ := both_fed HOR.out HRR.out HAP.out HB.out.size hfd; obtain ⟨Ax, cx, ex⟩ := Kd.R_slice hfd.out; subst ex; have hb4 := HB.out.trans hb3; have hcr3 := pw_cell_below hb4 (show w.cell? (ad.add i) = _ from HCELL.out); have HFD := Aside0.mk hfd; have HO3 := Aside0.mk ho3; have HR3 := Aside0.mk hr3; have HAP3 := Aside0.mk hap3; have HB3 := Aside0.mk hb4; have HS3 := Aside0.mk hb3.size; clear hfd ho3 hr3 hap3 hb3 hb4)
              | (go_at_call 27; refine (H2.out w3 HR3.out HB3.out).mono ?_; rintro e w4 ⟨y, rfl, hfr⟩; obtain ⟨A4, c4, ho4, hr4, hap4, hb4⟩ := both_fedR HO3.out HR3.out HAP3.out HB3.out.size hfr; obtain ⟨Ay, cy, ey⟩ := Kd.R_slice hfr.out; subst ey; have HX4 := Aside0.mk (lists_keep hfr.keep HFD.out.out (fun k hk _ hs => hs.elim (fun e => by have := blk_lt HRR.out.blk; omega) (fun e => by have := Kd.R_lt HRR.out.row k e.symm; omega))); have HY4 := Aside0.mk hfr.out; have HO4 := Aside0.mk ho4; have HR4 := Aside0.mk hr4; have HAP4 := Aside0.mk hap4; have HB4 := Aside0.mk (HB3.out.trans hb4); clear hfr ho4 hr4 hap4 hb4)
              | (go_at_call 28; refine (pennantref04_Same.calls 1 Ax cx F.out Ay cy F.out true w4 (Kd.R_reads' HX4.out).2.2 (Kd.R_reads' HX4.out).2.1 (Kd.R_reads' HY4.out).2.2 (Kd.R_reads' HY4.out).2.1 (same_true F.out HFF.out.out 1)).mono ?_; rintro e w5 ⟨rfl, hd⟩; have HB5 := Aside0.mk (below_then HB4.out HB4.out.size hd.below); have HO5 := Aside0.mk (HO4.out.keep (Keep.of_below hd.below (fun _ => False)) (fun h => h) (fun _ _ h => h)); have HR5 := Aside0.mk (HR4.out.keep (Keep.of_below hd.below (fun _ => False)) (fun h => h) (fun _ _ h => h)); have hcg : w5.cell? ⟨g, 0, none⟩ = some (.slice A3 F.held.length c3) := (blk_cell HO5.out.blk 0).trans rfl; have hcq : w5.cell? ⟨w2.heap.size, 0, none⟩ = some (.slice A4 F.held.length c4) := (blk_cell HR5.out.blk 0).trans rfl; clear hd))
            go_quiet ((go_at_call 29; exact Calls.quiet_of_same (held_quiet _ _ _ _ _ _ hcg)))
            go_wp2
            go_roundw
            case rel =>
              have hk : Keep w5 (w5.drewN nq) (fun _ => False) := Keep.of_below (pw_below_drewN (Below.refl _ _) nq) _
              exact ⟨i + 1, n + b.length, by go_num, by go_num, by omega, by omega, _, _, _, _, HO5.out.keep hk (fun h => h) (fun _ _ h => h), HR5.out.keep hk (fun h => h) (fun _ _ h => h), HAP4.out, HFF.out.again, pw_below_drewN HB5.out nq⟩
            case measure => simp [intOf]; omega
          · have hs : decide ((30000 : Int) < (n : Int) + (b.length : Int)) = true := by simp; omega
            go_wp2
            go_ret
            exact ⟨rfl, HB.out⟩
        · have hs : decide ((10000 : Int) < (b.length : Int)) = true := by simp; omega
          go_wp2
          go_ret
          exact ⟨rfl, HB.out⟩
      · have hs : decide ((i : Int) < 100) = false := by simp; omega
        go_wp2
        go_ret
        exact ⟨rfl, HB.out⟩
    · have hs : decide ((i : Int) < (L.length : Int)) = false := by simp; omega
      have hs2 : decide (i < L.length) = false := by simp; omega
      go_wp2
      go_ret
      exact ⟨rfl, HB.out⟩
end Go.Proofs.YtlbmfbbdfmmfnaaDoor
