/- The contract of frame's Reader.Feed: for all bytes. -/
import Derived.Test.YtlbmfbbdfmmfnaaDoorReader
import Derived.Test.YtlbmfbbdfmmfnaaDoorKeep
import Derived.WalkMore
namespace Go.Proofs.YtlbmfbbdfmmfnaaDoor
open Go.RowKit Go.Shelf Go.Proofs.YtlbmfbbdfmmfnaaDoorW.PrintWords Go.Proofs.YtlbmfbbdfmmfnaaDoorW.PrintLast Go.Proofs.YtlbmfbbdfmmfnaaDoorW.PrintMore
open Go.Proofs.YtlbmfbbdfmmfnaaDoor.PRdr
set_option linter.unusedVariables false
set_option linter.unusedSimpArgs false
attribute [local go_sem] Oper.semAt_some max2_int min2_int max_two min_two max_three min_three max_four min_four

/-- What a Reader holds, whether it is spoilt; what it has told, and how many were spoilt. -/
structure St where
  held : List Int
  sp : Bool
  out : List (List Int)
  n : Nat
def stepSt (s : St) (c : Int) : St :=
  if c ≠ 0 then (if s.held.length < 2100 then { s with held := s.held ++ [c] } else { s with sp := true })
  else if s.held = [] then s
  else if (endOf s.held s.sp).2 = true then ⟨[], false, s.out ++ [(endOf s.held s.sp).1], s.n⟩ else ⟨[], false, s.out, s.n + 1⟩
def feedSt (s : St) (b : List Int) : St := b.foldl stepSt s
theorem feedSt_succ (s : St) (b : List Int) (i : Nat) (h : i < b.length) : feedSt s (b.take (i + 1)) = stepSt (feedSt s (b.take i)) (b.getD i 0) := by
  unfold feedSt
  rw [List.take_add_one, List.getElem?_eq_getElem h, List.foldl_append, List.getD_eq_getElem?_getD, List.getElem?_eq_getElem h]
  rfl
theorem stepSt_held (s : St) (c : Int) (h : s.held.length ≤ 2100) : (stepSt s c).held.length ≤ 2100 := by
  unfold stepSt
  split
  · split
    · simp; omega
    · exact h
  · split
    · exact h
    · split <;> simp
theorem stepSt_bytes (s : St) (c : Int) (hc : 0 ≤ c ∧ c ≤ 255) (h : ∀ x ∈ s.held, 0 ≤ x ∧ x ≤ 255) : ∀ x ∈ (stepSt s c).held, 0 ≤ x ∧ x ≤ 255 := by
  unfold stepSt
  split
  · split
    · intro x hx
      rcases List.mem_append.1 hx with hx | hx
      · exact h x hx
      · rw [List.mem_singleton.1 hx]; exact hc
    · exact h
  · split
    · exact h
    · split <;> simp
theorem sliceInfo : (Tryd.prog.info? 23).map (fun i => (i.zero, i.size, i.bytes)) = some (some (.slice none 0 0), 1, 24) := by kernel_rfl

/-- What a call keeps: all but a block and a row. -/
def KeepG (w W : World) (g : Nat) (r : Option Nat) : Prop := Keep w W (fun k => k = g ∨ some k = r)
theorem KeepG.refl (w : World) (g : Nat) (r : Option Nat) : KeepG w w g r := Keep.refl _ _
theorem KeepG.blk2 {w W : World} {g : Nat} {r : Option Nat} (h : KeepG w W g r) (k : Nat) (hk : k < w.heap.size) (h1 : k ≠ g) (h2 : some k ≠ r) : W.heap[k]? = w.heap[k]? := h.block k hk (fun h => h.elim h1 h2)
/-- What lies behind Feed, at any time. -/
def FeedAt (w : World) (g base : Nat) (hv : Value) (S : St) (v : Value) (W : World) : Prop :=
  ∃ hv' : Value, W.heap[g]? = some (.cells #[hv', .bool S.sp] 56 (0, 0)) ∧ Kd.R (Kd.int .u8) 5 W base (fun _ => True) hv' S.held ∧ (hv'.ownBlock = hv.ownBlock ∨ ∀ k, hv'.ownBlock = some k → w.heap.size ≤ k) ∧
    Kd.R (Kd.slice 5 (Kd.int .u8)) 23 W w.heap.size (fun k => some k ≠ hv'.ownBlock) v S.out ∧ KeepG w W g hv.ownBlock

theorem R_setg {α : Type} {d : Kd α} {e base : Nat} {ok : Nat → Prop} {W : World} {v : Value} {xs : List α} {g : Nat} {cs : Array Value} {t : Nat} (h : d.R e W base ok v xs) (hb : W.heap[g]? = some (.cells cs t (0, 0))) (ht : ∀ q, q ∈ e :: d.E → q ≠ t) (j : Nat) (u : Value) : d.R e (W.setCell ⟨g, j, none⟩ u) base ok v xs :=
  Kd.R_mono (Kd.R_far (Kd.R_types h hb ht) (fun k hk => hk.2) u) (fun k hk => hk.1)
theorem keep_step {w W W1 : World} {g : Nat} {r r1 : Option Nat} (h : KeepG w W g r) (hg : W.grownBy W1 r1) (hr : r1 = r ∨ ∀ k, r1 = some k → w.heap.size ≤ k) : KeepG w W1 g r :=
  Keep.then_ h (Keep.of_grown hg) (fun k hk => by
    rcases hr with rfl | hr
    · exact .inl (.inr hk)
    · exact .inr (hr k hk.symm))
theorem KeepG.set_ {w W : World} {g : Nat} {r : Option Nat} (h : KeepG w W g r) (j : Nat) (u : Value) : KeepG w (W.setCell ⟨g, j, none⟩ u) g r := Keep.then_ h (Keep.set W ⟨g, j, none⟩ u) (fun k hk => .inl (.inl hk))
theorem intE (q : Nat) (h : q ∈ (5 : Nat) :: (Kd.int .u8).E) : q ≠ 56 := by
  have : q = 5 := by simpa [Kd.int, Kd.scalar] using h
  omega
theorem sliE (q : Nat) (h : q ∈ 23 :: (Kd.slice 5 (Kd.int .u8)).E) : q ≠ 56 := by
  have : q = 23 ∨ q = 5 := by simpa [Kd.slice, Kd.int, Kd.scalar] using h
  omega

set_option maxHeartbeats 2000000 in
set_option maxRecDepth 100000 in
theorem feed_calls (g base : Nat) (hv : Value) (held : List Int) (sp : Bool) (A1 : Option Addr) (c1 : Nat) (b : List Int) (w : World)
    (hg : w.heap[g]? = some (.cells #[hv, .bool sp] 56 (0, 0))) (hR : Kd.R (Kd.int .u8) 5 w base (fun _ => True) hv held) (hbase : base ≤ w.heap.size)
    (hb : Kd.C (Kd.int .u8) w A1 b.length b) (hsep : 0 < b.length → ∀ ad, A1 = some ad → some ad.block ≠ hv.ownBlock ∧ ad.block ≠ g) (hT : TabOk w) (hg0 : g ≠ 0) (hv0 : hv.ownBlock ≠ some 0)
    (hbl : b.length ≤ 100000) (hbb : ∀ c ∈ b, 0 ≤ c ∧ c ≤ 255) (hhl : held.length ≤ 2100) (hhb : ∀ c ∈ held, 0 ≤ c ∧ c ≤ 255) :
    Calls Tryd.prog 26 #[.pointer (some ⟨g, 0, none⟩), .slice A1 b.length c1] w fun e w' => ∃ v, e = .returned (.tuple #[v, .int .i64 ((feedSt ⟨held, sp, [], 0⟩ b).n : Int)]) ∧ FeedAt w g base hv (feedSt ⟨held, sp, [], 0⟩ b) v w' := by
  have HG := Aside0.mk hg
  have HR := Aside0.mk hR
  have HBB := Aside0.mk hb
  have HSEP := Aside0.mk hsep
  have HT := Aside0.mk hT
  have HBY := Aside0.mk hbb
  have HHB := Aside0.mk hhb
  clear hg hR hb hsep hT hbb hhb
  obtain ⟨F, hF⟩ : ∃ F, feedSt ⟨held, sp, [], 0⟩ b = F := ⟨_, rfl⟩
  rw [hF]
  have HF := Aside0.mk hF
  clear hF
  go_enter Tryd.func26, Tryd.ntmps26
  go_wp2
  go_step3
  go_wp2
  go_step3
  go_wp2
  go_loopw [6, 7, 14] (fun v6 v7 v14 wr => ∃ i : Nat, v14 = .int .i64 (i : Int) ∧ i ≤ b.length ∧ v7 = .int .i64 ((feedSt ⟨held, sp, [], 0⟩ (b.take i)).n : Int) ∧ (feedSt ⟨held, sp, [], 0⟩ (b.take i)).n ≤ i ∧ (feedSt ⟨held, sp, [], 0⟩ (b.take i)).held.length ≤ 2100 ∧
      (∀ c ∈ (feedSt ⟨held, sp, [], 0⟩ (b.take i)).held, 0 ≤ c ∧ c ≤ 255) ∧ (feedSt ⟨held, sp, [], 0⟩ (b.take i)).out.length ≤ i ∧ FeedAt w g base hv (feedSt ⟨held, sp, [], 0⟩ (b.take i)) v6 wr) (fun v6 v7 v14 wr => b.length - (intOf v14).toNat)
  case atStart => exact ⟨0, rfl, Nat.zero_le _, rfl, Nat.le_refl _, hhl, HHB.out, Nat.le_refl _, hv, HG.out, HR.out, .inl rfl, Kd.R_nil _ _ _ _ _, KeepG.refl _ _ _⟩
  case round =>
    obtain ⟨i, rfl, hi, rfl, hn, hhl2, hhb2, hol, hv', hg2, hR2, hown, hout, hkeep⟩ := hrel
    have HG2 := Aside0.mk hg2
    have HR2 := Aside0.mk hR2
    have HOWN := Aside0.mk hown
    have HOUT := Aside0.mk hout
    have HKEEP := Aside0.mk hkeep
    have HHB2 := Aside0.mk hhb2
    clear hg2 hR2 hown hout hkeep hhb2
    obtain ⟨S, hS⟩ : ∃ S, feedSt ⟨held, sp, [], 0⟩ (b.take i) = S := ⟨_, rfl⟩
    rw [hS] at hn hhl2 hol HHB2 HR2 HG2 HOUT ⊢
    have HS := Aside0.mk hS
    clear hS
    obtain ⟨Ah, ch, eh⟩ := Kd.R_slice HR2.out
    subst eh
    obtain ⟨Ao, co, eo⟩ := Kd.R_slice HOUT.out
    subst eo
    by_cases hlt : i < b.length
    · obtain ⟨z, hz⟩ : ∃ z, b.getD i 0 = z := ⟨_, rfl⟩
      have HNX := Aside0.mk (feedSt_succ ⟨held, sp, [], 0⟩ b i hlt)
      rw [HS.out, hz] at HNX
      have hzb : 0 ≤ z ∧ z ≤ 255 := by
        apply HBY.out
        rw [← hz, List.getD_eq_getElem?_getD, List.getElem?_eq_getElem hlt]
        exact List.getElem_mem hlt
      obtain ⟨ad, e1, hcell⟩ := (Kd.reads_of_C (enc := Value.int .u8) (d := (0 : Int)) (h1 := fun _ => rfl) HBB.out).2.2 (by omega)
      have hcz0 := hcell i hlt
      rw [hz] at hcz0
      have hsp := HSEP.out (by omega) ad e1
      subst e1
      have hcz : wr.cell? (ad.add i) = some (.int .u8 z) := by
        have hlt2 : (ad.add i).block < w.heap.size := World.block_lt_of_cell? w _ hcz0
        exact (World.cell?_of_block (by rw [add_block] at hlt2 ⊢; exact HKEEP.out.blk2 _ hlt2 hsp.2 hsp.1)).trans hcz0
      have hch : wr.cell? ⟨g, 0, none⟩ = some (.slice Ah S.held.length ch) := (blk_cell HG2.out 0).trans rfl
      have hcs : wr.cell? ⟨g, 1, none⟩ = some (.bool S.sp) := (blk_cell HG2.out 1).trans rfl
      have hfh := blk_frozen HG2.out 0
      have hfs := blk_frozen HG2.out 1
      clear hcell hz hcz0 hsp
      by_cases hz0 : z = 0
      · subst hz0
        by_cases hhe : S.held = []
        · have hSt : stepSt S 0 = S := by unfold stepSt; rw [if_neg (by simp), if_pos hhe]
          rw [hSt] at HNX
          have hle : (S.held.length == 0) = true := by rw [hhe]; rfl
          have hle2 : ((S.held.length : Int) == 0) = true := by rw [hhe]; rfl
          have hle3 : ((S.held.length : Int) != 0) = false := by rw [hhe]; rfl
          clear hSt hhe
          go_wp2
          all_goals go_roundw
          all_goals first
            | (case rel =>
                refine ⟨i + 1, by simp, by omega, ?_⟩
                rw [HNX.out]
                exact ⟨rfl, by omega, hhl2, HHB2.out, by omega, _, HG2.out, HR2.out, HOWN.out, HOUT.out, HKEEP.out⟩)
            | (case measure => simp [intOf]; omega)
        · have h00 : 0 < w.heap.size := World.block_lt_of_cell? w _ (HT.out 0 (by decide))
          have hTr : TabOk wr := fun j hj => (World.cell?_of_block (HKEEP.out.blk2 0 h00 (Ne.symm hg0) (fun e => hv0 e.symm))).trans (HT.out j hj)
          have hend := end_calls g Ah ch S.held S.sp wr HG2.out (Kd.R_reads' HR2.out).2.2 (Kd.R_reads' HR2.out).2.1 hTr hhl2 HHB2.out
          have hlp : 0 < S.held.length := List.length_pos_iff.2 hhe
          have hle : (S.held.length == 0) = false := by simp; omega
          have hle2 : ((S.held.length : Int) == 0) = false := by simp; omega
          obtain ⟨x, fine, hxf⟩ : ∃ x fine, endOf S.held S.sp = (x, fine) := ⟨_, _, rfl⟩
          rw [hxf] at hend
          dsimp only at hend
          have HEND := Aside0.mk hend
          have HXF := Aside0.mk hxf
          have HHE := Aside0.mk hhe
          clear hend hxf hTr hhe hlp
          have hbw : w.heap.size ≤ wr.heap.size := (Keep.size HKEEP.out)
          cases fine with
          | true =>
            have HST2 := Aside0.mk (show stepSt S 0 = ⟨[], false, S.out ++ [x], S.n⟩ by unfold stepSt; rw [if_neg (by simp), if_neg HHE.out, HXF.out]; simp)
            rw [HST2.out] at HNX
            go_wp2_with (first
              | (go_at_call 32; refine HEND.out.mono ?_; rintro e w2 ⟨v0, rfl, hR0, hb0⟩; have HX := Aside0.mk hR0; have HB0 := Aside0.mk hb0; clear hR0 hb0; obtain ⟨Ax, cx, ex⟩ := Kd.R_slice HX.out; subst ex)
              | (refine gate_builtin (b := .append) (xs := #[.tmp 58, .tmp 60]) rfl ?_; at_builtin; refine Kd.R_append (Kd.slice 5 (Kd.int .u8)) (w0 := w2) w.heap.size rfl (.tmp 58) (.tmp 60) 38 23 (.slice none 0 0) 24 rfl Tryd.underlying38 sliceInfo rfl (by decide) (by omega) _ S.out x [.slice Ax x.length cx] (fun _ => True) (fun k => wr.heap.size ≤ k) rfl rfl ⟨_, rfl, Kd.R_lower (Kd.R_mono (Kd.R_bound HX.out) (fun k hk => hk.2.1)) hbw⟩ (fun k hk => ⟨trivial, Kd.fresh' (Kd.R_lt HOUT.out) k hk⟩) (fun _ _ => trivial) (Kd.R_mono (Kd.R_below HOUT.out HB0.out) (fun _ _ => trivial)) (Below.refl _ _) (Nat.le_trans hbw HB0.out.size) (by omega) ?_; intro v1 w3 ho hb hgr hat; have hg2 := (HB0.out.block g (blk_lt HG2.out)).trans HG2.out; have hgg := (hgr.block g (blk_lt hg2) (fun e => by obtain ⟨cells, hc⟩ := Kd.Q_typed (Kd.Q_of_R HOUT.out) g e.symm; have e2 := hc.symm.trans HG2.out; cases e2)).trans hg2; have hfg := blk_frozen hgg 0; have hcg : w3.cell? ⟨g, 0, none⟩ = some (.slice Ah S.held.length ch) := (blk_cell hgg 0).trans rfl; have hs1 := blk_set hgg 0 (.slice none 0 0); have hfg1 := blk_frozen hs1 1; have hcg1 : (w3.setCell ⟨g, 0, none⟩ (.slice none 0 0)).cell? ⟨g, 1, none⟩ = some (.bool S.sp) := (blk_cell hs1 1).trans rfl; have HGG := Aside0.mk hgg; have HGR := Aside0.mk hgr; have HO := Aside0.mk ho; clear ho hb hgr hat hgg hg2 hs1; obtain ⟨Av1, cv1, ev1⟩ := Kd.R_slice HO.out; subst ev1))
            go_roundw
            case rel =>
              refine ⟨i + 1, by simp, by omega, ?_⟩
              rw [HNX.out]
              refine ⟨rfl, by show S.n ≤ i + 1; omega, Nat.zero_le _, by simp, by show (S.out ++ [x]).length ≤ i + 1; simp; omega, .slice none 0 0, by simpa using blk_set (blk_set HGG.out 0 (.slice none 0 0)) 1 (.bool false), Kd.R_nil _ _ _ _ _, .inr (by simp [Value.ownBlock]), ?_, ?_⟩
              · rw [show S.out.length + 1 = (S.out ++ [x]).length by simp]
                exact R_setg (R_setg (ok := fun k => some k ≠ (Value.slice none 0 0).ownBlock) (Kd.R_mono HO.out (fun k _ => by intro e; cases e)) HGG.out sliE 0 (.slice none 0 0)) (blk_set HGG.out 0 (.slice none 0 0)) sliE 1 (.bool false)
              · exact ((keep_step (keep_step HKEEP.out (grown_of_below HB0.out none) (.inr (fun k hk => by cases hk))) HGR.out (.inr (Kd.R_base HOUT.out))).set_ 0 _).set_ 1 _
            case measure => simp [intOf]; omega
          | false =>
            have HST2 := Aside0.mk (show stepSt S 0 = ⟨[], false, S.out, S.n + 1⟩ by unfold stepSt; rw [if_neg (by simp), if_neg HHE.out, HXF.out]; simp)
            rw [HST2.out] at HNX
            go_wp2_with (go_at_call 32; refine HEND.out.mono ?_; rintro e w2 ⟨v0, rfl, hR0, hb0⟩; have hgg := (hb0.block g (blk_lt HG2.out)).trans HG2.out; have hfg := blk_frozen hgg 0; have hcg : w2.cell? ⟨g, 0, none⟩ = some (.slice Ah S.held.length ch) := (blk_cell hgg 0).trans rfl; have hs1 := blk_set hgg 0 (.slice none 0 0); have hfg1 := blk_frozen hs1 1; have hcg1 : (w2.setCell ⟨g, 0, none⟩ (.slice none 0 0)).cell? ⟨g, 1, none⟩ = some (.bool S.sp) := (blk_cell hs1 1).trans rfl; have HGG := Aside0.mk hgg; have HB0 := Aside0.mk hb0; clear hR0 hb0 hgg hs1)
            go_roundw
            case rel =>
              refine ⟨i + 1, by simp, by omega, ?_⟩
              rw [HNX.out]
              refine ⟨by simp, by show S.n + 1 ≤ i + 1; omega, Nat.zero_le _, by simp, by show S.out.length ≤ i + 1; omega, .slice none 0 0, by simpa using blk_set (blk_set HGG.out 0 (.slice none 0 0)) 1 (.bool false), Kd.R_nil _ _ _ _ _, .inr (by simp [Value.ownBlock]), ?_, ?_⟩
              · exact R_setg (R_setg (ok := fun k => some k ≠ (Value.slice none 0 0).ownBlock) (Kd.R_mono (Kd.R_below HOUT.out HB0.out) (fun k _ => by intro e; cases e)) HGG.out sliE 0 (.slice none 0 0)) (blk_set HGG.out 0 (.slice none 0 0)) sliE 1 (.bool false)
              · exact ((keep_step HKEEP.out (grown_of_below HB0.out none) (.inr (fun k hk => by cases hk))).set_ 0 _).set_ 1 _
            case measure => simp [intOf]; omega
      · have hzn : (z != 0) = true := by simpa using hz0
        have hzq : (z == 0) = false := by simpa using hz0
        by_cases hl21 : S.held.length < 2100
        · have hSt : stepSt S z = { S with held := S.held ++ [z] } := by unfold stepSt; rw [if_pos hz0, if_pos hl21]
          rw [hSt] at HNX
          clear hSt hz0
          have hbw : base ≤ wr.heap.size := Nat.le_trans hbase (Keep.size HKEEP.out)
          go_wp2_with (refine gate_builtin (b := .append) (xs := #[.tmp 33, .tmp 35]) rfl ?_; at_builtin; refine Kd.R_append (Kd.int .u8) (w0 := wr) base rfl (.tmp 33) (.tmp 35) 23 5 (.int .u8 0) 1 rfl Tryd.underlying23 byteInfo rfl (by decide) (by omega) _ S.held z [.int .u8 z] (fun _ => True) (fun _ => False) rfl rfl rfl (fun _ hk => hk.elim) (fun _ _ => trivial) HR2.out (Below.refl _ _) hbw (by omega) ?_; intro v1 w1 ho hb hgr hat; have hgg := (hgr.block g (blk_lt HG2.out) (own_ne (Kd.own_of_R (enc := Value.int .u8) HR2.out) HG2.out (by decide))).trans HG2.out; have hfg := blk_frozen hgg 0; have hcg : w1.cell? ⟨g, 0, none⟩ = some (.slice Ah S.held.length ch) := (blk_cell hgg 0).trans rfl; have HGG := Aside0.mk hgg; have HGR := Aside0.mk hgr; have HAT := Aside0.mk hat; have HO := Aside0.mk ho; clear ho hb hgr hat hgg; obtain ⟨Av1, cv1, ev1⟩ := Kd.R_slice HO.out; subst ev1)
          go_roundw
          case rel =>
            refine ⟨i + 1, by simp, by omega, ?_⟩
            rw [HNX.out]
            refine ⟨rfl, by show S.n ≤ i + 1; omega, by show (S.held ++ [z]).length ≤ 2100; simp; omega, ?_, by show S.out.length ≤ i + 1; omega, _, by simpa using blk_set HGG.out 0 (.slice Av1 (S.held ++ [z]).length cv1), R_setg HO.out HGG.out intE 0 _, ?_, ?_, ?_⟩
            · intro x hx
              rcases List.mem_append.1 hx with hx | hx
              · exact HHB2.out x hx
              · rw [List.mem_singleton.1 hx]; exact hzb
            · rcases HAT.out with e | ⟨q, e, hq⟩
              · rw [e]; exact HOWN.out
              · refine .inr fun k hk => ?_
                rw [e] at hk
                have := (Keep.size HKEEP.out)
                have : q = k := Option.some.inj hk
                omega
            · refine R_setg (Kd.R_mono (Kd.R_grown (Kd.R_bound HOUT.out) HGR.out (fun k hk => hk.1)) (fun k hk => ?_)) HGG.out sliE 0 _
              rcases HAT.out with e | ⟨q, e, hq⟩
              · rw [e]; exact hk.1
              · rw [e]
                intro he
                have := Option.some.inj he
                have := hk.2.2.1
                omega
            · exact (keep_step HKEEP.out HGR.out HOWN.out).set_ 0 _
          case measure => simp [intOf]; omega
        · have hSt : stepSt S z = { S with sp := true } := by unfold stepSt; rw [if_pos hz0, if_neg hl21]
          rw [hSt] at HNX
          clear hSt hz0
          go_wp2
          go_roundw
          case rel =>
            refine ⟨i + 1, by simp, by omega, ?_⟩
            rw [HNX.out]
            exact ⟨rfl, by show S.n ≤ i + 1; omega, hhl2, HHB2.out, by show S.out.length ≤ i + 1; omega, _, by simpa using blk_set HG2.out 1 (.bool true), R_setg HR2.out HG2.out intE 1 _, HOWN.out, R_setg HOUT.out HG2.out sliE 1 _, HKEEP.out.set_ 1 _⟩
          case measure => simp [intOf]; omega
    · obtain rfl : i = b.length := by omega
      have HSE := Aside0.mk (show feedSt ⟨held, sp, [], 0⟩ b = S by rw [← HS.out, List.take_length])
      obtain rfl : S = F := HSE.out.symm.trans HF.out
      go_wp2
      first | go_ret2 | (rw [Exit.noGoto_ret]; go_ret2)
      exact ⟨_, rfl, _, HG2.out, HR2.out, HOWN.out, HOUT.out, HKEEP.out⟩
end Go.Proofs.YtlbmfbbdfmmfnaaDoor
