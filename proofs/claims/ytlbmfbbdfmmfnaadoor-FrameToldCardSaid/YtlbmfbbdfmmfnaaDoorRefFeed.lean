/- The contract of the reference's Reader.Feed: for all bytes: it does what the program's does. -/
import Derived.Test.YtlbmfbbdfmmfnaaDoorFeed
import Derived.Test.YtlbmfbbdfmmfnaaDoorOpens
import Derived.RegionTactic
import Derived.Deep.RegionLaw
namespace Go.Proofs.YtlbmfbbdfmmfnaaDoor
open Go.RowKit Go.Shelf Go.Proofs.YtlbmfbbdfmmfnaaDoorW.PrintWords Go.Proofs.YtlbmfbbdfmmfnaaDoorW.PrintLast Go.Proofs.YtlbmfbbdfmmfnaaDoorW.PrintMore
open Go.Proofs.YtlbmfbbdfmmfnaaDoor.PRdr
set_option linter.unusedVariables false
set_option linter.unusedSimpArgs false
attribute [local go_sem] Oper.semAt_some max2_int min2_int max_two min_two max_three min_three max_four min_four

/-- What lies behind the reference's Feed, at any time. -/
def FeedAtR (w : World) (g base : Nat) (hv : Value) (S : St) (v : Value) (W : World) : Prop :=
  ∃ hv' : Value, W.heap[g]? = some (.cells #[hv', .bool S.sp] 43 (0, 0)) ∧ Kd.R (Kd.int .u8) 5 W base (fun _ => True) hv' S.held ∧ (hv'.ownBlock = hv.ownBlock ∨ ∀ k, hv'.ownBlock = some k → w.heap.size ≤ k) ∧
    Kd.R (Kd.slice 5 (Kd.int .u8)) 23 W w.heap.size (fun k => some k ≠ hv'.ownBlock) v S.out ∧ KeepG w W g hv.ownBlock
theorem intE' (q : Nat) (h : q ∈ (5 : Nat) :: (Kd.int .u8).E) : q ≠ 43 := by
  have : q = 5 := by simpa [Kd.int, Kd.scalar] using h
  omega
theorem sliE' (q : Nat) (h : q ∈ 23 :: (Kd.slice 5 (Kd.int .u8)).E) : q ≠ 43 := by
  have : q = 23 ∨ q = 5 := by simpa [Kd.slice, Kd.int, Kd.scalar] using h
  omega
/-- A spoilt reader holds something. -/
def Sound (s : St) : Prop := s.sp = true → s.held ≠ []
theorem stepSt_sound (s : St) (c : Int) (h : Sound s) : Sound (stepSt s c) := by
  unfold stepSt Sound
  split
  · split
    · intro _; simp
    · intro _ e
      have : s.held.length = 0 := by rw [show s.held = [] from e]; rfl
      omega
  · split
    · exact h
    · split <;> (intro e; cases e)
theorem feedSt_sound (s : St) (b : List Int) (h : Sound s) : Sound (feedSt s b) := by
  unfold feedSt
  induction b generalizing s with
  | nil => exact h
  | cons c b ih => exact ih _ (stepSt_sound s c h)

/-- r.B = append(r.B, c), as one step of a region: what it leaves of the reader. -/
theorem step_held {ops : Array Oper} {o : Oper} {a : Act} {K : Act → World → Prop} {Q : Exit → Act → World → Prop} {E : Prop} (wr : World) (g base : Nat) (Ah : Option Addr) (ch : Nat) (S : List Int) (sp : Bool) (z : Int)
    (hg : wr.heap[g]? = some (.cells #[.slice Ah S.length ch, .bool sp] 43 (0, 0))) (hR : Kd.R (Kd.int .u8) 5 wr base (fun _ => True) (.slice Ah S.length ch) S) (hbase : base ≤ wr.heap.size) (hl : S.length < 2100)
    (hgd : o.guard = none) (ho : o.op = .call { callee := .builtin .append, args := #[.tmp 34, .tmp 39], argTypes := #[23, 23] })
    (hs : a.eval (.tmp 34) = .slice Ah S.length ch) (hx : a.eval (.tmp 39) = .slice (some ⟨wr.heap.size, 0, none⟩) 1 1)
    (h : ∀ Av1 cv1 w1, Aside0 (Kd.R (Kd.int .u8) 5 w1 base (fun _ => True) (.slice Av1 (S ++ [z]).length cv1) (S ++ [z])) → Aside0 (wr.grownBy w1 (Value.slice Ah S.length ch).ownBlock) → Aside0 ((Value.slice Av1 (S ++ [z]).length cv1).ownBlock = (Value.slice Ah S.length ch).ownBlock ∨ ∃ b, (Value.slice Av1 (S ++ [z]).length cv1).ownBlock = some b ∧ wr.heap.size ≤ b) →
      Aside0 (w1.heap[g]? = some (.cells #[.slice Ah S.length ch, .bool sp] 43 (0, 0))) → w1.frozen? ⟨g, 0, none⟩ = false → w1.cell? ⟨g, 0, none⟩ = some (.slice Ah S.length ch) → K (a.put o.dst (.slice Av1 (S ++ [z]).length cv1)) w1) :
    if Region.wanted o (yielded ops a.tmps) = true then Oper.wp Tryd.prog o a ((wr.alloc (.cells #[.int .u8 z] 5)).drew) K Q else E := by
  have es := size_after wr (.cells #[.int .u8 z] 5)
  refine step_append_K (Kd.int .u8) base hgd (.tmp 34) (.tmp 39) 23 5 (.int .u8 0) 1 ho Tryd.underlying23 byteInfo rfl (by decide) (by omega) (.slice Ah S.length ch) S z [.int .u8 z] (fun _ => True) (fun _ => False) ⟨wr.heap.size, 0, none⟩ 1 hs hx (news_new wr [.int .u8 z] 5) rfl (fun _ hk => hk.elim) (fun _ _ => trivial) (Kd.R_drew (Kd.R_alloc hR _)) (by omega) (by omega) ?_
  intro v1 w1 ho hgr hat
  obtain ⟨Av1, cv1, ev1⟩ := Kd.R_slice ho
  subst ev1
  have hgr2 := grown_after _ hgr
  have hgg := (hgr2.block g (blk_lt hg) (own_ne (Kd.own_of_R (enc := Value.int .u8) hR) hg (by decide))).trans hg
  refine h Av1 cv1 w1 ⟨ho⟩ ⟨hgr2⟩ ⟨?_⟩ ⟨hgg⟩ (blk_frozen hgg 0) ((blk_cell hgg 0).trans rfl)
  rcases hat with hat | ⟨b, hb, hle⟩
  · exact .inl hat
  · exact .inr ⟨b, hb, by omega⟩
set_option maxHeartbeats 4000000 in
set_option maxRecDepth 100000 in
theorem refFeed_calls (g base : Nat) (hv : Value) (held : List Int) (sp : Bool) (A1 : Option Addr) (c1 : Nat) (b : List Int) (w : World)
    (hg : w.heap[g]? = some (.cells #[hv, .bool sp] 43 (0, 0))) (hR : Kd.R (Kd.int .u8) 5 w base (fun _ => True) hv held) (hbase : base ≤ w.heap.size)
    (hb : Kd.C (Kd.int .u8) w A1 b.length b) (hsep : 0 < b.length → ∀ ad, A1 = some ad → some ad.block ≠ hv.ownBlock ∧ ad.block ≠ g) (hsound : sp = true → held ≠ [])
    (hbl : b.length ≤ 100000) (hbb : ∀ c ∈ b, 0 ≤ c ∧ c ≤ 255) (hhl : held.length ≤ 2100) (hhb : ∀ c ∈ held, 0 ≤ c ∧ c ≤ 255) :
    Calls Tryd.prog 27 #[.pointer (some ⟨g, 0, none⟩), .slice A1 b.length c1] w fun e w' => ∃ v, e = .returned (.tuple #[v, .int .i64 ((feedSt ⟨held, sp, [], 0⟩ b).n : Int)]) ∧ FeedAtR w g base hv (feedSt ⟨held, sp, [], 0⟩ b) v w' := by
  have HG := Aside0.mk hg
  have HR := Aside0.mk hR
  have HBB := Aside0.mk hb
  have HSEP := Aside0.mk hsep
  have HBY := Aside0.mk hbb
  have HHB := Aside0.mk hhb
  have HSO := Aside0.mk hsound
  clear hg hR hb hsep hbb hhb hsound
  obtain ⟨F, hF⟩ : ∃ F, feedSt ⟨held, sp, [], 0⟩ b = F := ⟨_, rfl⟩
  rw [hF]
  have HF := Aside0.mk hF
  clear hF
  go_enter Tryd.func27, Tryd.ntmps27
  go_wp2
  go_loopw [6, 7, 8] (fun v6 v7 v8 wr => ∃ i : Nat, v8 = .int .i64 (i : Int) ∧ i ≤ b.length ∧ v7 = .int .i64 ((feedSt ⟨held, sp, [], 0⟩ (b.take i)).n : Int) ∧ (feedSt ⟨held, sp, [], 0⟩ (b.take i)).n ≤ i ∧ (feedSt ⟨held, sp, [], 0⟩ (b.take i)).held.length ≤ 2100 ∧
      (∀ c ∈ (feedSt ⟨held, sp, [], 0⟩ (b.take i)).held, 0 ≤ c ∧ c ≤ 255) ∧ (feedSt ⟨held, sp, [], 0⟩ (b.take i)).out.length ≤ i ∧ FeedAtR w g base hv (feedSt ⟨held, sp, [], 0⟩ (b.take i)) v6 wr) (fun v6 v7 v8 wr => b.length - (intOf v8).toNat)
  case atStart => exact ⟨0, rfl, Nat.zero_le _, rfl, Nat.le_refl _, hhl, HHB.out, Nat.le_refl _, hv, HG.out, HR.out, .inl rfl, Kd.R_nil _ _ _ _ _, KeepG.refl _ _ _⟩
  case round =>
    obtain ⟨i, rfl, hi, rfl, hn, hhl2, hhb2, hol, hv', hg2, hR2, hown, hout, hkeep⟩ := hrel
    have HG2 := Aside0.mk hg2
    have HR2 := Aside0.mk hR2
    have HOWN := Aside0.mk hown
    have HOUT := Aside0.mk hout
    have HKEEP := Aside0.mk hkeep
    have HHB2 := Aside0.mk hhb2
    have HSO2 := Aside0.mk (feedSt_sound ⟨held, sp, [], 0⟩ (b.take i) HSO.out)
    clear hg2 hR2 hown hout hkeep hhb2
    obtain ⟨S, hS⟩ : ∃ S, feedSt ⟨held, sp, [], 0⟩ (b.take i) = S := ⟨_, rfl⟩
    rw [hS] at hn hhl2 hol HHB2 HR2 HG2 HOUT HSO2 ⊢
    have HS := Aside0.mk hS
    clear hS
    obtain ⟨Ah, ch, eh⟩ := Kd.R_slice HR2.out
    subst eh
    obtain ⟨Ao, co, eo⟩ := Kd.R_slice HOUT.out
    subst eo
    by_cases hlt : i < b.length
    · obtain ⟨z, hz⟩ : ∃ z, b.getD i 0 = z := ⟨_, rfl⟩
      have HNX := Aside0.mk (feedSt_succ ⟨held, sp, [], 0⟩ b i hlt)
      rw [HS.out, hz] at HNX
      have hzb : 0 ≤ z ∧ z ≤ 255 := by
        apply HBY.out
        rw [← hz, List.getD_eq_getElem?_getD, List.getElem?_eq_getElem hlt]
        exact List.getElem_mem hlt
      obtain ⟨ad, e1, hcell⟩ := (Kd.reads_of_C (enc := Value.int .u8) (d := (0 : Int)) (h1 := fun _ => rfl) HBB.out).2.2 (by omega)
      have hcz0 := hcell i hlt
      rw [hz] at hcz0
      have hsp := HSEP.out (by omega) ad e1
      subst e1
      have hcz : wr.cell? (ad.add i) = some (.int .u8 z) := by
        have hlt2 : (ad.add i).block < w.heap.size := World.block_lt_of_cell? w _ hcz0
        exact (World.cell?_of_block (by rw [add_block] at hlt2 ⊢; exact HKEEP.out.blk2 _ hlt2 hsp.2 hsp.1)).trans hcz0
      have hch : wr.cell? ⟨g, 0, none⟩ = some (.slice Ah S.held.length ch) := (blk_cell HG2.out 0).trans rfl
      have hcs : wr.cell? ⟨g, 1, none⟩ = some (.bool S.sp) := (blk_cell HG2.out 1).trans rfl
      have hfh := blk_frozen HG2.out 0
      have hfs := blk_frozen HG2.out 1
      clear hcell hz hcz0 hsp
      by_cases hz0 : z = 0
      · subst hz0
        have hs1 := blk_set HG2.out 0 (.slice none 0 0)
        have hfs1 := blk_frozen hs1 1
        have hcs1 : (wr.setCell ⟨g, 0, none⟩ (.slice none 0 0)).cell? ⟨g, 1, none⟩ = some (.bool S.sp) := (blk_cell hs1 1).trans rfl
        clear hs1
        by_cases hspt : S.sp = true
        · have hne := HSO2.out hspt
          have HST := Aside0.mk (show stepSt S 0 = ⟨[], false, S.out, S.n + 1⟩ by unfold stepSt endOf; rw [if_neg (by simp), if_neg hne, hspt]; simp)
          rw [HST.out] at HNX
          rw [hspt] at hcs hcs1
          clear hne hspt
          go_wp2
          go_roundw
          case rel =>
            refine ⟨i + 1, by simp, by omega, ?_⟩
            rw [HNX.out]
            refine ⟨by simp, by show S.n + 1 ≤ i + 1; omega, Nat.zero_le _, by simp, by show S.out.length ≤ i + 1; omega, .slice none 0 0, by simpa using blk_set (blk_set HG2.out 0 (.slice none 0 0)) 1 (.bool false), Kd.R_nil _ _ _ _ _, .inr (by simp [Value.ownBlock]), ?_, ?_⟩
            · exact R_setg (R_setg (ok := fun k => some k ≠ (Value.slice none 0 0).ownBlock) (Kd.R_mono HOUT.out (fun k _ => by intro e; cases e)) HG2.out sliE' 0 (.slice none 0 0)) (blk_set HG2.out 0 (.slice none 0 0)) sliE' 1 (.bool false)
            · exact (HKEEP.out.set_ 0 _).set_ 1 _
          case measure => simp [intOf]; omega
        · have hspf : S.sp = false := by simpa using hspt
          rw [hspf] at hcs hcs1
          clear hspt
          by_cases hhe : S.held = []
          · have HST := Aside0.mk (show stepSt S 0 = ⟨[], false, S.out, S.n⟩ by unfold stepSt; rw [if_neg (by simp), if_pos hhe]; cases S; simp_all)
            rw [HST.out] at HNX
            have hle : decide ((0 : Int) < (S.held.length : Int)) = false := by rw [hhe]; rfl
            have hle2 : decide (0 < S.held.length) = false := by rw [hhe]; rfl
            clear hhe hspf
            go_wp2
            go_roundw
            case rel =>
              refine ⟨i + 1, by simp, by omega, ?_⟩
              rw [HNX.out]
              refine ⟨by simp, by show S.n ≤ i + 1; omega, Nat.zero_le _, by simp, by show S.out.length ≤ i + 1; omega, .slice none 0 0, by simpa using blk_set (blk_set HG2.out 0 (.slice none 0 0)) 1 (.bool false), Kd.R_nil _ _ _ _ _, .inr (by simp [Value.ownBlock]), ?_, ?_⟩
              · exact R_setg (R_setg (ok := fun k => some k ≠ (Value.slice none 0 0).ownBlock) (Kd.R_mono HOUT.out (fun k _ => by intro e; cases e)) HG2.out sliE' 0 (.slice none 0 0)) (blk_set HG2.out 0 (.slice none 0 0)) sliE' 1 (.bool false)
              · exact (HKEEP.out.set_ 0 _).set_ 1 _
            case measure => simp [intOf]; omega
          · have hlp : 0 < S.held.length := List.length_pos_iff.2 hhe
            have hbw : w.heap.size ≤ wr.heap.size := HKEEP.out.size
            have h1 := refPlain_calls Ah ch S.held wr (Kd.R_reads' HR2.out).2.2 (Kd.R_reads' HR2.out).2.1 (by omega) HHB2.out
            rw [plain_eq S.held HHB2.out] at h1
            have hpb := plain_bytes S.held HHB2.out
            have hpl := plain_len S.held
            have HEO := Aside0.mk (show endOf S.held S.sp = ((openOf (plainF S.held).1).1, !S.sp && (plainF S.held).2 == 0 && (openOf (plainF S.held).1).2 && decide ((openOf (plainF S.held).1).1.length ≤ 2048)) from rfl)
            obtain ⟨p, e, hp⟩ : ∃ p e, plainF S.held = (p, e) := ⟨_, _, rfl⟩
            rw [hp] at h1 hpb hpl HEO
            dsimp only at h1 hpb hpl HEO
            have hop := ref_open_is p 100000 (by omega) hpb (by omega)
            obtain ⟨x, is, hx⟩ : ∃ x is, openOf p = (x, is) := ⟨_, _, rfl⟩
            rw [hx] at hop HEO
            dsimp only at HEO
            have H1 := Aside0.mk h1
            have H2 := Aside0.mk (fun (W : World) (A : Option Addr) (c : Nat) (hC : Kd.C (Kd.int .u8) W A p.length p) (hc : p.length ≤ c) => pennantref02_Open.calls 100000 A c p x is W hC hc hop)
            have HHE := Aside0.mk hhe
            have HSPF := Aside0.mk hspf
            clear h1 hpb hop hx hp hhe hspf hcs1 hfs1
            by_cases hfine : e = 0 ∧ is = true ∧ x.length ≤ 2048
            · obtain ⟨rfl, rfl, hxl⟩ := hfine
              have HST2 := Aside0.mk (show stepSt S 0 = ⟨[], false, S.out ++ [x], S.n⟩ by unfold stepSt; rw [if_neg (by simp), if_neg HHE.out, HEO.out, HSPF.out]; simp [hxl])
              rw [HST2.out] at HNX
              have hxl2 : decide ((x.length : Int) ≤ 2048) = true := by simp; omega
              go_wp2_with (first
                | (go_at_call 33; refine H1.out.mono ?_; rintro e1 w1 ⟨v0, rfl, hR, hb0⟩; have HB1 := Aside0.mk hb0; obtain ⟨Av1, cv1, ev1⟩ := Kd.R_slice hR; subst ev1; have HP := Aside0.mk hR; clear hb0 hR)
                | (go_at_call 19; refine (H2.out _ Av1 cv1 (Kd.R_reads' HP.out).2.2 (Kd.R_reads' HP.out).2.1).mono ?_; rintro e2 w2 ⟨v1, rfl, hR, hb0⟩; have HB0 := Aside0.mk (below_then HB1.out HB1.out.size hb0); obtain ⟨Ax, cx, ex⟩ := Kd.R_slice hR; subst ex; have HX := Aside0.mk (Kd.R_lower hR HB1.out.size); clear hb0 hR)
                | (refine gate_builtin (b := .append) (xs := #[.tmp 81, .tmp 83]) rfl ?_; at_builtin; refine Kd.R_append (Kd.slice 5 (Kd.int .u8)) (w0 := w2) w.heap.size rfl (.tmp 81) (.tmp 83) 38 23 (.slice none 0 0) 24 rfl Tryd.underlying38 sliceInfo rfl (by decide) (by omega) _ S.out x [.slice Ax x.length cx] (fun _ => True) (fun k => wr.heap.size ≤ k) rfl rfl ⟨_, rfl, Kd.R_lower (Kd.R_mono (Kd.R_bound HX.out) (fun k hk => hk.2.1)) hbw⟩ (fun k hk => ⟨trivial, Kd.fresh' (Kd.R_lt HOUT.out) k hk⟩) (fun _ _ => trivial) (Kd.R_mono (Kd.R_below HOUT.out HB0.out) (fun _ _ => trivial)) (Below.refl _ _) (Nat.le_trans hbw HB0.out.size) (by omega) ?_; intro v1 w3 ho hb hgr hat; have hg2 := (HB0.out.block g (blk_lt HG2.out)).trans HG2.out; have hgg := (hgr.block g (blk_lt hg2) (fun e => by obtain ⟨cells, hc⟩ := Kd.Q_typed (Kd.Q_of_R HOUT.out) g e.symm; have e2 := hc.symm.trans HG2.out; cases e2)).trans hg2; have hfg := blk_frozen hgg 0; have hcg : w3.cell? ⟨g, 0, none⟩ = some (.slice Ah S.held.length ch) := (blk_cell hgg 0).trans rfl; have hs1 := blk_set hgg 0 (.slice none 0 0); have hfg1 := blk_frozen hs1 1; have hcg1 : (w3.setCell ⟨g, 0, none⟩ (.slice none 0 0)).cell? ⟨g, 1, none⟩ = some (.bool S.sp) := (blk_cell hs1 1).trans rfl; have HGG := Aside0.mk hgg; have HGR := Aside0.mk hgr; have HO := Aside0.mk ho; clear ho hb hgr hat hgg hg2 hs1; obtain ⟨Av1, cv1, ev1⟩ := Kd.R_slice HO.out; subst ev1))
              go_roundw
              case rel =>
                refine ⟨i + 1, by simp, by omega, ?_⟩
                rw [HNX.out]
                refine ⟨rfl, by show S.n ≤ i + 1; omega, Nat.zero_le _, by simp, by show (S.out ++ [x]).length ≤ i + 1; simp; omega, .slice none 0 0, by simpa using blk_set (blk_set HGG.out 0 (.slice none 0 0)) 1 (.bool false), Kd.R_nil _ _ _ _ _, .inr (by simp [Value.ownBlock]), ?_, ?_⟩
                · rw [show S.out.length + 1 = (S.out ++ [x]).length by simp]
                  exact R_setg (R_setg (ok := fun k => some k ≠ (Value.slice none 0 0).ownBlock) (Kd.R_mono HO.out (fun k _ => by intro e; cases e)) HGG.out sliE' 0 (.slice none 0 0)) (blk_set HGG.out 0 (.slice none 0 0)) sliE' 1 (.bool false)
                · exact ((keep_step (keep_step HKEEP.out (grown_of_below HB0.out none) (.inr (fun k hk => by cases hk))) HGR.out (.inr (Kd.R_base HOUT.out))).set_ 0 _).set_ 1 _
              case measure => simp [intOf]; omega
            · have HST2 := Aside0.mk (show stepSt S 0 = ⟨[], false, S.out, S.n + 1⟩ by
                unfold stepSt
                rw [if_neg (by simp), if_neg HHE.out, HEO.out, HSPF.out, if_neg]
                simp only [Bool.not_false, Bool.true_and, Bool.and_eq_true, beq_iff_eq, decide_eq_true_eq]
                exact fun h => hfine ⟨h.1.1, h.1.2, h.2⟩)
              rw [HST2.out] at HNX
              have HFI := Aside0.mk hfine
              clear hfine
              have hways : (e == 0) = false ∨ ((e == 0) = true ∧ is = false) ∨ ((e == 0) = true ∧ is = true ∧ decide ((x.length : Int) ≤ 2048) = false) := by
                have h := HFI.out
                by_cases he : e = 0
                · cases is with
                  | false => exact .inr (.inl ⟨by simpa using he, rfl⟩)
                  | true => exact .inr (.inr ⟨by simpa using he, rfl, by simp; have : ¬ x.length ≤ 2048 := fun hx => h ⟨he, rfl, hx⟩; omega⟩)
                · exact .inl (by simpa using he)
              rcases hways with he0 | ⟨he0, rfl⟩ | ⟨he0, rfl, hxl2⟩
              all_goals
                go_wp2_with (first
                  | (go_at_call 33; refine H1.out.mono ?_; rintro e1 w1 ⟨v0, rfl, hR, hb0⟩; have HB1 := Aside0.mk hb0; obtain ⟨Av1, cv1, ev1⟩ := Kd.R_slice hR; subst ev1; have HP := Aside0.mk hR; clear hb0 hR)
                  | (go_at_call 19; refine (H2.out _ Av1 cv1 (Kd.R_reads' HP.out).2.2 (Kd.R_reads' HP.out).2.1).mono ?_; rintro e2 w2 ⟨v1, rfl, hR, hb0⟩; have HB0 := Aside0.mk (below_then HB1.out HB1.out.size hb0); obtain ⟨Ax, cx, ex⟩ := Kd.R_slice hR; subst ex; clear hR; have hgg := (HB0.out.block g (blk_lt HG2.out)).trans HG2.out; have hfg := blk_frozen hgg 0; have hcg : w2.cell? ⟨g, 0, none⟩ = some (.slice Ah S.held.length ch) := (blk_cell hgg 0).trans rfl; have hs1 := blk_set hgg 0 (.slice none 0 0); have hfg1 := blk_frozen hs1 1; have hcg1 : (w2.setCell ⟨g, 0, none⟩ (.slice none 0 0)).cell? ⟨g, 1, none⟩ = some (.bool S.sp) := (blk_cell hs1 1).trans rfl; have HGG := Aside0.mk hgg; clear hb0 hgg hs1))
                go_roundw
                case rel =>
                  refine ⟨i + 1, by simp, by omega, ?_⟩
                  rw [HNX.out]
                  refine ⟨by simp, by show S.n + 1 ≤ i + 1; omega, Nat.zero_le _, by simp, by show S.out.length ≤ i + 1; omega, .slice none 0 0, by simpa using blk_set (blk_set HGG.out 0 (.slice none 0 0)) 1 (.bool false), Kd.R_nil _ _ _ _ _, .inr (by simp [Value.ownBlock]), ?_, ?_⟩
                  · exact R_setg (R_setg (ok := fun k => some k ≠ (Value.slice none 0 0).ownBlock) (Kd.R_mono (Kd.R_below HOUT.out HB0.out) (fun k _ => by intro e; cases e)) HGG.out sliE' 0 (.slice none 0 0)) (blk_set HGG.out 0 (.slice none 0 0)) sliE' 1 (.bool false)
                  · exact ((keep_step HKEEP.out (grown_of_below HB0.out none) (.inr (fun k hk => by cases hk))).set_ 0 _).set_ 1 _
                case measure => simp [intOf]; omega
      · have hzn : (z != 0) = true := by simpa using hz0
        have hzq : (z == 0) = false := by simpa using hz0
        by_cases hl21 : S.held.length < 2100
        · have hSt : stepSt S z = { S with held := S.held ++ [z] } := by unfold stepSt; rw [if_pos hz0, if_pos hl21]
          rw [hSt] at HNX
          clear hSt hz0
          have hbw : base ≤ wr.heap.size := Nat.le_trans hbase HKEEP.out.size
          go_wp2
          have hcga : (wr.alloc (.cells #[.int .u8 z] 5)).cell? ⟨g, 0, none⟩ = some (.slice Ah S.held.length ch) := (blk_cell (blk_alloc HG2.out _) 0).trans rfl
          go_region_law (refine step_held wr g base Ah ch S.held S.sp z HG2.out HR2.out hbw hl21 (by rfl) (by rfl) (by simp [Act.eval, Act.put]) (by simp [Act.eval, Act.put]) ?_; intro Av1 cv1 w1 HO HGR HAT HGG hfg hcg)
          all_goals
            go_wp2
            go_roundw
            case rel =>
              refine ⟨i + 1, by simp, by omega, ?_⟩
              rw [HNX.out]
              refine ⟨rfl, by show S.n ≤ i + 1; omega, by show (S.held ++ [z]).length ≤ 2100; simp; omega, ?_, by show S.out.length ≤ i + 1; omega, _, by simpa using blk_set HGG.out 0 (.slice Av1 (S.held ++ [z]).length cv1), R_setg HO.out HGG.out intE' 0 _, ?_, ?_, ?_⟩
              · intro x hx
                rcases List.mem_append.1 hx with hx | hx
                · exact HHB2.out x hx
                · rw [List.mem_singleton.1 hx]; exact hzb
              · rcases HAT.out with e | ⟨q, e, hq⟩
                · rw [e]; exact HOWN.out
                · refine .inr fun k hk => ?_
                  rw [e] at hk
                  have := HKEEP.out.size
                  have : q = k := Option.some.inj hk
                  omega
              · refine R_setg (Kd.R_mono (Kd.R_grown (Kd.R_bound HOUT.out) HGR.out (fun k hk => hk.1)) (fun k hk => ?_)) HGG.out sliE' 0 _
                rcases HAT.out with e | ⟨q, e, hq⟩
                · rw [e]; exact hk.1
                · rw [e]
                  intro he
                  have := Option.some.inj he
                  have := hk.2.2.1
                  omega
              · exact (keep_step HKEEP.out HGR.out HOWN.out).set_ 0 _
            case measure => simp [intOf]; omega
        · have hSt : stepSt S z = { S with sp := true } := by unfold stepSt; rw [if_pos hz0, if_neg hl21]
          rw [hSt] at HNX
          clear hSt hz0
          go_wp2
          go_roundw
          case rel =>
            refine ⟨i + 1, by simp, by omega, ?_⟩
            rw [HNX.out]
            exact ⟨rfl, by show S.n ≤ i + 1; omega, hhl2, HHB2.out, by show S.out.length ≤ i + 1; omega, _, by simpa using blk_set HG2.out 1 (.bool true), R_setg HR2.out HG2.out intE' 1 _, HOWN.out, R_setg HOUT.out HG2.out sliE' 1 _, HKEEP.out.set_ 1 _⟩
          case measure => simp [intOf]; omega
    · obtain rfl : i = b.length := by omega
      have HSE := Aside0.mk (show feedSt ⟨held, sp, [], 0⟩ b = S by rw [← HS.out, List.take_length])
      obtain rfl : S = F := HSE.out.symm.trans HF.out
      go_wp2
      first | go_ret2 | (rw [Exit.noGoto_ret]; go_ret2)
      exact ⟨_, rfl, _, HG2.out, HR2.out, HOWN.out, HOUT.out, HKEEP.out⟩
end Go.Proofs.YtlbmfbbdfmmfnaaDoor
