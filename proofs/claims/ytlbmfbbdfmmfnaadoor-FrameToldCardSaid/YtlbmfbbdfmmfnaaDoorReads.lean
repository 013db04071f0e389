/- The readers, as the laws of frames use them: what they hold, what Feed makes of it; no more of the program than Feed's contracts. -/
import Derived.Test.YtlbmfbbdfmmfnaaDoorRefFeed
import Derived.BigQuiet
import Derived.Deep.QuietTactic
namespace Go.Proofs.YtlbmfbbdfmmfnaaDoor
open Go.RowKit Go.Shelf Go.Proofs.YtlbmfbbdfmmfnaaDoorW.PrintWords Go.Proofs.YtlbmfbbdfmmfnaaDoorW.PrintLast Go.Proofs.YtlbmfbbdfmmfnaaDoorW.PrintMore
open Go.Proofs.YtlbmfbbdfmmfnaaDoor.PRdr
set_option linter.unusedVariables false
set_option linter.unusedSimpArgs false
attribute [local go_sem] Oper.semAt_some max2_int min2_int max_two min_two max_three min_three max_four min_four

theorem open_bytes (l : List Int) (hb : ∀ c ∈ l, 0 ≤ c ∧ c ≤ 255) (hl : l.length < 140737488355328) : ∀ c ∈ (openOf l).1, 0 ≤ c ∧ c ≤ 255 := by
  have h := open_is l hb hl
  unfold crc_Open.f at h
  split at h
  · have e := Option.some.inj h
    rw [← e]; simp
  · obtain ⟨t, ht, h⟩ := Option.bind_eq_some_iff.1 h
    split at h
    · have e := Option.some.inj h
      rw [← e]
      exact fun c hc => hb c (List.mem_of_mem_take hc)
    · have e := Option.some.inj h
      rw [← e]; simp
theorem end_bytes (h : List Int) (sp : Bool) (hb : ∀ c ∈ h, 0 ≤ c ∧ c ≤ 255) (hl : h.length ≤ 2100) : ∀ c ∈ (endOf h sp).1, 0 ≤ c ∧ c ≤ 255 := by
  have h2 := plain_len h
  exact open_bytes _ (plain_bytes h hb) (by omega)
/-- What holds of a reader at any time. -/
structure Fine (s : St) : Prop where
  len : s.held.length ≤ 2100
  byt : ∀ c ∈ s.held, 0 ≤ c ∧ c ≤ 255
  snd : Sound s
  out : bytesAll s.out
theorem Fine.step {s : St} (h : Fine s) (c : Int) (hc : 0 ≤ c ∧ c ≤ 255) : Fine (stepSt s c) := by
  refine ⟨stepSt_held s c h.len, stepSt_bytes s c hc h.byt, stepSt_sound s c h.snd, ?_⟩
  unfold stepSt
  split
  · split
    · exact h.out
    · exact h.out
  · split
    · exact h.out
    · split
      · intro x hx
        rcases List.mem_append.1 hx with hx | hx
        · exact h.out x hx
        · rw [List.mem_singleton.1 hx]
          exact end_bytes _ _ h.byt h.len
      · exact h.out
theorem Fine.feed {s : St} (h : Fine s) (b : List Int) (hb : ∀ c ∈ b, 0 ≤ c ∧ c ≤ 255) : Fine (feedSt s b) := by
  unfold feedSt
  induction b generalizing s with
  | nil => exact h
  | cons c b ih => exact ih (h.step c (hb c (by simp))) (fun x hx => hb x (by simp [hx]))
theorem Fine.start : Fine ⟨[], false, [], 0⟩ := ⟨by simp, by simp, by intro h; simp at h, by intro x hx; simp at hx⟩
theorem Fine.again {s : St} (h : Fine s) : Fine ⟨s.held, s.sp, [], 0⟩ := ⟨h.len, h.byt, h.snd, by intro x hx; simp at hx⟩
theorem step_from (h : List Int) (sp : Bool) (o : List (List Int)) (n : Nat) (c : Int) : stepSt ⟨h, sp, o, n⟩ c = ⟨(stepSt ⟨h, sp, [], 0⟩ c).held, (stepSt ⟨h, sp, [], 0⟩ c).sp, o ++ (stepSt ⟨h, sp, [], 0⟩ c).out, n + (stepSt ⟨h, sp, [], 0⟩ c).n⟩ := by
  unfold stepSt
  split
  · dsimp only
    split <;> simp
  · dsimp only
    split
    · simp
    · split <;> simp
/-- What is told of more bytes does not hang on what was told before. -/
theorem feed_from (b : List Int) : ∀ (s : St), feedSt s b = ⟨(feedSt ⟨s.held, s.sp, [], 0⟩ b).held, (feedSt ⟨s.held, s.sp, [], 0⟩ b).sp, s.out ++ (feedSt ⟨s.held, s.sp, [], 0⟩ b).out, s.n + (feedSt ⟨s.held, s.sp, [], 0⟩ b).n⟩ := by
  induction b with
  | nil => intro s; simp [feedSt]
  | cons c b ih =>
    rintro ⟨h, sp, o, n⟩
    have e1 : feedSt ⟨h, sp, o, n⟩ (c :: b) = feedSt (stepSt ⟨h, sp, o, n⟩ c) b := rfl
    have e2 : feedSt ⟨h, sp, [], 0⟩ (c :: b) = feedSt (stepSt ⟨h, sp, [], 0⟩ c) b := rfl
    dsimp only
    rw [e1, e2, ih (stepSt ⟨h, sp, o, n⟩ c), ih (stepSt ⟨h, sp, [], 0⟩ c), step_from h sp o n c]
    dsimp only
    rw [List.append_assoc, Nat.add_assoc]
theorem feed_append (s : St) (a b : List Int) : feedSt s (a ++ b) = feedSt (feedSt s a) b := List.foldl_append ..

theorem fr_bytes {l : List Int} (h : ∀ x ∈ l, (Lit.int .u8 x).wf = true) : ∀ c ∈ l, 0 ≤ c ∧ c ≤ 255 := by
  intro c hc
  have := h c hc
  simp [Lit.wf, IntKind.min, IntKind.max, IntKind.bits, IntKind.signed] at this
  omega
theorem fr_bind {α β : Type} {a : Option α} {f : α → Option β} {x : α} {r : Option β} (h : a = some x) (k : f x = r) : a.bind f = r := by rw [h]; exact k
theorem fr_awake (k : Nat) : pennantlaw04_awake.f k = some true := by
  unfold pennantlaw04_awake.f
  refine fr_bind (x := [2, 7, 2, 8]) ?_ ?_
  · unfold frame_Stuff.f
    rw [if_pos ⟨by decide, by decide⟩]
    congr 1
  · rw [Lib.strOfNums_toList]
    rfl
theorem awake_true (w : World) : Calls Tryd.prog 22 #[] w fun e w' => e = .returned (.bool true) ∧ Below w.heap.size w w' := pennantlaw04_awake.calls 1 true w (fr_awake 1)
/-- An element of a list of lists of bytes. -/
theorem elem_at {w : World} {A : Option Addr} {L : List (List Int)} (h : Kd.C (Kd.slice 5 (Kd.int .u8)) w A L.length L) (i : Nat) (hi : i < L.length) : ∃ ad Ai ci, A = some ad ∧ w.cell? (ad.add i) = some (.slice Ai (L.getD i []).length ci) ∧ (L.getD i []).length ≤ ci ∧ Kd.C (Kd.int .u8) w Ai (L.getD i []).length (L.getD i []) := by
  obtain ⟨ad, c, hA, hl, hK, hc⟩ := Kd.C_get h [] (i : Int) (by omega) (by omega)
  obtain ⟨Ai, ci, e, h1, h2⟩ := hK
  subst e
  have hs : (Kd.slice 5 (Kd.int .u8)).sz = 1 := rfl
  simp only [Int.toNat_natCast, hs, Nat.mul_one] at hc h1 h2
  exact ⟨ad, Ai, ci, hA, hc 0 _ rfl, h1, h2⟩
theorem C_block {w : World} {ad : Addr} {n : Nat} {xs : List Int} (h : Kd.C (Kd.int .u8) w (some ad) n xs) (hn : 0 < n) : ad.block < w.heap.size := by
  obtain ⟨ad', e, hc⟩ := (Kd.reads_of_C (enc := Value.int .u8) (d := (0 : Int)) (h1 := fun _ => rfl) h).2.2 hn
  cases e
  have := World.block_lt_of_cell? w _ (hc 0 hn)
  rwa [add_block] at this
/-- A reader of the program's, one of the reference's. -/
structure OwnR (w : World) (base g : Nat) (hv : Value) (h : List Int) (sp : Bool) : Prop where
  blk : w.heap[g]? = some (.cells #[hv, .bool sp] 56 (0, 0))
  row : Kd.R (Kd.int .u8) 5 w base (fun _ => True) hv h
  at_ : base ≤ g
structure RefR (w : World) (base g : Nat) (hv : Value) (h : List Int) (sp : Bool) : Prop where
  blk : w.heap[g]? = some (.cells #[hv, .bool sp] 43 (0, 0))
  row : Kd.R (Kd.int .u8) 5 w base (fun _ => True) hv h
  at_ : base ≤ g
theorem bytes_keep {w W : World} {S : Nat → Prop} {base e : Nat} {v : Value} {L : List Int} (hk : Keep w W S) (h : Kd.R (Kd.int .u8) e w base (fun _ => True) v L) (hn : ∀ k, v.ownBlock = some k → ¬ S k) : Kd.R (Kd.int .u8) e W base (fun _ => True) v L := by
  have h2 : Kd.R (Kd.int .u8) e w base (fun k => v.ownBlock = some k) v L := Kd.R_of_own (Kd.own_of_R h) (fun k hk => hk)
  exact Kd.R_mono (hk.R h2 hn) (fun _ _ => trivial)
theorem row_ne {w : World} {base g t : Nat} {v : Value} {L : List Int} {cs : Array Value} (hR : Kd.R (Kd.int .u8) 5 w base (fun _ => True) v L) (hb : w.heap[g]? = some (.cells cs t (0, 0))) (ht : t ≠ 5) : v.ownBlock ≠ some g := by
  intro e
  obtain ⟨cells, hc⟩ := Kd.R_typed hR g e
  have := hb.symm.trans hc
  cases this
  exact ht rfl
theorem OwnR.keep {w W : World} {S : Nat → Prop} {base g : Nat} {hv : Value} {h : List Int} {sp : Bool} (o : OwnR w base g hv h sp) (hk : Keep w W S) (hg : ¬ S g) (hr : ∀ k, hv.ownBlock = some k → ¬ S k) : OwnR W base g hv h sp := ⟨hk.blk o.blk hg, bytes_keep hk o.row hr, o.at_⟩
theorem RefR.keep {w W : World} {S : Nat → Prop} {base g : Nat} {hv : Value} {h : List Int} {sp : Bool} (o : RefR w base g hv h sp) (hk : Keep w W S) (hg : ¬ S g) (hr : ∀ k, hv.ownBlock = some k → ¬ S k) : RefR W base g hv h sp := ⟨hk.blk o.blk hg, bytes_keep hk o.row hr, o.at_⟩

/-- frame.New: a reader that holds nothing. -/
theorem new_any (w : World) (base : Nat) (hb : base ≤ w.heap.size) : Calls Tryd.prog 25 #[] w fun e w' => ∃ g, e = .returned (.pointer (some ⟨g, 0, none⟩)) ∧ OwnR w' base g (.slice none 0 0) [] false ∧ w.heap.size ≤ g ∧ Below w.heap.size w w' := by
  go_enter Tryd.func25, Tryd.ntmps25
  go_wp2
  go_ret
  exact ⟨_, rfl, ⟨blk_new _ _, Kd.R_nil _ _ _ _ _, hb⟩, Nat.le_refl _, below_alloc (Below.refl _ _) _⟩
/-- Held. -/
theorem held_any (w : World) (g : Nat) (A : Option Addr) (n c : Nat) (hc : w.cell? ⟨g, 0, none⟩ = some (.slice A n c)) : Calls Tryd.prog 29 #[.pointer (some ⟨g, 0, none⟩)] w fun e w' => e = .returned (.int .i64 (n : Int)) ∧ w = w' := by
  go_enter Tryd.func29, Tryd.ntmps29
  go_wp2
  go_ret
  exact ⟨rfl, rfl⟩
theorem held_quiet (w : World) (m g : Nat) (A : Option Addr) (n c : Nat) (hc : w.cell? ⟨g, 0, none⟩ = some (.slice A n c)) : Calls Tryd.prog 29 #[.pointer (some ⟨g, 0, none⟩)] (w.drewN m) fun e w' => e = .returned (.int .i64 (n : Int)) ∧ w' = w.drewN m :=
  (held_any (w.drewN m) g A n c hc).mono fun _ _ ⟨he, hw⟩ => ⟨he, hw.symm⟩
/-- What Feed leaves, told in short. -/
structure Fed (w : World) (base g : Nat) (hv : Value) (S : St) (v : Value) (W : World) : Prop where
  ex : ∃ hv', OwnR W base g hv' S.held S.sp ∧ (hv'.ownBlock = hv.ownBlock ∨ ∀ k, hv'.ownBlock = some k → w.heap.size ≤ k) ∧ Kd.R (Kd.slice 5 (Kd.int .u8)) 23 W w.heap.size (fun k => some k ≠ hv'.ownBlock) v S.out
  out : Kd.R (Kd.slice 5 (Kd.int .u8)) 23 W w.heap.size (fun _ => True) v S.out
  keep : Keep w W (fun k => k = g ∨ some k = hv.ownBlock)
structure FedR (w : World) (base g : Nat) (hv : Value) (S : St) (v : Value) (W : World) : Prop where
  ex : ∃ hv', RefR W base g hv' S.held S.sp ∧ (hv'.ownBlock = hv.ownBlock ∨ ∀ k, hv'.ownBlock = some k → w.heap.size ≤ k)
  out : Kd.R (Kd.slice 5 (Kd.int .u8)) 23 W w.heap.size (fun _ => True) v S.out
  keep : Keep w W (fun k => k = g ∨ some k = hv.ownBlock)
theorem fed (w : World) (base g : Nat) (hv : Value) (h : List Int) (sp : Bool) (A1 : Option Addr) (c1 : Nat) (b : List Int) (o : OwnR w base g hv h sp) (hf : Fine ⟨h, sp, [], 0⟩) (hbase : base ≤ w.heap.size) (h0 : 0 < base) (hT : TabOk w)
    (hb : Kd.C (Kd.int .u8) w A1 b.length b) (hbb : ∀ c ∈ b, 0 ≤ c ∧ c ≤ 255) (hbl : b.length ≤ 100000) (hsep : 0 < b.length → ∀ ad, A1 = some ad → some ad.block ≠ hv.ownBlock ∧ ad.block ≠ g) :
    Calls Tryd.prog 26 #[.pointer (some ⟨g, 0, none⟩), .slice A1 b.length c1] w fun e w' => ∃ v, e = .returned (.tuple #[v, .int .i64 ((feedSt ⟨h, sp, [], 0⟩ b).n : Int)]) ∧ Fed w base g hv (feedSt ⟨h, sp, [], 0⟩ b) v w' := by
  have hg := o.at_
  refine (feed_calls g base hv h sp A1 c1 b w o.blk o.row hbase hb hsep hT (by omega) (fun e => by have := Kd.R_base o.row 0 e; omega) hbl hbb hf.len hf.byt).mono ?_
  rintro e w' ⟨v, he, hv', h1, h2, h3, h4, h5⟩
  exact ⟨v, he, ⟨hv', ⟨h1, h2, hg⟩, h3, h4⟩, Kd.R_mono h4 (fun _ _ => trivial), h5⟩
theorem fedR (w : World) (base g : Nat) (hv : Value) (h : List Int) (sp : Bool) (A1 : Option Addr) (c1 : Nat) (b : List Int) (o : RefR w base g hv h sp) (hf : Fine ⟨h, sp, [], 0⟩) (hbase : base ≤ w.heap.size)
    (hb : Kd.C (Kd.int .u8) w A1 b.length b) (hbb : ∀ c ∈ b, 0 ≤ c ∧ c ≤ 255) (hbl : b.length ≤ 100000) (hsep : 0 < b.length → ∀ ad, A1 = some ad → some ad.block ≠ hv.ownBlock ∧ ad.block ≠ g) :
    Calls Tryd.prog 27 #[.pointer (some ⟨g, 0, none⟩), .slice A1 b.length c1] w fun e w' => ∃ v, e = .returned (.tuple #[v, .int .i64 ((feedSt ⟨h, sp, [], 0⟩ b).n : Int)]) ∧ FedR w base g hv (feedSt ⟨h, sp, [], 0⟩ b) v w' := by
  refine (refFeed_calls g base hv h sp A1 c1 b w o.blk o.row hbase hb hsep hf.snd hbl hbb hf.len hf.byt).mono ?_
  rintro e w' ⟨v, he, hv', h1, h2, h3, h4, h5⟩
  exact ⟨v, he, ⟨hv', ⟨h1, h2, o.at_⟩, h3⟩, Kd.R_mono h4 (fun _ _ => trivial), h5⟩
/-- Lists of bytes that a call has made stay, where older blocks are written. -/
theorem lists_keep {w W W2 : World} {S : Nat → Prop} {v : Value} {L : List (List Int)} (hk : Keep W W2 S) (h : Kd.R (Kd.slice 5 (Kd.int .u8)) 23 W w.heap.size (fun _ => True) v L) (hn : ∀ k, w.heap.size ≤ k → k < W.heap.size → ¬ S k) : Kd.R (Kd.slice 5 (Kd.int .u8)) 23 W2 w.heap.size (fun _ => True) v L :=
  Kd.R_mono (Kd.R_step (Kd.R_bound h) (fun k hk2 hlt => hk.block k hlt (hn k hk2.2.1 hlt))) (fun _ _ => trivial)
theorem both_fed {w W : World} {base g r : Nat} {hv rv v : Value} {h : List Int} {sp : Bool} {S : St} (o : OwnR w base g hv h sp) (q : RefR w base r rv h sp) (hap : ∀ k, hv.ownBlock = some k → rv.ownBlock ≠ some k) (hb : base ≤ w.heap.size) (f : Fed w base g hv S v W) :
    ∃ A c, OwnR W base g (.slice A S.held.length c) S.held S.sp ∧ RefR W base r rv h sp ∧ (∀ k, (Value.slice A S.held.length c).ownBlock = some k → rv.ownBlock ≠ some k) ∧ Below base w W := by
  obtain ⟨hv', ho, hn, _⟩ := f.ex
  obtain ⟨A, c, e⟩ := Kd.R_slice ho.row
  subst e
  have hgr : g ≠ r := blk_ne o.blk q.blk (by decide)
  have h1 := row_ne o.row q.blk (by decide)
  have h2 := row_ne q.row o.blk (by decide)
  refine ⟨A, c, ho, q.keep f.keep (fun hs => hs.elim (fun e => hgr e.symm) (fun e => h1 e.symm)) (fun k hk hs => hs.elim (fun e => h2 (e ▸ hk)) (fun e => hap k e.symm hk)), fun k hk hk2 => ?_, f.keep.below (fun k hs => hs.elim (fun e => e ▸ o.at_) (fun e => Kd.R_base o.row k e.symm)) hb⟩
  rcases hn with hn | hn
  · exact hap k (hn.symm.trans hk) hk2
  · have := hn k hk
    have := Kd.R_lt q.row k hk2
    omega
theorem both_fedR {w W : World} {base g r : Nat} {hv rv v : Value} {h h2 : List Int} {sp sp2 : Bool} {S : St} (o : OwnR w base g hv h2 sp2) (q : RefR w base r rv h sp) (hap : ∀ k, hv.ownBlock = some k → rv.ownBlock ≠ some k) (hb : base ≤ w.heap.size) (f : FedR w base r rv S v W) :
    ∃ A c, OwnR W base g hv h2 sp2 ∧ RefR W base r (.slice A S.held.length c) S.held S.sp ∧ (∀ k, hv.ownBlock = some k → (Value.slice A S.held.length c).ownBlock ≠ some k) ∧ Below base w W := by
  obtain ⟨rv', hr, hn⟩ := f.ex
  obtain ⟨A, c, e⟩ := Kd.R_slice hr.row
  subst e
  have hgr : g ≠ r := blk_ne o.blk q.blk (by decide)
  have h1 := row_ne o.row q.blk (by decide)
  have h2 := row_ne q.row o.blk (by decide)
  refine ⟨A, c, o.keep f.keep (fun hs => hs.elim (fun e => hgr e) (fun e => h2 e.symm)) (fun k hk hs => hs.elim (fun e => h1 (e ▸ hk)) (fun e => hap k hk e.symm)), hr, fun k hk hk2 => ?_, f.keep.below (fun k hs => hs.elim (fun e => e ▸ q.at_) (fun e => Kd.R_base q.row k e.symm)) hb⟩
  rcases hn with hn | hn
  · exact hap k hk (hn.symm.trans hk2)
  · have := hn k hk2
    have := Kd.R_lt o.row k hk
    omega
/-- Lists of bytes that are no block of a reader's stay, where it is fed. -/
theorem lists_past {w W : World} {base b0 g : Nat} {hv x v : Value} {h : List Int} {sp : Bool} {S : St} {L : List (List Int)} (o : OwnR w base g hv h sp) (f : Fed w base g hv S x W) (hr : Kd.R (Kd.slice 5 (Kd.int .u8)) 23 w b0 (fun k => some k ≠ hv.ownBlock) v L) {hv' : Value} (hn : hv'.ownBlock = hv.ownBlock ∨ ∀ k, hv'.ownBlock = some k → w.heap.size ≤ k) :
    Kd.R (Kd.slice 5 (Kd.int .u8)) 23 W b0 (fun k => some k ≠ hv'.ownBlock) v L := by
  have h1 := Kd.R_types (Kd.R_bound hr) o.blk sliE
  refine Kd.R_mono (f.keep.R h1 (fun k hk hs => hs.elim (fun e => hk.2 e) (fun e => hk.1.1 e))) (fun k hk e => ?_)
  rcases hn with hn | hn
  · exact hk.1.1 (e.trans hn)
  · have := hn k e.symm
    have := hk.1.2.2.1
    omega
theorem R_rows {α : Type} {d : Kd α} {e b base n c : Nat} {ok : Nat → Prop} {W : World} {A : Option Addr} {ys : List α} (h : d.R e W b ok (.slice A n c) ys) (hb : base ≤ b) : ReadsRow (d.M W base (fun k => ok k ∧ b ≤ k)) d.sz W A n ys := by
  obtain ⟨hn, _, _⟩ := Kd.R_reads' h
  obtain ⟨A2, c2, e2, _, h2⟩ := h.2.reads
  injection e2 with e2 e3 e4
  subst e2
  rw [hn]
  obtain ⟨h3, h4, h5⟩ := h2
  refine ⟨h3, h4, fun h0 => ?_⟩
  obtain ⟨ad, e, h6⟩ := h5 h0
  refine ⟨ad, e, fun j p hp => ?_⟩
  obtain ⟨c3, h7, h8, h9⟩ := h6 j p hp
  exact ⟨c3, h7, d.M_mono (fun k hk => ⟨hk.1.1, hk.2.1⟩) (d.M_lower hb (d.M_bound h8)), h9⟩
theorem same_true (l : List (List Int)) (h : bytesAll l) (k : Nat) : pennantref04_Same.f k l l = some true := by
  unfold pennantref04_Same.f
  rw [if_pos ⟨h, h⟩]
  simp
end Go.Proofs.YtlbmfbbdfmmfnaaDoor
