/- Frames: what a reader makes of them; no program in sight, but Put's contract. -/
import Derived.Test.YtlbmfbbdfmmfnaaDoorReads
namespace Go.Proofs.YtlbmfbbdfmmfnaaDoor
open Go.RowKit Go.Shelf Go.Proofs.YtlbmfbbdfmmfnaaDoorW.PrintWords Go.Proofs.YtlbmfbbdfmmfnaaDoorW.PrintLast Go.Proofs.YtlbmfbbdfmmfnaaDoorW.PrintMore
open Go.Proofs.YtlbmfbbdfmmfnaaDoor.PRdr
set_option linter.unusedVariables false
set_option linter.unusedSimpArgs false
theorem len_rel : ∀ (rs : List (List Int)), (∀ r ∈ rs, r.length ≤ 254) → ∃ g, (stuffOf rs).length = (unruns rs).length + g ∧ 254 * g ≤ (unruns rs).length ∧ (lastLen rs < 254 → 254 * g + 1 ≤ (unruns rs).length)
  | [], _ => ⟨0, rfl, by simp, fun h => by simp [lastLen] at h⟩
  | r :: rs, h => by
    obtain ⟨g, h1, h2, h3⟩ := len_rel rs (fun x hx => h x (List.mem_cons_of_mem _ hx))
    have hr := h r List.mem_cons_self
    have e1 : (stuffOf (r :: rs)).length = r.length + 1 + (stuffOf rs).length := by rw [stuffOf_cons]; simp; omega
    have e2 : (unruns (r :: rs)).length = (unrun r).length + (unruns rs).length := by simp [unruns]
    by_cases hs : r.length < 254
    · have e3 : (unrun r).length = r.length + 1 := by simp [unrun, hs]
      exact ⟨g, by omega, by omega, fun _ => by omega⟩
    · have e3 : (unrun r).length = 254 := by simp [unrun, hs]; omega
      refine ⟨g + 1, by omega, by omega, fun hl => ?_⟩
      by_cases hn : rs = []
      · subst hn
        simp [lastLen] at hl
        omega
      · have e : lastLen (r :: rs) = lastLen rs := by
          unfold lastLen
          rw [List.getLast?_cons_of_ne_nil hn]
        rw [e] at hl
        have := h3 hl
        omega
theorem stuffed_len (b : List Int) : b.length < (stuffed b).length ∧ (stuffed b).length ≤ b.length + 1 + b.length / 254 := by
  obtain ⟨h1, h2, h3, h4⟩ := runs_good (b.length + 1) (b ++ [0]) (by simp) (.inr ⟨_, rfl⟩)
  obtain ⟨g, e1, e2, e3⟩ := len_rel _ h2
  have e4 := e3 (h4 (by simp))
  rw [h3] at e1 e2 e4
  simp only [List.length_append, List.length_cons, List.length_nil] at e1 e2 e4
  have e5 : (stuffed b).length = b.length + (0 + 1) + g := e1
  omega
theorem stuffed_nz (b : List Int) : ∀ c ∈ stuffed b, c ≠ 0 := by
  obtain ⟨h1, h2, h3, h4⟩ := runs_good (b.length + 1) (b ++ [0]) (by simp) (.inr ⟨_, rfl⟩)
  intro c hc
  obtain ⟨r, hr, hc⟩ := List.mem_flatMap.1 hc
  rcases List.mem_cons.1 hc with rfl | hc
  · omega
  · rintro rfl
    exact h1 r hr hc
theorem seal_len (l : List Int) : (sealOf l).length = l.length + 3 := by simp [sealOf, three]
theorem own_put (b : List Int) (k : Nat) (hb : ∀ c ∈ b, 0 ≤ c ∧ c ≤ 255) (hl : b.length ≤ 20000) : frame_Put.f k b = some (if b.length > 2048 then ([], 1) else (stuffed (sealOf b) ++ [0], 0)) := by
  unfold frame_Put.f
  by_cases h : b.length > 2048
  · rw [if_pos (by omega), if_pos h]
  · rw [if_neg (by omega), if_neg h]
    refine bind_of (own_seal b k (by omega) hb) ?_
    have e := seal_len b
    have hs := stuffed_len (sealOf b)
    refine bind_of (x := stuffed (sealOf b)) ?_ ?_
    · unfold frame_Stuff.f
      rw [if_pos ⟨by omega, seal_byte b hb⟩]
    · rw [if_pos (by omega)]
/-- Bytes as a frame. -/
def frameOf (b : List Int) : List Int := stuffed (sealOf b) ++ [0]
theorem frame_len (b : List Int) : (frameOf b).length = (stuffed (sealOf b)).length + 1 ∧ b.length + 4 ≤ (stuffed (sealOf b)).length ∧ (b.length ≤ 2048 → (stuffed (sealOf b)).length ≤ 2060) := by
  have h := stuffed_len (sealOf b)
  have e := seal_len b
  refine ⟨by simp [frameOf], by omega, fun hb => by omega⟩
theorem frame_bytes (b : List Int) (hb : ∀ c ∈ b, 0 ≤ c ∧ c ≤ 255) : ∀ c ∈ frameOf b, 0 ≤ c ∧ c ≤ 255 := by
  intro c hc
  rcases List.mem_append.1 hc with h | h
  · exact stuffed_bytes _ (seal_byte b hb) c h
  · rw [List.mem_singleton.1 h]; omega
theorem put_any (A : Option Addr) (c : Nat) (b : List Int) (w : World) (hC : Kd.C (Kd.int .u8) w A b.length b) (hc : b.length ≤ c) (hT : TabOk w) (hb : ∀ c ∈ b, 0 ≤ c ∧ c ≤ 255) (hl : b.length ≤ 2048) :
    Calls Tryd.prog 23 #[.slice A b.length c] w fun e w' => ∃ v : Value, e = .returned (.tuple #[v, .int .i64 0]) ∧ Kd.R (Kd.int .u8) 5 w' w.heap.size (fun _ => True) v (frameOf b) ∧ Below w.heap.size w w' :=
  frame_Put.calls 1 A c b (frameOf b) 0 w hC hc hT (by rw [own_put b 1 hb (by omega), if_neg (by omega)]; rfl)
theorem feed_plain : ∀ (q : List Int) (s : St), (∀ c ∈ q, c ≠ 0) → s.held.length + q.length ≤ 2100 → feedSt s q = { s with held := s.held ++ q }
  | [], s, _, _ => by simp [feedSt]
  | c :: q, s, h, hl => by
    have e : feedSt s (c :: q) = feedSt (stepSt s c) q := rfl
    simp only [List.length_cons] at hl
    have e2 : stepSt s c = { s with held := s.held ++ [c] } := by unfold stepSt; rw [if_pos (h c (by simp)), if_pos (by omega)]
    rw [e, e2, feed_plain q _ (fun x hx => h x (by simp [hx])) (by simp; omega)]
    simp
theorem feed_nought (s : St) : feedSt s [0] = stepSt s 0 := rfl
/-- A frame is told as it was. -/
theorem frame_told (o : List (List Int)) (n : Nat) (b : List Int) (hb : ∀ c ∈ b, 0 ≤ c ∧ c ≤ 255) (hl : b.length ≤ 2048) : feedSt ⟨[], false, o, n⟩ (frameOf b) = ⟨[], false, o ++ [b], n⟩ := by
  have h := frame_len b
  have h2 := h.2.2 hl
  unfold frameOf
  rw [feed_append, feed_plain _ _ (stuffed_nz _) (by simp; omega), feed_nought]
  have e : endOf (stuffed (sealOf b)) false = (b, true) := by
    unfold endOf
    rw [plain_stuffed]
    dsimp only
    rw [open_seal b hb (by omega)]
    simp [hl]
  unfold stepSt
  rw [if_neg (by simp), if_neg (by intro e2; have : (stuffed (sealOf b)).length = 0 := by simpa using congrArg List.length e2
                                   omega)]
  simp only [List.nil_append]
  rw [e]
  simp
theorem after_nought (s : St) (h : Fine s) : (stepSt s 0).held = [] ∧ (stepSt s 0).sp = false := by
  unfold stepSt
  rw [if_neg (by simp)]
  split
  · rename_i e
    refine ⟨e, ?_⟩
    cases hs : s.sp with
    | false => rfl
    | true => exact absurd e (h.snd hs)
  · split <;> simp
theorem frames_told : ∀ (L : List (List Int)) (o : List (List Int)) (n : Nat), bytesAll L → (∀ x ∈ L, x.length ≤ 2048) → feedSt ⟨[], false, o, n⟩ (L.flatMap frameOf) = ⟨[], false, o ++ L, n⟩
  | [], o, n, _, _ => by simp [feedSt]
  | b :: L, o, n, hb, hl => by
    rw [List.flatMap_cons, feed_append, frame_told o n b (hb b (by simp)) (hl b (by simp)), frames_told L _ n (fun x hx => hb x (by simp [hx])) (fun x hx => hl x (by simp [hx]))]
    simp
/-- A frame with one byte turned, and another frame behind. -/
theorem spoilt_last (a b : List Int) (k : Nat) (v : Int) (ha : ∀ c ∈ a, 0 ≤ c ∧ c ≤ 255) (hb : ∀ c ∈ b, 0 ≤ c ∧ c ≤ 255) (hla : a.length ≤ 2048) (hlb : b.length ≤ 2048) (hk : k < (stuffed (sealOf a)).length) (hv : v ≠ 0 ∧ 0 ≤ v ∧ v ≤ 255) :
    ∃ o n, feedSt ⟨[], false, [], 0⟩ ((frameOf a).set k v ++ frameOf b) = ⟨[], false, o ++ [b], n⟩ ∧ o.length ≤ 1 ∧ n ≤ 1 := by
  have h := (frame_len a).2.2 hla
  have e : (frameOf a).set k v = (stuffed (sealOf a)).set k v ++ [0] := by
    unfold frameOf
    rw [List.set_append_left _ _ hk]
  have hnz : ∀ c ∈ (stuffed (sealOf a)).set k v, c ≠ 0 := by
    intro c hc
    rcases List.mem_or_eq_of_mem_set hc with h1 | h1
    · exact stuffed_nz _ c h1
    · rw [h1]; exact hv.1
  rw [e, feed_append, feed_append, feed_plain _ _ hnz (by simp; omega), feed_nought]
  dsimp only
  rw [List.nil_append]
  obtain ⟨o, n, e2, h1, h2⟩ : ∃ o n, stepSt ⟨(stuffed (sealOf a)).set k v, false, [], 0⟩ 0 = ⟨[], false, o, n⟩ ∧ o.length ≤ 1 ∧ n ≤ 1 := by
    unfold stepSt
    rw [if_neg (by simp)]
    split
    · rename_i e3
      exact ⟨[], 0, by rw [show (stuffed (sealOf a)).set k v = [] from e3], by simp, by simp⟩
    · split
      · exact ⟨_, _, rfl, by simp, by simp⟩
      · exact ⟨_, _, rfl, by simp, by simp⟩
  rw [e2, frame_told o n b hb hlb]
  exact ⟨o, n, rfl, h1, h2⟩
/-- A byte of a row of the call's own. -/
theorem byte_at {w : World} {base n c : Nat} {ok : Nat → Prop} {A : Option Addr} {xs : List Int} (h : Kd.R (Kd.int .u8) 5 w base ok (.slice A n c) xs) (k : Nat) (hk : k < xs.length) : ∃ g, A = some ⟨g, 0, none⟩ ∧ base ≤ g ∧ w.cell? ⟨g, k, none⟩ = some (.int .u8 (xs.getD k 0)) ∧ w.frozen? ⟨g, k, none⟩ = false := by
  obtain ⟨g, cap, e, h1, h2, _⟩ := Kd.R_form h (by omega)
  have hn := (Kd.R_reads' h).1
  subst hn
  have e2 : A = some ⟨g, 0, none⟩ := by injection e
  subst e2
  have h3 := Kd.R_cell (0 : Int) h (k : Int) (by omega) (by omega)
  exact ⟨g, rfl, h1, by simpa [rdOf] using h3.1, by simpa using h3.2⟩
theorem C_of_R {α : Type} {d : Kd α} {w : World} {e base n c : Nat} {ok : Nat → Prop} {A : Option Addr} {xs : List α} (h : d.R e w base ok (.slice A n c) xs) : d.C w A n xs := by
  rw [(Kd.R_reads' h).1]
  exact (Kd.R_reads' h).2.2
theorem row_block {w : World} {base n c : Nat} {ok : Nat → Prop} {A : Option Addr} {xs : List Int} (h : Kd.R (Kd.int .u8) 5 w base ok (.slice A n c) xs) (hp : 0 < xs.length) {ad : Addr} (e : A = some ad) : base ≤ ad.block := by
  obtain ⟨g, e2, h1, _⟩ := byte_at h 0 hp
  rw [e] at e2
  cases e2
  exact h1
theorem cut_block {A : Option Addr} {c a : Nat} {ad : Addr} (e : (if c = a then A else A.map (·.add a)) = some ad) : ∃ ad0, A = some ad0 ∧ ad.block = ad0.block := by
  split at e
  · exact ⟨ad, e, rfl⟩
  · obtain ⟨ad0, e1, e2⟩ := Option.map_eq_some_iff.1 e
    exact ⟨ad0, e1, by rw [← e2, add_block]⟩
/-- A piece of a row, and a row's rest: what they read as, and that they lie in the row's block. -/
theorem mid_cut {P : Program} (t e : TypeId) (kl kh : IntKind) {i : TypeInfo} (ht : P.underlying t = some (.slice e)) (hi : P.info? e = some i) (hsz : i.size = 1) (A : Option Addr) (c : Nat) (xs : List Int) (a b : Nat) (h1 : a ≤ b) (hm : b ≤ xs.length) (hc : xs.length ≤ c) :
    ∃ A' : Option Addr, (∀ W : World, (Instr.slice t (.slice A xs.length c) (some (.int kl (a : Int))) (some (.int kh (b : Int))) none).run P W = .ok (.slice A' ((xs.take b).drop a).length (c - a)) W) ∧
      (∀ w : World, Kd.C (Kd.int .u8) w A xs.length xs → Kd.C (Kd.int .u8) w A' ((xs.take b).drop a).length ((xs.take b).drop a)) ∧ (∀ ad, A' = some ad → ∃ ad0, A = some ad0 ∧ ad.block = ad0.block) := by
  have hlt : (xs.take b).length = b := by rw [List.length_take]; omega
  have hl : ((xs.take b).drop a).length = b - a := by rw [List.length_drop, hlt]
  refine ⟨if c = a then A else A.map (·.add a), fun W => ?_, fun w h => ?_, fun ad e => cut_block e⟩
  · have hel : P.elem t = e := by simp [Program.elem, ht]
    have hu : P.underlying t = some (.slice (P.elem t)) := by rw [hel]; exact ht
    rw [run_slice_lh W t A xs.length c hu kl kh (a : Int) (b : Int) (by omega) (by omega) (by omega), hel, hl]
    simp [sizeOf, typeInfo, hi, hsz, sliced, Result.andThen]
  · have h2 := ((Kd.reads_of_C (enc := Value.int .u8) (d := (0 : Int)) (h1 := fun _ => rfl) h).take_ b (by omega)).drop_ (c := c) a (by omega) (by omega)
    rw [hl]
    exact Kd.C_of_reads h2
theorem rest_cut {P : Program} (t e : TypeId) (kl : IntKind) {i : TypeInfo} (ht : P.underlying t = some (.slice e)) (hi : P.info? e = some i) (hsz : i.size = 1) (A : Option Addr) (c : Nat) (xs : List Int) (a : Nat) (h1 : a ≤ xs.length) (hc : xs.length ≤ c) :
    ∃ A' : Option Addr, (∀ W : World, (Instr.slice t (.slice A xs.length c) (some (.int kl (a : Int))) none none).run P W = .ok (.slice A' (xs.drop a).length (c - a)) W) ∧
      (∀ w : World, Kd.C (Kd.int .u8) w A xs.length xs → Kd.C (Kd.int .u8) w A' (xs.drop a).length (xs.drop a)) ∧ (∀ ad, A' = some ad → ∃ ad0, A = some ad0 ∧ ad.block = ad0.block) := by
  have hl : (xs.drop a).length = xs.length - a := by rw [List.length_drop]
  refine ⟨if c = a then A else A.map (·.add a), fun W => ?_, fun w h => ?_, fun ad e => cut_block e⟩
  · have hel : P.elem t = e := by simp [Program.elem, ht]
    have hu : P.underlying t = some (.slice (P.elem t)) := by rw [hel]; exact ht
    rw [run_slice_l W t A xs.length c hu kl (a : Int) (by omega) (by omega), hel, hl]
    simp [sizeOf, typeInfo, hi, hsz, sliced, Result.andThen]
  · have h2 := (Kd.reads_of_C (enc := Value.int .u8) (d := (0 : Int)) (h1 := fun _ => rfl) h).drop_ (c := c) a h1 hc
    rw [hl]
    exact Kd.C_of_reads h2
/-- Where a piece of a row of the call's own lies. -/
theorem piece_block {w : World} {base n c : Nat} {ok : Nat → Prop} {A A' : Option Addr} {T : List Int} (h : Kd.R (Kd.int .u8) 5 w base ok (.slice A n c) T) (hp : 0 < T.length) (hin : ∀ ad, A' = some ad → ∃ ad0, A = some ad0 ∧ ad.block = ad0.block) {ad : Addr} (e : A' = some ad) : (Value.slice A n c).ownBlock = some ad.block := by
  obtain ⟨g, eg, _⟩ := byte_at h 0 hp
  obtain ⟨ad0, e0, e1⟩ := hin ad e
  rw [eg] at e0
  cases e0
  rw [e1, eg]
  rfl
theorem byte_put {w : World} {base c g : Nat} {ok : Nat → Prop} {xs : List Int} (h : Kd.R (Kd.int .u8) 5 w base ok (.slice (some ⟨g, 0, none⟩) xs.length c) xs) (k : Nat) (v : Int) : Kd.R (Kd.int .u8) 5 (w.setCell ⟨g, k, none⟩ (.int .u8 v)) base ok (.slice (some ⟨g, 0, none⟩) xs.length c) (xs.set k v) := by
  have h2 := (Kd.R_put (enc := Value.int .u8) (h1 := fun _ => rfl) h (k : Int) v).1
  rw [Int.toNat_natCast] at h2
  exact h2
end Go.Proofs.YtlbmfbbdfmmfnaaDoor
