/- The contracts of the Readers' methods: end, Feed, Held, New: for all bytes. -/
import Derived.Test.YtlbmfbbdfmmfnaaDoorPRdrx2
namespace Go.Proofs.YtlbmfbbdfmmfnaaDoor
open Go.RowKit Go.Shelf Go.Proofs.YtlbmfbbdfmmfnaaDoorW.PrintWords Go.Proofs.YtlbmfbbdfmmfnaaDoorW.PrintLast Go.Proofs.YtlbmfbbdfmmfnaaDoorW.PrintMore
open Go.Proofs.YtlbmfbbdfmmfnaaDoor.PRdr
set_option linter.unusedVariables false
set_option linter.unusedSimpArgs false
attribute [local go_sem] Oper.semAt_some max2_int min2_int max_two min_two max_three min_three max_four min_four

/-- What crc.Open says of bytes. -/
def openOf (l : List Int) : List Int × Bool := (crc_Open.f 1 l).getD ([], false)
theorem open_is (l : List Int) (hb : ∀ c ∈ l, 0 ≤ c ∧ c ≤ 255) (hl : l.length < 140737488355328) : crc_Open.f 1 l = some (openOf l) := by
  have hs : ∃ t, crc_Sum.f 1 l = some t := by
    unfold crc_Sum.f crc_Add.f
    rw [if_pos ⟨by decide, by decide, hb⟩]
    exact ⟨_, rfl⟩
  obtain ⟨t, ht⟩ := hs
  have h : ∃ r, crc_Open.f 1 l = some r := by
    unfold crc_Open.f
    rw [ht]
    simp only [Option.bind_some]
    split
    · exact ⟨_, rfl⟩
    · split
      · exact ⟨_, rfl⟩
      · exact ⟨_, rfl⟩
  obtain ⟨r, hr⟩ := h
  unfold openOf
  rw [hr]
  rfl
theorem unrun_bytes (rs : List (List Int)) (h : ∀ r ∈ rs, ∀ c ∈ r, 0 ≤ c ∧ c ≤ 255) : ∀ c ∈ unruns rs, 0 ≤ c ∧ c ≤ 255 := by
  intro c hc
  obtain ⟨r, hr, hc⟩ := List.mem_flatMap.1 hc
  unfold unrun at hc
  rcases List.mem_append.1 hc with hc | hc
  · exact h r hr c hc
  · split at hc
    · simp at hc; omega
    · simp at hc
theorem parse_bytes : ∀ (k : Nat) (b : List Int) (rs : List (List Int)), (∀ c ∈ b, 0 ≤ c ∧ c ≤ 255) → parse k b = some rs → ∀ r ∈ rs, ∀ c ∈ r, 0 ≤ c ∧ c ≤ 255
  | 0, b, rs, _, h => by cases h; simp
  | k + 1, b, rs, hb, h => by
    unfold parse at h
    by_cases hn : b = []
    · rw [if_pos hn] at h; cases h; simp
    · rw [if_neg hn] at h
      split at h
      case isFalse => cases h
      case isTrue hc =>
      obtain ⟨rs', h1, rfl⟩ := Option.map_eq_some_iff.1 h
      intro r hr
      rcases List.mem_cons.1 hr with rfl | hr
      · intro c hc'
        exact hb c (List.mem_of_mem_drop (List.mem_of_mem_take hc'))
      · exact parse_bytes k _ rs' (fun c hc' => hb c (List.mem_of_mem_drop hc')) h1 r hr
theorem plain_bytes (b : List Int) (hb : ∀ c ∈ b, 0 ≤ c ∧ c ≤ 255) : ∀ c ∈ (plainF b).1, 0 ≤ c ∧ c ≤ 255 := by
  unfold plainF
  cases hp : parse b.length b with
  | none => simp
  | some rs =>
    dsimp only
    split
    · intro c hc
      exact unrun_bytes rs (parse_bytes _ b rs hb hp) c (List.mem_of_mem_take hc)
    · simp
theorem unruns_le : ∀ (rs : List (List Int)), (unruns rs).length ≤ (stuffOf rs).length
  | [] => Nat.le_refl _
  | r :: rs => by
    have ih := unruns_le rs
    have e1 : (unruns (r :: rs)).length = (unrun r).length + (unruns rs).length := by simp [unruns]
    have e2 : (unrun r).length ≤ r.length + 1 := by unfold unrun; split <;> simp
    rw [stuffOf_cons, e1]
    simp only [List.length_cons, List.length_append]
    omega
theorem plain_len (b : List Int) : (plainF b).1.length ≤ b.length := by
  unfold plainF
  cases hp : parse b.length b with
  | none => simp
  | some rs =>
    dsimp only
    split
    · have h := unruns_le rs
      rw [stuffOf_parse _ b rs (Nat.le_refl _) hp] at h
      dsimp only
      rw [List.length_take]
      omega
    · simp

/-- What comes of what is held. -/
def endOf (held : List Int) (sp : Bool) : List Int × Bool := ((openOf (plainF held).1).1, !sp && (plainF held).2 == 0 && (openOf (plainF held).1).2 && decide ((openOf (plainF held).1).1.length ≤ 2048))

set_option maxHeartbeats 2000000 in
set_option maxRecDepth 100000 in
theorem end_calls (g : Nat) (A : Option Addr) (c : Nat) (held : List Int) (sp : Bool) (w : World) (hg : w.heap[g]? = some (.cells #[.slice A held.length c, .bool sp] 56 (0, 0))) (hr : Kd.C (Kd.int .u8) w A held.length held) (hc : held.length ≤ c) (hT : TabOk w) (hl : held.length ≤ 2100) (hb : ∀ c ∈ held, 0 ≤ c ∧ c ≤ 255) :
    Calls Tryd.prog 32 #[.pointer (some ⟨g, 0, none⟩)] w fun e w' => ∃ v0_ : Value, e = .returned (.tuple #[v0_, .bool (endOf held sp).2]) ∧ Kd.R (Kd.int .u8) 5 w' w.heap.size (fun _ => True) v0_ (endOf held sp).1 ∧ Below w.heap.size w w' := by
  have H1 := Aside0.mk (framePlain_calls A c held w hr hc (by omega) hb)
  have hpb := plain_bytes held hb
  have hpl := plain_len held
  obtain ⟨p, e, hp⟩ : ∃ p e, plainF held = (p, e) := ⟨_, _, rfl⟩
  unfold endOf
  rw [hp] at H1 hpb hpl ⊢
  dsimp only at H1 hpb hpl ⊢
  have hop := open_is p hpb (by omega)
  obtain ⟨x, is, hx⟩ : ∃ x is, openOf p = (x, is) := ⟨_, _, rfl⟩
  rw [hx] at hop ⊢
  dsimp only
  have H2 := Aside0.mk (fun (W : World) (A : Option Addr) (c : Nat) (hb : Below w.heap.size w W) (hC : Kd.C (Kd.int .u8) W A p.length p) (hc : p.length ≤ c) => crc_Open.calls 1 A c p x is W hC hc (hT.below hb) hop)
  have HG := Aside0.mk hg
  have hc0 : w.cell? ⟨g, 0, none⟩ = some (.slice A held.length c) := (blk_cell hg 0).trans rfl
  clear hr hT hp hop hx hpb hg hpl
  have HB := Aside0.mk (Below.refl w.heap.size w)
  have hxl : (decide ((x.length : Int) ≤ 2048)) = decide (x.length ≤ 2048) := by simp; omega
  go_enter Tryd.func32, Tryd.ntmps32
  go_wp2_with (first
    | (go_at_call 35; refine H1.out.mono ?_; rintro e1 w1 ⟨v0, rfl, hR, hb0⟩; have HB1 := Aside0.mk hb0; obtain ⟨Av1, cv1, ev1⟩ := Kd.R_slice hR; subst ev1; have HP := Aside0.mk hR; clear hb0 hR)
    | (go_at_call 18; refine (H2.out _ Av1 cv1 HB1.out (Kd.R_reads' HP.out).2.2 (Kd.R_reads' HP.out).2.1).mono ?_; rintro e2 w2 ⟨v1, rfl, hR, hb0⟩; have HB2 := Aside0.mk (below_then HB1.out HB1.out.size hb0); obtain ⟨Av2, cv2, ev2⟩ := Kd.R_slice hR; subst ev2; have HX := Aside0.mk (Kd.R_lower hR HB1.out.size); clear hb0 hR; have hc1 : w2.cell? ⟨g, 1, none⟩ = some (.bool sp) := (blk_cell ((HB2.out.block _ (blk_lt HG.out)).trans HG.out) 1).trans rfl))
  all_goals go_ret2
  all_goals refine ⟨_, ?_, HX.out, HB2.out⟩
  all_goals (simp [*]; done)
end Go.Proofs.YtlbmfbbdfmmfnaaDoor
