/- What stuffed bytes are the bytes of: plain. -/
import Derived.Test.YtlbmfbbdfmmfnaaDoorRuns
namespace Go.Proofs.YtlbmfbbdfmmfnaaDoor
set_option linter.unusedVariables false
set_option linter.unusedSimpArgs false

def parse : Nat → List Int → Option (List (List Int))
  | 0, _ => some []
  | k + 1, b => if b = [] then some [] else if 0 < b.headD 0 ∧ b.headD 0 ≤ b.length then (parse k (b.drop (b.headD 0).toNat)).map fun rs => ((b.drop 1).take ((b.headD 0).toNat - 1)) :: rs else none
theorem parse_nil : ∀ k, parse k [] = some []
  | 0 => rfl
  | k + 1 => by simp [parse]
theorem parse_fuel : ∀ (k j : Nat) (q : List Int), q.length ≤ k → q.length ≤ j → parse k q = parse j q
  | 0, j, q, h, _ => by
    have : q = [] := List.eq_nil_of_length_eq_zero (by omega)
    subst this; rw [parse_nil, parse_nil]
  | k + 1, 0, q, _, h => by
    have : q = [] := List.eq_nil_of_length_eq_zero (by omega)
    subst this; rw [parse_nil, parse_nil]
  | k + 1, j + 1, q, h1, h2 => by
    unfold parse
    by_cases hq : q = []
    · rw [if_pos hq, if_pos hq]
    · rw [if_neg hq, if_neg hq]
      by_cases hc : 0 < q.headD 0 ∧ q.headD 0 ≤ q.length
      · rw [if_pos hc, if_pos hc, parse_fuel k j _ (by rw [List.length_drop]; omega) (by rw [List.length_drop]; omega)]
      · rw [if_neg hc, if_neg hc]
theorem parse_step (q : List Int) (hq : q ≠ []) : parse q.length q = if 0 < q.headD 0 ∧ q.headD 0 ≤ q.length then (parse (q.drop (q.headD 0).toNat).length (q.drop (q.headD 0).toNat)).map fun rs => ((q.drop 1).take ((q.headD 0).toNat - 1)) :: rs else none := by
  obtain ⟨k, hk⟩ : ∃ k, q.length = k + 1 := ⟨q.length - 1, by have := List.length_pos_iff.2 hq; omega⟩
  rw [show parse q.length q = parse (k + 1) q by rw [hk]]
  rw [parse, if_neg hq]
  by_cases hc : 0 < q.headD 0 ∧ q.headD 0 ≤ q.length
  · rw [if_pos hc, if_pos hc, parse_fuel k _ (q.drop (q.headD 0).toNat) (by rw [List.length_drop]; omega) (Nat.le_refl _)]
  · rw [if_neg hc, if_neg hc]

def unrun (r : List Int) : List Int := r ++ if r.length < 254 then [0] else []
def unruns (rs : List (List Int)) : List Int := rs.flatMap unrun
def lastLen (rs : List (List Int)) : Nat := (rs.getLast?.map List.length).getD 254
/-- frame.Plain: what it says. -/
def plainF (b : List Int) : List Int × Int :=
  match parse b.length b with
  | none => ([], 2)
  | some rs => if (∀ r ∈ rs, (0 : Int) ∉ r) ∧ lastLen rs < 254 then ((unruns rs).take ((unruns rs).length - 1), 0) else ([], 2)
/-- pennantref04.Plain: what it says. -/
def plainR (b : List Int) : List Int × Int :=
  match parse b.length b with
  | none => ([], 2)
  | some rs => if (unruns rs).getLast? = some 0 then (if stuffed ((unruns rs).take ((unruns rs).length - 1)) = b then ((unruns rs).take ((unruns rs).length - 1), 0) else ([], 2)) else ([], 2)

theorem stuffOf_cons (r : List Int) (rs : List (List Int)) : stuffOf (r :: rs) = ((r.length : Int) + 1) :: (r ++ stuffOf rs) := by simp [stuffOf]
/-- The bytes of runs are runs again. -/
theorem parse_stuffOf : ∀ (rs : List (List Int)), parse (stuffOf rs).length (stuffOf rs) = some rs
  | [] => rfl
  | r :: rs => by
    rw [parse_step _ (by rw [stuffOf_cons]; simp)]
    have e : stuffOf (r :: rs) = ((r.length : Int) + 1) :: (r ++ stuffOf rs) := stuffOf_cons r rs
    have hh : (stuffOf (r :: rs)).headD 0 = (r.length : Int) + 1 := by rw [e]; rfl
    have hl : (stuffOf (r :: rs)).length = 1 + (r.length + (stuffOf rs).length) := by rw [e]; simp; omega
    rw [if_pos (by rw [hh, hl]; omega), hh, show ((r.length : Int) + 1).toNat = r.length + 1 by omega]
    have hd : (stuffOf (r :: rs)).drop (r.length + 1) = stuffOf rs := by rw [e]; simp
    have ht : ((stuffOf (r :: rs)).drop 1).take (r.length + 1 - 1) = r := by rw [e]; simp
    rw [hd, ht, parse_stuffOf rs]
    rfl
/-- What is parsed is the bytes of its runs. -/
theorem stuffOf_parse : ∀ (k : Nat) (b : List Int) (rs : List (List Int)), b.length ≤ k → parse k b = some rs → stuffOf rs = b
  | 0, b, rs, hk, h => by
    have : b = [] := List.eq_nil_of_length_eq_zero (by omega)
    subst this; rw [parse_nil] at h; cases h; rfl
  | k + 1, b, rs, hk, h => by
    unfold parse at h
    by_cases hb : b = []
    · subst hb; rw [if_pos rfl] at h; cases h; rfl
    · rw [if_neg hb] at h
      split at h
      case isFalse => cases h
      case isTrue hc =>
      obtain ⟨rs', h1, rfl⟩ := Option.map_eq_some_iff.1 h
      have ih := stuffOf_parse k _ rs' (by rw [List.length_drop]; omega) h1
      rw [stuffOf_cons, ih]
      obtain ⟨z, t, rfl⟩ : ∃ z t, b = z :: t := by cases b with | nil => exact absurd rfl hb | cons z t => exact ⟨z, t, rfl⟩
      simp only [List.headD_cons, List.length_cons] at hc ⊢
      obtain ⟨n, rfl⟩ : ∃ n : Nat, z = (n : Int) + 1 := ⟨(z - 1).toNat, by omega⟩
      rw [show ((n : Int) + 1).toNat = n + 1 by omega]
      simp only [List.drop_succ_cons, List.drop_zero, Nat.add_sub_cancel, List.take_append_drop]
      rw [List.length_take, show min n t.length = n by omega]
theorem parse_short : ∀ (k : Nat) (b : List Int) (rs : List (List Int)), (∀ c ∈ b, 0 ≤ c ∧ c ≤ 255) → parse k b = some rs → ∀ r ∈ rs, r.length ≤ 254
  | 0, b, rs, _, h => by cases h; simp
  | k + 1, b, rs, hb, h => by
    unfold parse at h
    by_cases hn : b = []
    · rw [if_pos hn] at h; cases h; simp
    · rw [if_neg hn] at h
      split at h
      case isFalse => cases h
      case isTrue hc =>
      obtain ⟨rs', h1, rfl⟩ := Option.map_eq_some_iff.1 h
      intro r hr
      rcases List.mem_cons.1 hr with rfl | hr
      · have hm : b.headD 0 ∈ b := by cases b with | nil => exact absurd rfl hn | cons z t => simp
        have := hb _ hm
        rw [List.length_take]; omega
      · exact parse_short k _ rs' (fun c hc' => hb c (List.mem_of_mem_drop hc')) h1 r hr
/-- Runs without noughts, the last one short, are the runs of what they say. -/
theorem cutN_run (r q : List Int) (h0 : (0 : Int) ∉ r) (hl : r.length ≤ 254) : cutN (unrun r ++ q) = r.length := by
  have ht : ∀ (a c : List Int), (0 : Int) ∉ a → (a ++ 0 :: c).takeWhile (fun c => c != 0) = a := by
    intro a c ha
    induction a with
    | nil => simp
    | cons x xs ih =>
      simp only [List.mem_cons, not_or] at ha
      have hx : x ≠ 0 := fun e => ha.1 e.symm
      simp only [List.cons_append]
      rw [List.takeWhile_cons, if_pos (by simpa using hx), ih ha.2]
  have ht2 : ∀ (a : List Int), (0 : Int) ∉ a → a.takeWhile (fun c => c != 0) = a := by
    intro a ha
    induction a with
    | nil => rfl
    | cons x xs ih =>
      simp only [List.mem_cons, not_or] at ha
      have hx : x ≠ 0 := fun e => ha.1 e.symm
      rw [List.takeWhile_cons, if_pos (by simpa using hx), ih ha.2]
  unfold cutN unrun
  by_cases h : r.length < 254
  · rw [if_pos h]
    obtain ⟨m, hm⟩ : ∃ m, 254 - r.length = m + 1 := ⟨254 - r.length - 1, by omega⟩
    rw [List.append_assoc, List.take_append, List.take_of_length_le (by omega), hm]
    simp only [List.cons_append, List.nil_append, List.take_succ_cons]
    rw [ht r _ h0]
  · rw [if_neg h, List.append_nil, List.take_append, List.take_of_length_le hl, show 254 - r.length = 0 by omega, List.take_zero, List.append_nil, ht2 r h0]
theorem cutNext_run (r q : List Int) (h0 : (0 : Int) ∉ r) (hl : r.length ≤ 254) : cutNext (unrun r ++ q) = (unrun r).length := by
  unfold cutNext
  rw [cutN_run r q h0 hl]
  unfold unrun
  by_cases h : r.length < 254
  · rw [if_pos h, if_pos h]; simp
  · rw [if_neg h, if_neg h]; simp; omega
theorem unrun_ne (r : List Int) (hl : r.length ≤ 254) : unrun r ≠ [] := by
  unfold unrun
  by_cases h : r.length < 254
  · rw [if_pos h]; simp
  · rw [if_neg h]
    intro e
    have := congrArg List.length e
    simp at this; subst this; simp at h
theorem runs_unruns : ∀ (rs : List (List Int)) , (∀ r ∈ rs, (0 : Int) ∉ r) → (∀ r ∈ rs, r.length ≤ 254) → runsL (unruns rs).length (unruns rs) = rs
  | [], _, _ => rfl
  | r :: rs, h0, hl => by
    have e : unruns (r :: rs) = unrun r ++ unruns rs := rfl
    have h1 := h0 r List.mem_cons_self
    have h2 := hl r List.mem_cons_self
    have hne : unruns (r :: rs) ≠ [] := by rw [e]; simp [unrun_ne r h2]
    rw [runsL_step _ hne]
    rw [e, cutN_run r _ h1 h2, cutNext_run r _ h1 h2, List.drop_left, runs_unruns rs (fun x hx => h0 x (List.mem_cons_of_mem _ hx)) (fun x hx => hl x (List.mem_cons_of_mem _ hx))]
    congr 1
    unfold unrun
    rw [List.append_assoc, List.take_left]
theorem unruns_last : ∀ (rs : List (List Int)), lastLen rs < 254 → ∃ a, unruns rs = a ++ [0]
  | [], h => by simp [lastLen] at h
  | r :: rs, h => by
    by_cases hr : rs = []
    · subst hr
      simp [lastLen] at h
      exact ⟨r, by simp [unruns, unrun, h]⟩
    · have e : lastLen (r :: rs) = lastLen rs := by
        unfold lastLen
        rw [List.getLast?_cons_of_ne_nil hr]
      rw [e] at h
      obtain ⟨a, ha⟩ := unruns_last rs h
      refine ⟨unrun r ++ a, ?_⟩
      show unrun r ++ unruns rs = _
      rw [ha, List.append_assoc]
theorem stuffed_unruns (rs : List (List Int)) (a : List Int) (h0 : ∀ r ∈ rs, (0 : Int) ∉ r) (hl : ∀ r ∈ rs, r.length ≤ 254) (ha : unruns rs = a ++ [0]) : stuffed a = stuffOf rs := by
  unfold stuffed
  rw [← ha]
  have h := runs_unruns rs h0 hl
  have e : (unruns rs).length = a.length + 1 := by rw [ha]; simp
  rw [e] at h
  rw [h]

/-- Runs of bytes with a nought behind: without noughts, at most 254 long, the last one short; they say the bytes. -/
theorem runs_good : ∀ (k : Nat) (q : List Int), q.length ≤ k → EndsZero q → (∀ r ∈ runsL k q, (0 : Int) ∉ r) ∧ (∀ r ∈ runsL k q, r.length ≤ 254) ∧ unruns (runsL k q) = q ∧ (q ≠ [] → lastLen (runsL k q) < 254)
  | 0, q, hk, hz => by
    have : q = [] := List.eq_nil_of_length_eq_zero (by omega)
    subst this; simp [runsL, unruns]
  | k + 1, q, hk, hz => by
    by_cases h : q = []
    · subst h; simp [runsL_nil, unruns]
    · have e : runsL (k + 1) q = q.take (cutN q) :: runsL k (q.drop (cutNext q)) := by rw [runsL, if_neg h]
      have hp := cutNext_pos q
      have hnx := cutNext_le hz h
      have hc := cutN_le q
      obtain ⟨i1, i2, i3, i4⟩ := runs_good k (q.drop (cutNext q)) (by rw [List.length_drop]; omega) (hz.drop _)
      have hr0 : (0 : Int) ∉ q.take (cutN q) := fun hm => run_no_zero q 0 hm rfl
      have hrl := run_length q
      rw [e]
      have hu : unrun (q.take (cutN q)) = q.take (cutNext q) := by
        unfold unrun cutNext
        rw [hrl]
        by_cases hlt : cutN q < 254
        · rw [if_pos hlt, if_pos hlt]
          have hlq : cutN q < q.length := by unfold cutNext at hnx; rw [if_pos hlt] at hnx; omega
          have hs := takeWhile_stop (q.take 254) (fun c => c != 0) (by rw [List.length_take]; unfold cutN at hlt hlq; omega)
          rw [List.getElem_take] at hs
          have hz0 : q[cutN q] = 0 := by simpa [cutN] using hs
          rw [List.take_add_one, List.getElem?_eq_getElem hlq, hz0]; rfl
        · rw [if_neg hlt, if_neg hlt, List.append_nil, show cutN q = 254 by omega]
      refine ⟨?_, ?_, ?_, fun _ => ?_⟩
      · intro r hr
        rcases List.mem_cons.1 hr with rfl | hr
        · exact hr0
        · exact i1 r hr
      · intro r hr
        rcases List.mem_cons.1 hr with rfl | hr
        · omega
        · exact i2 r hr
      · show unrun _ ++ unruns _ = q
        rw [hu, i3, List.take_append_drop]
      · by_cases hd : q.drop (cutNext q) = []
        · rw [hd, runsL_nil]
          show (Option.map List.length (some (q.take (cutN q)))).getD 254 < 254
          show (q.take (cutN q)).length < 254
          rw [hrl]
          have hql : q.length ≤ cutNext q := by
            have := congrArg List.length hd
            rw [List.length_drop] at this
            simp at this; omega
          unfold cutNext at hql
          by_cases hlt : cutN q < 254
          · exact hlt
          · rw [if_neg hlt] at hql
            have := cutN_short hz h hql
            omega
        · have h4 := i4 hd
          have hne : runsL k (q.drop (cutNext q)) ≠ [] := by
            intro e0
            rw [e0] at i3
            exact hd i3.symm
          unfold lastLen at h4 ⊢
          rw [List.getLast?_cons_of_ne_nil hne]
          exact h4

theorem plain_eq (b : List Int) (hb : ∀ c ∈ b, 0 ≤ c ∧ c ≤ 255) : plainR b = plainF b := by
  unfold plainR plainF
  cases hp : parse b.length b with
  | none => rfl
  | some rs =>
    dsimp only
    have hs := stuffOf_parse _ b rs (Nat.le_refl _) hp
    have hl := parse_short _ b rs hb hp
    by_cases h : (∀ r ∈ rs, (0 : Int) ∉ r) ∧ lastLen rs < 254
    · obtain ⟨a, ha⟩ := unruns_last rs h.2
      have hst := stuffed_unruns rs a h.1 hl ha
      rw [if_pos h, ha, if_pos (by simp), show (a ++ [(0 : Int)]).take ((a ++ [(0 : Int)]).length - 1) = a by simp, if_pos (by rw [hst, hs])]
    · rw [if_neg h]
      by_cases h1 : (unruns rs).getLast? = some 0
      · rw [if_pos h1]
        by_cases h2 : stuffed ((unruns rs).take ((unruns rs).length - 1)) = b
        · exfalso
          apply h
          obtain ⟨a, ha⟩ := runs_good (((unruns rs).take ((unruns rs).length - 1)).length + 1) (((unruns rs).take ((unruns rs).length - 1)) ++ [0]) (by simp) (.inr ⟨_, rfl⟩)
          have hrs : rs = runsL (((unruns rs).take ((unruns rs).length - 1)).length + 1) (((unruns rs).take ((unruns rs).length - 1)) ++ [0]) := by
            have e1 := parse_stuffOf rs
            rw [hs, ← h2] at e1
            unfold stuffed at e1
            rw [parse_stuffOf] at e1
            exact (Option.some.inj e1).symm
          rw [← hrs] at a ha
          exact ⟨a, ha.2.2 (by simp)⟩
        · rw [if_neg h2]
      · rw [if_neg h1]

theorem plain_stuffed (b : List Int) : plainF (stuffed b) = (b, 0) := by
  obtain ⟨h1, h2, h3, h4⟩ := runs_good (b.length + 1) (b ++ [0]) (by simp) (.inr ⟨_, rfl⟩)
  unfold plainF
  rw [show stuffed b = stuffOf (runsL (b.length + 1) (b ++ [0])) from rfl, parse_stuffOf]
  dsimp only
  rw [if_pos ⟨h1, h4 (by simp)⟩, h3]
  simp
end Go.Proofs.YtlbmfbbdfmmfnaaDoor
