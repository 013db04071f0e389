/- The plain mathematics of the runs of bytes: where a run ends, what all runs are, what they are stuffed to. No program in sight. -/
import Derived.Lib.Bytes
import Derived.Lib.Bytealg
namespace Go.Proofs.YtlbmfbbdfmmfnaaDoor
open Go

/-- How many bytes ahead of the first nought, 254 at the most. -/
def cutN (q : List Int) : Nat := ((q.take 254).takeWhile (fun c => c != 0)).length
def cutNext (q : List Int) : Nat := if cutN q < 254 then cutN q + 1 else 254
def runsL : Nat → List Int → List (List Int)
  | 0, _ => []
  | k + 1, q => if q = [] then [] else q.take (cutN q) :: runsL k (q.drop (cutNext q))
def stuffOf (rs : List (List Int)) : List Int := rs.flatMap fun r => ((r.length : Int) + 1) :: r
/-- What bytes are stuffed to. -/
def stuffed (b : List Int) : List Int := stuffOf (runsL (b.length + 1) (b ++ [0]))

theorem takeWhile_le (l : List Int) (p : Int → Bool) : (l.takeWhile p).length ≤ l.length := by
  induction l with
  | nil => simp
  | cons x l ih =>
    rw [List.takeWhile_cons]
    split
    · simp only [List.length_cons]; omega
    · simp
theorem cutN_le (q : List Int) : cutN q ≤ 254 ∧ cutN q ≤ q.length := by
  have h := takeWhile_le (q.take 254) (fun c => c != 0)
  rw [List.length_take] at h
  unfold cutN
  omega
theorem cutNext_pos (q : List Int) : 0 < cutNext q := by unfold cutNext; split <;> omega
theorem take_takeWhile (l : List Int) (p : Int → Bool) : l.take (l.takeWhile p).length = l.takeWhile p := by
  induction l with
  | nil => rfl
  | cons x l ih =>
    rw [List.takeWhile_cons]
    split
    · rw [List.length_cons, List.take_succ_cons, ih]
    · rfl
theorem run_eq (q : List Int) : q.take (cutN q) = (q.take 254).takeWhile (fun c => c != 0) := by
  have h := cutN_le q
  rw [← take_takeWhile (q.take 254), List.take_take]
  unfold cutN at *
  congr 1
  omega
theorem mem_takeWhile (p : Int → Bool) (c : Int) : ∀ (l : List Int), c ∈ l.takeWhile p → p c = true
  | [], h => by simp at h
  | x :: l, h => by
    rw [List.takeWhile_cons] at h
    split at h
    · rcases List.mem_cons.1 h with rfl | h
      · assumption
      · exact mem_takeWhile p c l h
    · simp at h
theorem run_no_zero (q : List Int) : ∀ c ∈ q.take (cutN q), c ≠ 0 := by
  intro c hc
  rw [run_eq] at hc
  have := mem_takeWhile _ _ _ hc
  simpa using this
theorem run_length (q : List Int) : (q.take (cutN q)).length = cutN q := by
  have := cutN_le q
  rw [List.length_take]; omega
/-- A run that is cut short ends at a nought. -/
theorem takeWhile_stop (l : List Int) (p : Int → Bool) (h : (l.takeWhile p).length < l.length) : p (l[(l.takeWhile p).length]'h) = false := by
  induction l with
  | nil => simp at h
  | cons x l ih =>
    by_cases hx : p x = true
    · have e : (List.takeWhile p (x :: l)) = x :: List.takeWhile p l := by rw [List.takeWhile_cons, if_pos hx]
      have h2 : (l.takeWhile p).length < l.length := by rw [e] at h; simpa using h
      have := ih h2
      simp only [e, List.length_cons, List.getElem_cons_succ]
      exact this
    · have e : (List.takeWhile p (x :: l)) = [] := by rw [List.takeWhile_cons, if_neg hx]
      simp only [e, List.length_nil, List.getElem_cons_zero]
      simpa using hx
/-- What is left behind a run: where the last byte is a nought, so it is then, or nothing is left. -/
def EndsZero (q : List Int) : Prop := q = [] ∨ ∃ a, q = a ++ [0]
theorem EndsZero.drop {q : List Int} (h : EndsZero q) (n : Nat) : EndsZero (q.drop n) := by
  rcases h with rfl | ⟨a, rfl⟩
  · exact .inl (by simp)
  · by_cases hn : n ≤ a.length
    · exact .inr ⟨a.drop n, by rw [List.drop_append_of_le_length hn]⟩
    · exact .inl (by apply List.drop_eq_nil_of_le; simp; omega)
theorem cutN_short {q : List Int} (h : EndsZero q) (hq : q ≠ []) (hl : q.length ≤ 254) : cutN q < q.length := by
  rcases h with rfl | ⟨a, rfl⟩
  · exact absurd rfl hq
  · have h1 := cutN_le (a ++ [0])
    rcases Nat.lt_or_ge (cutN (a ++ [0])) (a ++ [0]).length with h2 | h2
    · exact h2
    · exfalso
      have h3 := run_no_zero (a ++ [0]) 0 (by rw [List.take_of_length_le h2]; simp)
      exact h3 rfl
theorem cutNext_le {q : List Int} (h : EndsZero q) (hq : q ≠ []) : cutNext q ≤ q.length := by
  have h1 := cutN_le q
  unfold cutNext
  split
  · rcases Nat.lt_or_ge 254 q.length with h2 | h2
    · omega
    · have := cutN_short h hq h2; omega
  · omega
/-- The first nought in the head, as the library tells it. -/
theorem indexByte_zero (l : List Int) (hl : ∀ c ∈ l, 0 ≤ c ∧ c ≤ 255) : Lib.indexByte (Lib.bytesOf l) 0 = if (l.takeWhile (fun c => c != 0)).length < l.length then ((l.takeWhile (fun c => c != 0)).length : Int) else -1 := by
  induction l with
  | nil => rfl
  | cons x l ih =>
    have hx := hl x (by simp)
    have ih := ih (fun c hc => hl c (by simp [hc]))
    have e : Lib.bytesOf (x :: l) = UInt8.ofNat x.toNat :: Lib.bytesOf l := rfl
    rw [e, List.takeWhile_cons]
    by_cases h0 : x = 0
    · subst h0
      simp [Lib.indexByte]
    · have hne : ¬ UInt8.ofNat x.toNat = 0 := by
        intro h
        have := congrArg UInt8.toNat h
        simp only [UInt8.toNat_ofNat'] at this
        have h2 : (0 : UInt8).toNat = 0 := rfl
        omega
      have h3 : (x != 0) = true := by simpa using h0
      rw [if_pos h3]
      have hb : (UInt8.ofNat x.toNat == (0 : UInt8)) = false := by simpa using hne
      simp only [Lib.indexByte, List.length_cons, hb]
      rw [ih]
      generalize (l.takeWhile (fun c => c != 0)).length = n
      by_cases c : n < l.length
      · have h4 : ((n : Int) == -1) = false := by rw [beq_eq_false_iff_ne]; omega
        simp [c, h4]
      · simp [c]
theorem runsL_nil : ∀ k, runsL k [] = []
  | 0 => rfl
  | k + 1 => by simp [runsL]
/-- More rounds than bytes tell the same. -/
theorem runsL_fuel : ∀ (k j : Nat) (q : List Int), q.length ≤ k → q.length ≤ j → runsL k q = runsL j q
  | 0, j, q, hk, _ => by
    obtain rfl : q = [] := List.eq_nil_of_length_eq_zero (by omega)
    rw [runsL_nil, runsL_nil]
  | k + 1, 0, q, _, hj => by
    obtain rfl : q = [] := List.eq_nil_of_length_eq_zero (by omega)
    rw [runsL_nil, runsL_nil]
  | k + 1, j + 1, q, hk, hj => by
    unfold runsL
    by_cases h : q = []
    · rw [if_pos h, if_pos h]
    · rw [if_neg h, if_neg h]
      have hp := cutNext_pos q
      have hd : (q.drop (cutNext q)).length ≤ q.length - 1 := by rw [List.length_drop]; omega
      have hl : 0 < q.length := List.length_pos_iff.2 h
      rw [runsL_fuel k j (q.drop (cutNext q)) (by omega) (by omega)]
theorem runsL_step (q : List Int) (h : q ≠ []) : runsL q.length q = q.take (cutN q) :: runsL (q.drop (cutNext q)).length (q.drop (cutNext q)) := by
  have hl : 0 < q.length := List.length_pos_iff.2 h
  have hp := cutNext_pos q
  obtain ⟨k, hk⟩ : ∃ k, q.length = k + 1 := ⟨q.length - 1, by omega⟩
  rw [hk]
  show (if q = [] then [] else q.take (cutN q) :: runsL k (q.drop (cutNext q))) = _
  rw [if_neg h, runsL_fuel k (q.drop (cutNext q)).length (q.drop (cutNext q)) (by rw [List.length_drop]; omega) (Nat.le_refl _)]
/-- What the library's IndexByte tells of a head of at most 254 bytes. -/
theorem head_index (q : List Int) (hb : ∀ c ∈ q, 0 ≤ c ∧ c ≤ 255) (hz : EndsZero q) (hq : q ≠ []) :
    (cutN q < 254 ∧ Lib.indexByte (Lib.bytesOf (q.take 254)) 0 = (cutN q : Int)) ∨ (cutN q = 254 ∧ Lib.indexByte (Lib.bytesOf (q.take 254)) 0 = -1) := by
  have h1 := cutN_le q
  have h2 := indexByte_zero (q.take 254) (fun c hc => hb c (List.mem_of_mem_take hc))
  have h3 : ((q.take 254).takeWhile (fun c => c != 0)).length = cutN q := rfl
  rw [h3] at h2
  by_cases h : cutN q < (q.take 254).length
  · rw [if_pos h] at h2
    rw [List.length_take] at h
    exact .inl ⟨by omega, h2⟩
  · rw [if_neg h] at h2
    rw [List.length_take] at h
    refine .inr ⟨?_, h2⟩
    rcases Nat.lt_or_ge 254 q.length with h4 | h4
    · omega
    · have := cutN_short hz hq h4; omega
end Go.Proofs.YtlbmfbbdfmmfnaaDoor
