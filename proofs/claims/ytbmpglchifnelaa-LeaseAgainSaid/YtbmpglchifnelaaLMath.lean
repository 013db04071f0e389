/- The plain mathematics of leases: what each step makes of a list of leases; no program in sight. -/
import Derived.Lib.Bytes
namespace Go.Proofs.Ytbmpglchifnelaa
open Go
/-- A lease: its number, its device, until when. -/
abbrev L3 := Int × Int × Int
def z3 : L3 := (0, 0, 0)
def isOf (d : Int) (x : L3) : Bool := x.2.1 == d && decide (0 < x.2.2)
/-- A device's open lease. -/
def ofL (L : List L3) (d : Int) : Option L3 := L.find? (isOf d)
/-- The lease of a number. -/
def atN (L : List L3) (n : Int) : L3 := L.getD (n.toNat - 1) z3
structure Good (L : List L3) : Prop where
  len : L.length ≤ 20000
  ent : ∀ (i : Nat) (x : L3), L[i]? = some x → x.1 = (i : Int) + 1 ∧ 1 ≤ x.2.1 ∧ x.2.1 ≤ 4096 ∧ 0 ≤ x.2.2 ∧ x.2.2 ≤ 1099512676352
  one : ∀ (i j : Nat) (x y : L3), L[i]? = some x → L[j]? = some y → 0 < x.2.2 → 0 < y.2.2 → x.2.1 = y.2.1 → i = j
theorem Good.nil : Good [] := ⟨by simp, by simp, by simp⟩
theorem isOf_iff (d : Int) (x : L3) : isOf d x = true ↔ x.2.1 = d ∧ 0 < x.2.2 := by simp [isOf]
theorem ofL_some {L : List L3} {d : Int} {x : L3} (h : ofL L d = some x) : ∃ i : Nat, L[i]? = some x ∧ x.2.1 = d ∧ 0 < x.2.2 := by
  have h1 := List.mem_of_find?_eq_some h
  have h2 := List.find?_some h
  obtain ⟨i, hi, he⟩ := List.getElem_of_mem h1
  exact ⟨i, by rw [List.getElem?_eq_getElem hi, he], (isOf_iff d x).1 h2⟩
theorem ofL_none {L : List L3} {d : Int} : ofL L d = none ↔ ∀ (i : Nat) (x : L3), L[i]? = some x → 0 < x.2.2 → x.2.1 ≠ d := by
  unfold ofL
  rw [List.find?_eq_none]
  constructor
  · intro h i x hi h0 he
    exact h x (List.mem_of_getElem? hi) ((isOf_iff d x).2 ⟨he, h0⟩)
  · intro h x hx hi
    obtain ⟨i, hi2, he⟩ := List.getElem_of_mem hx
    obtain ⟨h1, h2⟩ := (isOf_iff d x).1 hi
    exact h i x (by rw [List.getElem?_eq_getElem hi2, he]) h2 h1
theorem ofL_iff {L : List L3} (hg : Good L) {d : Int} {x : L3} : ofL L d = some x ↔ ∃ i : Nat, L[i]? = some x ∧ x.2.1 = d ∧ 0 < x.2.2 := by
  constructor
  · exact ofL_some
  · rintro ⟨i, hi, hd, h0⟩
    cases h : ofL L d with
    | none => exact absurd hd (ofL_none.1 h i x hi h0)
    | some y =>
      obtain ⟨j, hj, hd2, h2⟩ := ofL_some h
      have := hg.one i j x y hi hj h0 h2 (hd.trans hd2.symm)
      subst this
      rw [hi] at hj
      exact hj.symm
theorem ofL_append (L : List L3) (x : L3) (d : Int) : ofL (L ++ [x]) d = (ofL L d).or (if isOf d x then some x else none) := by
  unfold ofL
  rw [List.find?_append]
  congr 1
  simp [List.find?_cons]
  split <;> simp_all
theorem Good.append {L : List L3} (hg : Good L) {d u : Int} (hl : L.length < 20000) (hd : 1 ≤ d ∧ d ≤ 4096) (hu : 0 ≤ u ∧ u ≤ 1099512676352) (h : 0 < u → ofL L d = none) : Good (L ++ [((L.length : Int) + 1, d, u)]) := by
  refine ⟨by simp; omega, fun i x hi => ?_, fun i j x y hi hj hx hy he => ?_⟩
  · rw [List.getElem?_append] at hi
    split at hi
    · exact hg.ent i x hi
    · obtain ⟨h1, rfl⟩ : i - L.length = 0 ∧ ((L.length : Int) + 1, d, u) = x := by
        rcases Nat.eq_zero_or_pos (i - L.length) with h0 | h0
        · rw [h0] at hi; exact ⟨h0, by simpa using hi⟩
        · rw [List.getElem?_eq_none (by simp; omega)] at hi; cases hi
      refine ⟨?_, hd.1, hd.2, hu.1, hu.2⟩
      dsimp only; omega
  · have key : ∀ (k : Nat) (z : L3), (L ++ [((L.length : Int) + 1, d, u)])[k]? = some z → (k < L.length ∧ L[k]? = some z) ∨ (k = L.length ∧ z = ((L.length : Int) + 1, d, u)) := by
      intro k z hk
      rw [List.getElem?_append] at hk
      split at hk
      · exact .inl ⟨by assumption, hk⟩
      · rcases Nat.eq_zero_or_pos (k - L.length) with h0 | h0
        · rw [h0] at hk; exact .inr ⟨by omega, by simpa using hk.symm⟩
        · rw [List.getElem?_eq_none (by simp; omega)] at hk; cases hk
    rcases key i x hi with ⟨hil, hi⟩ | ⟨rfl, rfl⟩ <;> rcases key j y hj with ⟨hjl, hj⟩ | ⟨rfl, rfl⟩
    · exact hg.one i j x y hi hj hx hy he
    · exact absurd he (ofL_none.1 (h hy) i x hi hx)
    · exact absurd he.symm (ofL_none.1 (h hx) j y hj hy)
    · rfl
theorem get_set (L : List L3) (i : Nat) (v : L3) (k : Nat) (z : L3) (h : (L.set i v)[k]? = some z) : (k = i ∧ i < L.length ∧ z = v) ∨ (k ≠ i ∧ L[k]? = some z) := by
  rw [List.getElem?_set] at h
  split at h
  · rename_i e
    split at h
    · exact .inl ⟨e.symm, by omega, by simpa using h.symm⟩
    · cases h
  · exact .inr ⟨fun e => by omega, h⟩
/-- A lease's time is set anew; its number and its device stay. -/
theorem Good.set_ {L : List L3} (hg : Good L) {i : Nat} {x : L3} (hi : L[i]? = some x) (h0 : 0 < x.2.2) {u : Int} (hu : 0 ≤ u ∧ u ≤ 1099512676352) : Good (L.set i (x.1, x.2.1, u)) := by
  refine ⟨by simpa using hg.len, fun k z hk => ?_, fun a b y z ha hb hy hz he => ?_⟩
  · rcases get_set L i _ k z hk with ⟨rfl, _, rfl⟩ | ⟨_, hk⟩
    · have := hg.ent k x hi
      exact ⟨this.1, this.2.1, this.2.2.1, hu.1, hu.2⟩
    · exact hg.ent k z hk
  · rcases get_set L i _ a y ha with ⟨hai, _, rfl⟩ | ⟨hai, ha⟩ <;> rcases get_set L i _ b z hb with ⟨hbi, _, rfl⟩ | ⟨hbi, hb⟩
    · exact hai.trans hbi.symm
    · exact hai.trans (hg.one i b x z hi hb h0 hz he)
    · exact (hg.one a i y x ha hi hy h0 he).trans hbi.symm
    · exact hg.one a b y z ha hb hy hz he
theorem ofL_set_pos {L : List L3} (hg : Good L) {i : Nat} {x : L3} (hi : L[i]? = some x) (h0 : 0 < x.2.2) {u : Int} (hu : 0 < u ∧ u ≤ 1099512676352) (d : Int) : ofL (L.set i (x.1, x.2.1, u)) d = if d = x.2.1 then some (x.1, x.2.1, u) else ofL L d := by
  have hg2 := hg.set_ hi h0 (u := u) ⟨by omega, hu.2⟩
  have hil : i < L.length := (List.getElem?_eq_some_iff.1 hi).1
  split
  · rename_i e
    exact (ofL_iff hg2).2 ⟨i, by rw [List.getElem?_set]; simp [hil], e.symm, hu.1⟩
  · rename_i e
    cases h : ofL L d with
    | none =>
      refine ofL_none.2 fun k z hk hz hd => ?_
      rcases get_set L i _ k z hk with ⟨rfl, _, rfl⟩ | ⟨_, hk⟩
      · exact e hd.symm
      · exact ofL_none.1 h k z hk hz hd
    | some y =>
      obtain ⟨j, hj, hd, hy⟩ := ofL_some h
      refine (ofL_iff hg2).2 ⟨j, ?_, hd, hy⟩
      rw [List.getElem?_set, if_neg (by rintro rfl; rw [hi] at hj; cases hj; exact e hd.symm)]
      exact hj
theorem ofL_set_zero {L : List L3} (hg : Good L) {i : Nat} {x : L3} (hi : L[i]? = some x) (h0 : 0 < x.2.2) (d : Int) : ofL (L.set i (x.1, x.2.1, 0)) d = if d = x.2.1 then none else ofL L d := by
  have hg2 := hg.set_ hi h0 (u := 0) ⟨by omega, by omega⟩
  split
  · rename_i e
    refine ofL_none.2 fun k z hk hz hd => ?_
    rcases get_set L i _ k z hk with ⟨rfl, _, rfl⟩ | ⟨hne, hk⟩
    · simp at hz
    · exact hne (hg.one k i z x hk hi hz h0 (hd.trans e))
  · rename_i e
    cases h : ofL L d with
    | none =>
      refine ofL_none.2 fun k z hk hz hd => ?_
      rcases get_set L i _ k z hk with ⟨rfl, _, rfl⟩ | ⟨_, hk⟩
      · simp at hz
      · exact ofL_none.1 h k z hk hz hd
    | some y =>
      obtain ⟨j, hj, hd, hy⟩ := ofL_some h
      refine (ofL_iff hg2).2 ⟨j, ?_, hd, hy⟩
      rw [List.getElem?_set, if_neg (by rintro rfl; rw [hi] at hj; cases hj; exact e hd.symm)]
      exact hj
/-- A number's lease, where there is one. -/
theorem atN_get {L : List L3} {n : Int} (h1 : 1 ≤ n) (h2 : n ≤ L.length) : L[n.toNat - 1]? = some (atN L n) := by
  unfold atN
  have h : n.toNat - 1 < L.length := by omega
  rw [List.getD_eq_getElem?_getD, List.getElem?_eq_getElem h]
  rfl
theorem ofL_atN {L : List L3} (hg : Good L) {d : Int} {x : L3} (h : ofL L d = some x) : 1 ≤ x.1 ∧ x.1 ≤ L.length ∧ atN L x.1 = x ∧ x.2.1 = d ∧ 0 < x.2.2 := by
  obtain ⟨i, hi, hd, h0⟩ := ofL_some h
  have he := (hg.ent i x hi).1
  have hil : i < L.length := (List.getElem?_eq_some_iff.1 hi).1
  refine ⟨by omega, by omega, ?_, hd, h0⟩
  have e : x.1.toNat - 1 = i := by omega
  unfold atN
  rw [e, List.getD_eq_getElem?_getD, hi]
  rfl

def okNow (now : Int) : Prop := 0 ≤ now ∧ now ≤ 1099511627776
def okLife (life : Int) : Prop := 1 ≤ life ∧ life ≤ 1048576
def okDev (d : Int) : Prop := 1 ≤ d ∧ d ≤ 4096
instance (n : Int) : Decidable (okNow n) := by unfold okNow; infer_instance
instance (n : Int) : Decidable (okLife n) := by unfold okLife; infer_instance
instance (n : Int) : Decidable (okDev n) := by unfold okDev; infer_instance
/-- Is there an open lease of a number? -/
def openN (L : List L3) (n : Int) : Prop := 1 ≤ n ∧ n ≤ L.length ∧ 0 < (atN L n).2.2
instance (L : List L3) (n : Int) : Decidable (openN L n) := by unfold openN; infer_instance
def grantL (L : List L3) (d now life : Int) : List L3 × L3 × Int :=
  if ¬ (okDev d ∧ okNow now ∧ okLife life) then (L, z3, 1)
  else if (ofL L d).isSome then (L, z3, 5)
  else if 20000 ≤ L.length then (L, z3, 3)
  else (L ++ [((L.length : Int) + 1, d, now + life)], ((L.length : Int) + 1, d, now + life), 0)
def renewL (L : List L3) (n now life : Int) : List L3 × L3 × Int :=
  if ¬ (okNow now ∧ okLife life) then (L, z3, 1)
  else if ¬ openN L n then (L, z3, 4)
  else if (atN L n).2.2 ≤ now then (L, z3, 9)
  else (L.set (n.toNat - 1) ((atN L n).1, (atN L n).2.1, max (atN L n).2.2 (now + life)), ((atN L n).1, (atN L n).2.1, max (atN L n).2.2 (now + life)), 0)
def endL (L : List L3) (n : Int) : List L3 × Int :=
  if ¬ openN L n then (L, 4) else (L.set (n.toNat - 1) ((atN L n).1, (atN L n).2.1, 0), 0)
def overB (now : Int) (x : L3) : Bool := decide (0 < x.2.2) && decide (x.2.2 ≤ now)
def overL (now : Int) (x : L3) : L3 := if overB now x then (x.1, x.2.1, 0) else x
def expireL (L : List L3) (now : Int) : List L3 × List L3 × Int :=
  if ¬ okNow now then (L, [], 1) else (L.map (overL now), L.filter (overB now), 0)
def ofD (L : List L3) (d : Int) : L3 × Bool := match ofL L d with | none => (z3, false) | some x => (x, true)
def atD (L : List L3) (n : Int) : L3 × Int := if 1 ≤ n ∧ n ≤ L.length then (atN L n, 0) else (z3, 4)
theorem grantL_good {L : List L3} (hg : Good L) (d now life : Int) : Good (grantL L d now life).1 := by
  unfold grantL
  split
  · exact hg
  · rename_i h; split
    · exact hg
    · rename_i h2; split
      · exact hg
      · have h3 : okDev d ∧ okNow now ∧ okLife life := by simpa using h
        obtain ⟨h4, h5, h6⟩ := h3
        unfold okNow at h5; unfold okLife at h6
        exact hg.append (by omega) h4 ⟨by omega, by omega⟩ (fun _ => by simpa using h2)
theorem renewL_good {L : List L3} (hg : Good L) (n now life : Int) : Good (renewL L n now life).1 := by
  unfold renewL
  split
  · exact hg
  · rename_i h; split
    · exact hg
    · rename_i h2; split
      · exact hg
      · have h3 : okNow now ∧ okLife life := by simpa using h
        have h4 : openN L n := by simpa using h2
        obtain ⟨h5, h6⟩ := h3
        unfold okNow at h5; unfold okLife at h6
        have hge := atN_get h4.1 h4.2.1
        have he := hg.ent _ _ hge
        refine hg.set_ hge h4.2.2 ⟨by omega, by omega⟩
theorem endL_good {L : List L3} (hg : Good L) (n : Int) : Good (endL L n).1 := by
  unfold endL
  split
  · exact hg
  · rename_i h2
    have h4 : openN L n := by simpa using h2
    exact hg.set_ (atN_get h4.1 h4.2.1) h4.2.2 ⟨by omega, by omega⟩
theorem overL_fst (now : Int) (x : L3) : (overL now x).1 = x.1 ∧ (overL now x).2.1 = x.2.1 ∧ ((overL now x).2.2 = x.2.2 ∨ (overL now x).2.2 = 0) := by
  unfold overL
  split <;> simp
theorem expireL_good {L : List L3} (hg : Good L) (now : Int) : Good (expireL L now).1 := by
  unfold expireL
  split
  · exact hg
  · have key : ∀ (k : Nat) (z : L3), (L.map (overL now))[k]? = some z → ∃ y, L[k]? = some y ∧ z = overL now y := by
      intro k z hk
      rw [List.getElem?_map] at hk
      obtain ⟨y, hy, rfl⟩ := Option.map_eq_some_iff.1 hk
      exact ⟨y, hy, rfl⟩
    refine ⟨by simpa using hg.len, fun k z hk => ?_, fun a b y z ha hb hy hz he => ?_⟩
    · obtain ⟨y, hy, rfl⟩ := key k z hk
      have h1 := hg.ent k y hy
      have h2 := overL_fst now y
      omega
    · obtain ⟨y, hy2, rfl⟩ := key a y ha
      obtain ⟨z, hz2, rfl⟩ := key b z hb
      have h1 := overL_fst now y
      have h2 := overL_fst now z
      exact hg.one a b y z hy2 hz2 (by omega) (by omega) (by omega)
/-- A step: what, a number, a moment, a life. -/
abbrev Stp := Int × Int × Int × Int
def stepL (L : List L3) (s : Stp) : List L3 :=
  if s.1 = 0 then (grantL L s.2.1 s.2.2.1 s.2.2.2).1
  else if s.1 = 1 then (renewL L s.2.1 s.2.2.1 s.2.2.2).1
  else if s.1 = 2 then (endL L s.2.1).1
  else if s.1 = 3 then (expireL L s.2.2.1).1
  else L
theorem stepL_good {L : List L3} (hg : Good L) (s : Stp) : Good (stepL L s) := by
  unfold stepL
  split
  · exact grantL_good hg _ _ _
  split
  · exact renewL_good hg _ _ _
  split
  · exact endL_good hg _
  split
  · exact expireL_good hg _
  exact hg
/-- The leases behind some rounds of Expire. -/
def expL (L : List L3) (now : Int) (i : Nat) : List L3 := (L.take i).map (overL now) ++ L.drop i
theorem expL_zero (L : List L3) (now : Int) : expL L now 0 = L := by simp [expL]
theorem expL_all (L : List L3) (now : Int) : expL L now L.length = L.map (overL now) := by simp [expL]
theorem expL_len (L : List L3) (now : Int) (i : Nat) : (expL L now i).length = L.length := by
  unfold expL
  rw [List.length_append, List.length_map, List.length_take, List.length_drop]
  omega
theorem expL_get (L : List L3) (now : Int) (i : Nat) (h : i < L.length) : (expL L now i).getD i z3 = L.getD i z3 := by
  unfold expL
  rw [List.getD_eq_getElem?_getD, List.getElem?_append_right (by simp; omega), List.length_map, List.length_take, Nat.min_eq_left (by omega), Nat.sub_self, List.getElem?_drop, List.getD_eq_getElem?_getD]
  rfl
theorem expL_next (L : List L3) (now : Int) (i : Nat) (h : i < L.length) : expL L now (i + 1) = (expL L now i).set i (overL now (L.getD i z3)) := by
  unfold expL
  have e1 : L.getD i z3 = L[i] := by rw [List.getD_eq_getElem?_getD, List.getElem?_eq_getElem h]; rfl
  have hl : ((L.take i).map (overL now)).length = i := by simp; omega
  rw [List.take_succ_eq_append_getElem h, List.map_append, e1, List.set_append_right _ _ (by omega), hl, Nat.sub_self, List.drop_eq_getElem_cons h, List.set_cons_zero]
  simp
theorem filter_next (L : List L3) (p : L3 → Bool) (i : Nat) (h : i < L.length) : (L.take (i + 1)).filter p = (L.take i).filter p ++ (if p (L.getD i z3) then [L.getD i z3] else []) := by
  have e1 : L.getD i z3 = L[i] := by rw [List.getD_eq_getElem?_getD, List.getElem?_eq_getElem h]; rfl
  rw [List.take_succ_eq_append_getElem h, List.filter_append, e1]
  congr 1
  simp [List.filter_cons]
/-- A round of Expire that ends a lease. -/
theorem expL_end {L : List L3} {now : Int} {i : Nat} (h : i < L.length) (ho : overB now (L.getD i z3) = true) : endL (expL L now i) ((i : Int) + 1) = (expL L now (i + 1), 0) := by
  have hlen := expL_len L now i
  have hget := expL_get L now i h
  have e : ((i : Int) + 1).toNat - 1 = i := by omega
  have hat : atN (expL L now i) ((i : Int) + 1) = L.getD i z3 := by unfold atN; rw [e, hget]
  have ho2 : 0 < (L.getD i z3).2.2 := by
    unfold overB at ho
    simp only [Bool.and_eq_true, decide_eq_true_eq] at ho
    exact ho.1
  unfold endL
  rw [if_neg (by simp only [Decidable.not_not]; exact ⟨by omega, by omega, by rw [hat]; exact ho2⟩), hat, e, expL_next L now i h]
  unfold overL
  rw [if_pos ho]
theorem expL_stay {L : List L3} {now : Int} {i : Nat} (h : i < L.length) (ho : overB now (L.getD i z3) = false) : expL L now (i + 1) = expL L now i := by
  rw [expL_next L now i h]
  unfold overL
  rw [if_neg (by rw [ho]; simp), ← expL_get L now i h]
  apply List.ext_getElem?
  intro j
  rw [List.getElem?_set]
  split
  · rename_i e
    subst e
    rw [expL_len, if_pos h, List.getD_eq_getElem?_getD, List.getElem?_eq_getElem (by rw [expL_len]; exact h)]
    rfl
  · rfl
end Go.Proofs.Ytbmpglchifnelaa
