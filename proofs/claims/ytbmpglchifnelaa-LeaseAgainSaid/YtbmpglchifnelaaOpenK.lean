/- Arguments with depth, opened: slices of whole numbers, of slices, of structs and arrays, read as lists. -/
import Derived.Test.YtbmpglchifnelaaWWords
import Derived.Deep.Slices
import Derived.OpenShut
import Derived.ChangeSlices
namespace Go.Proofs.Ytbmpglchifnelaa
open Go.RowKit Go.Deep Go.Proofs.YtbmpglchifnelaaW.PrintWords
section
variable {H : Type} {enc : TypeId × Value → H} {P : Program} {w : World} {held : Bool} {α β γ δ : Type}
/-- What is read at a type is told by a kind. -/
def Opens (enc : TypeId × Value → H) (P : Program) (w : World) (held : Bool) (t : TypeId) (d : Kd α) (Q : α → Prop) : Prop := ∀ (fuel : Nat) (cs : List Value) (x : DataW H × List MemPlace), DataW.trod enc P w 0 (fun _ => true) held fuel t cs = some x → ∃ y, d.K w y cs ∧ Q y
theorem opens_int {t : TypeId} {k : IntKind} (ht : P.underlying t = some (.int k)) : Opens enc P w held t (Kd.int k) (fun n => (Lit.int k n).wf = true) := fun fuel cs x h => by
  obtain ⟨n, rfl, _, hw⟩ := DataW.trod_int ht h
  exact ⟨n, rfl, hw⟩
theorem opens_row {t e : TypeId} {d : Kd α} {Q : α → Prop} (ht : P.underlying t = some (.slice e)) (hs : P.cellsOf e = d.sz) (he : Opens enc P w held e d Q) {fuel : Nat} {cs : List Value} {x : DataW H × List MemPlace} (h : DataW.trod enc P w 0 (fun _ => true) held fuel t cs = some x) :
    ∃ (A : Option Addr) (c : Nat) (L : List α), cs = [.slice A L.length c] ∧ L.length ≤ c ∧ d.C w A L.length L ∧ ∀ y ∈ L, Q y := by
  rcases open_slice ht h with ⟨rfl, _⟩ | ⟨a, len, cap, m, n, D, Pl, rfl, hb, hl, hm, hmm, rfl, hx⟩
  · exact ⟨none, 0, [], rfl, Nat.le_refl _, Kd.C_nil d w, by simp⟩
  · simp only [if_true] at hmm
    have each : ∀ i, i < len → ∃ y : α, ∃ c, c.length = d.sz ∧ d.K w y c ∧ Q y ∧ ∀ j u, c[j]? = some u → w.cell? (a.add (i * d.sz + j)) = some u := by
      intro i hi
      obtain ⟨cs', h1, h2⟩ := hx i (by omega)
      obtain ⟨y, hK, hQ⟩ := he n cs' _ h2
      obtain ⟨_, hlen, hc⟩ := World.cells?_some h1
      refine ⟨y, cs', by rw [hlen, hs], hK, hQ, fun j u hu => ?_⟩
      have hj : j < P.cellsOf e := by rw [← hlen]; exact (List.getElem?_eq_some_iff.1 hu).1
      have := hc j hj
      rw [hu, hs, Go.Deep.add_add] at this
      exact this
    rcases Nat.eq_zero_or_pos len with h0 | h0
    · subst h0
      exact ⟨some a, cap, [], rfl, Nat.zero_le _, ⟨rfl, by simp, fun h => absurd h (Nat.lt_irrefl 0)⟩, by simp⟩
    · obtain ⟨y0, _⟩ := each 0 h0
      haveI : Inhabited α := ⟨y0⟩
      obtain ⟨f, hf⟩ := choose_lt each
      have hL : ((List.range len).map f).length = len := by simp
      refine ⟨some a, cap, (List.range len).map f, by rw [hL], by rw [hL]; exact hl, ?_, ?_⟩
      · refine ⟨rfl, by rw [hL]; unfold maxLen at hm; omega, fun _ => ⟨a, rfl, fun j p hp => ?_⟩⟩
        have hj : j < len := by have := (List.getElem?_eq_some_iff.1 hp).1; omega
        rw [List.getElem?_map, List.getElem?_range hj] at hp
        have e := Option.some.inj hp
        obtain ⟨c, h1, h2, _, h3⟩ := hf j hj
        exact ⟨c, h1, e ▸ h2, h3⟩
      · intro y hy
        obtain ⟨j, hj, rfl⟩ := List.mem_map.1 hy
        obtain ⟨c, _, _, hq, _⟩ := hf j (List.mem_range.1 hj)
        exact hq
theorem opens_slice {t e : TypeId} {d : Kd α} {Q : α → Prop} (ht : P.underlying t = some (.slice e)) (hs : P.cellsOf e = d.sz) (he : Opens enc P w held e d Q) : Opens enc P w held t (Kd.slice e d) (fun L => ∀ y ∈ L, Q y) := fun fuel cs x h => by
  obtain ⟨A, c, L, rfl, h1, h2, h3⟩ := opens_row ht hs he h
  exact ⟨L, ⟨A, c, rfl, h1, h2⟩, h3⟩
theorem split2 (cs : List Value) (a b : Nat) (h : cs.length = a + b) : cs = (cs.drop 0).take a ++ (cs.drop a).take b := by
  rw [List.drop_zero, List.take_of_length_le (l := cs.drop a) (by rw [List.length_drop]; omega), List.take_append_drop]
theorem split3 (cs : List Value) (a b c : Nat) (h : cs.length = a + b + c) : cs = (cs.drop 0).take a ++ ((cs.drop a).take b ++ (cs.drop (a + b)).take c) := by
  have h1 := split2 (cs.drop a) b c (by rw [List.length_drop]; omega)
  rw [List.drop_zero, List.drop_drop] at h1
  rw [← h1, List.drop_zero, List.take_append_drop]
theorem split4 (cs : List Value) (a b c d : Nat) (h : cs.length = a + b + c + d) : cs = (cs.drop 0).take a ++ ((cs.drop a).take b ++ ((cs.drop (a + b)).take c ++ (cs.drop (a + b + c)).take d)) := by
  have h1 := split3 (cs.drop a) b c d (by rw [List.length_drop]; omega)
  rw [List.drop_zero, List.drop_drop, List.drop_drop, ← Nat.add_assoc] at h1
  rw [← h1, List.drop_zero, List.take_append_drop]
theorem opens_array2 {t e : TypeId} {d : Kd α} {Q : α → Prop} (ht : P.underlying t = some (.array 2 e)) (hs : P.cellsOf e = d.sz) (hc : P.cellsOf t = d.sz + d.sz) (he : Opens enc P w held e d Q) : Opens enc P w held t (Kd.pair d d) (fun y => Q y.1 ∧ Q y.2) := fun fuel cs x h => by
  obtain ⟨xs, m, rfl, _, hl, hxl, hx⟩ := DataW.trod_array ht h
  have h0 := hx 0 (by omega)
  have h1 := hx 1 (by omega)
  rw [List.getElem?_eq_getElem (by omega)] at h0 h1
  obtain ⟨y0, k0, q0⟩ := he _ _ _ h0
  obtain ⟨y1, k1, q1⟩ := he _ _ _ h1
  rw [hs, Nat.zero_mul] at k0
  rw [hs, Nat.one_mul] at k1
  exact ⟨(y0, y1), ⟨_, _, split2 cs d.sz d.sz (hl.trans hc), k0, k1⟩, q0, q1⟩
theorem opens_struct3 {t : TypeId} {f0 f1 f2 : Field} {a : Kd α} {b : Kd β} {c : Kd γ} {Qa : α → Prop} {Qb : β → Prop} {Qc : γ → Prop} (ht : P.underlying t = some (.struct #[f0, f1, f2])) (hc : P.cellsOf t = a.sz + b.sz + c.sz)
    (s0 : P.cellsOf f0.type = a.sz) (s1 : P.cellsOf f1.type = b.sz) (s2 : P.cellsOf f2.type = c.sz) (o0 : f0.offset = 0) (o1 : f1.offset = a.sz) (o2 : f2.offset = a.sz + b.sz)
    (h0 : Opens enc P w held f0.type a Qa) (h1 : Opens enc P w held f1.type b Qb) (h2 : Opens enc P w held f2.type c Qc) : Opens enc P w held t (Kd.pair a (Kd.pair b c)) (fun y => Qa y.1 ∧ Qb y.2.1 ∧ Qc y.2.2) := fun fuel cs x h => by
  obtain ⟨xs, n, rfl, _, hl, hxl, hx⟩ := DataW.trod_struct ht h
  have hxl' : xs.length = 3 := hxl
  have e0 := hx 0 f0 rfl
  have e1 := hx 1 f1 rfl
  have e2 := hx 2 f2 rfl
  rw [List.getElem?_eq_getElem (by omega)] at e0 e1 e2
  obtain ⟨y0, k0, q0⟩ := h0 _ _ _ e0
  obtain ⟨y1, k1, q1⟩ := h1 _ _ _ e1
  obtain ⟨y2, k2, q2⟩ := h2 _ _ _ e2
  rw [s0, o0] at k0
  rw [s1, o1] at k1
  rw [s2, o2] at k2
  exact ⟨(y0, y1, y2), ⟨_, _, split3 cs a.sz b.sz c.sz (hl.trans hc), k0, _, _, rfl, k1, k2⟩, q0, q1, q2⟩
theorem opens_struct4 {t : TypeId} {f0 f1 f2 f3 : Field} {a : Kd α} {b : Kd β} {c : Kd γ} {d : Kd δ} {Qa : α → Prop} {Qb : β → Prop} {Qc : γ → Prop} {Qd : δ → Prop} (ht : P.underlying t = some (.struct #[f0, f1, f2, f3])) (hc : P.cellsOf t = a.sz + b.sz + c.sz + d.sz)
    (s0 : P.cellsOf f0.type = a.sz) (s1 : P.cellsOf f1.type = b.sz) (s2 : P.cellsOf f2.type = c.sz) (s3 : P.cellsOf f3.type = d.sz) (o0 : f0.offset = 0) (o1 : f1.offset = a.sz) (o2 : f2.offset = a.sz + b.sz) (o3 : f3.offset = a.sz + b.sz + c.sz)
    (h0 : Opens enc P w held f0.type a Qa) (h1 : Opens enc P w held f1.type b Qb) (h2 : Opens enc P w held f2.type c Qc) (h3 : Opens enc P w held f3.type d Qd) : Opens enc P w held t (Kd.pair a (Kd.pair b (Kd.pair c d))) (fun y => Qa y.1 ∧ Qb y.2.1 ∧ Qc y.2.2.1 ∧ Qd y.2.2.2) := fun fuel cs x h => by
  obtain ⟨xs, n, rfl, _, hl, hxl, hx⟩ := DataW.trod_struct ht h
  have hxl' : xs.length = 4 := hxl
  have e0 := hx 0 f0 rfl
  have e1 := hx 1 f1 rfl
  have e2 := hx 2 f2 rfl
  have e3 := hx 3 f3 rfl
  rw [List.getElem?_eq_getElem (by omega)] at e0 e1 e2 e3
  obtain ⟨y0, k0, q0⟩ := h0 _ _ _ e0
  obtain ⟨y1, k1, q1⟩ := h1 _ _ _ e1
  obtain ⟨y2, k2, q2⟩ := h2 _ _ _ e2
  obtain ⟨y3, k3, q3⟩ := h3 _ _ _ e3
  rw [s0, o0] at k0
  rw [s1, o1] at k1
  rw [s2, o2] at k2
  rw [s3, o3] at k3
  exact ⟨(y0, y1, y2, y3), ⟨_, _, split4 cs a.sz b.sz c.sz d.sz (hl.trans hc), k0, _, _, rfl, k1, _, _, rfl, k2, k3⟩, q0, q1, q2, q3⟩
theorem okWide_array' {n : Nat} {e t : TypeId} {r : Reach} {base : Nat} {v : Value} (ht : P.underlying t = some (.array n e)) (h : Value.okWide P w r base t v) : ∃ cs, v = .agg cs ∧ cs.size = P.cellsOf t := by
  simp only [Value.okWide, ht] at h
  obtain ⟨cs, h1, h2, _⟩ := h
  exact ⟨cs, h1, h2⟩
/-- A pair of whole numbers among the arguments, opened. -/
theorem opens_pair {t e : TypeId} {k : IntKind} {r : Reach} {base : Nat} (ht : P.underlying t = some (.array 2 e)) (he : P.underlying e = some (.int k)) (hs : P.cellsOf e = 1) (hc : P.cellsOf t = 2) {v : Value} {dt : DataW H} {ps : List MemPlace} (hv : Value.okWide P w r base t v) (h : DataW.Trod enc P w 0 (fun _ => true) held t v dt ps) :
    ∃ x y : Int, v = .agg #[.int k x, .int k y] ∧ (Lit.int k x).wf = true ∧ (Lit.int k y).wf = true := by
  obtain ⟨cs, rfl, _⟩ := okWide_array' ht hv
  obtain ⟨fuel, hf⟩ := h
  obtain ⟨y, ⟨c0, c1, hcs, h0, h1⟩, q0, q1⟩ := opens_array2 (d := Kd.int k) ht hs hc (opens_int he) fuel _ _ hf
  have e0 : c0 = [.int k y.1] := h0
  have e1 : c1 = [.int k y.2] := h1
  subst e0 e1
  refine ⟨y.1, y.2, ?_, q0, q1⟩
  have e2 : cs.toList = [.int k y.1, .int k y.2] := by simpa [Value.cells] using hcs
  rw [← Array.toArray_toList (xs := cs), e2]
/-- A slice among the arguments, opened. -/
theorem opens_arg {t e : TypeId} {d : Kd α} {Q : α → Prop} (ht : P.underlying t = some (.slice e)) (hs : P.cellsOf e = d.sz) (he : Opens enc P w held e d Q) {a : Option Addr} {len cap : Nat} {dt : DataW H} {ps : List MemPlace} (h : DataW.Trod enc P w 0 (fun _ => true) held t (.slice a len cap) dt ps) :
    ∃ L : List α, len = L.length ∧ d.C w a L.length L ∧ (∀ y ∈ L, Q y) ∧ L.length ≤ cap := by
  obtain ⟨fuel, hf⟩ := h
  obtain ⟨A, c, L, hcs, h1, h2, h3⟩ := opens_row ht hs he hf
  simp [Value.cells] at hcs
  obtain ⟨rfl, rfl, rfl⟩ := hcs
  exact ⟨L, rfl, h2, h3, h1⟩
end
end Go.Proofs.Ytbmpglchifnelaa
