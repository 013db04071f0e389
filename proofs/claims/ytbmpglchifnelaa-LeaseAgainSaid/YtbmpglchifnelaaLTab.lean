/- The words in which tables of leases are told: the rows, the maps, what a call keeps. -/
import Derived.Test.YtbmpglchifnelaaProg
import Derived.Test.YtbmpglchifnelaaKeep
import Derived.Test.YtbmpglchifnelaaLMath
import Derived.Test.YtbmpglchifnelaaWWords
import Derived.Test.YtbmpglchifnelaaWLast
import Derived.Test.YtbmpglchifnelaaWMore
import Derived.Test.YtbmpglchifnelaaWRepsOne
import Derived.Maps.OwnSet
import Derived.WalkKit
import Derived.WalkSpells
import Derived.OwnWalkIn
import Derived.TacticsInMore
import Derived.LoopNIn
import Derived.LoopIn
import Derived.Outline
import Derived.WalkMore
namespace Go.Proofs.Ytbmpglchifnelaa
open Go.RowKit Go.Maps Go.Proofs.YtbmpglchifnelaaW.PrintWords Go.Proofs.YtbmpglchifnelaaW.PrintLast Go.Proofs.YtbmpglchifnelaaW.PrintMore
set_option linter.unusedVariables false
set_option linter.unusedSimpArgs false

def leaseK : Kd L3 := Kd.pair (Kd.int .i64) (Kd.pair (Kd.int .i64) (Kd.int .i64))
def cells3 (x : L3) : List Value := [.int .i64 x.1, .int .i64 x.2.1, .int .i64 x.2.2]
theorem lease_M (w : World) (base : Nat) (ok : Nat → Prop) (x : L3) : leaseK.M w base ok x (cells3 x) := ⟨[.int .i64 x.1], [.int .i64 x.2.1, .int .i64 x.2.2], rfl, rfl, [.int .i64 x.2.1], [.int .i64 x.2.2], rfl, rfl, rfl⟩
theorem lease_K {w : World} {x : L3} {cs : List Value} (h : leaseK.K w x cs) : cs = cells3 x := by
  obtain ⟨c0, c1, rfl, h0, c2, c3, rfl, h1, h2⟩ := h
  have e0 : c0 = [.int .i64 x.1] := h0
  have e1 : c2 = [.int .i64 x.2.1] := h1
  have e2 : c3 = [.int .i64 x.2.2] := h2
  subst e0 e1 e2
  rfl
theorem leaseInfo : (Try.prog.info? 27).map (fun i => (i.zero, i.size, i.bytes)) = some (some (.agg #[.int .i64 0, .int .i64 0, .int .i64 0]), 3, 24) := by kernel_rfl
theorem keyed3 : Keyed Try.prog 3 := int_keyed Try.underlying3
theorem zero3_run (w : World) : (zeroValue 3).run Try.prog w = .ok (.int .i64 0) w := by kernel_rfl
/-- The cells of a row's lease. -/
theorem lease_at {w : World} {A : Option Addr} {n : Nat} {L : List L3} (h : leaseK.C w A n L) (i : Nat) (hi : i < n) : ∃ ad, A = some ad ∧ w.cell? (ad.add (i * 3)) = some (.int .i64 (L.getD i z3).1) ∧ w.cell? (ad.add (i * 3 + 1)) = some (.int .i64 (L.getD i z3).2.1) ∧ w.cell? (ad.add (i * 3 + 2)) = some (.int .i64 (L.getD i z3).2.2) := by
  obtain ⟨ad, c, hA, hl, hK, hc⟩ := Kd.C_get h z3 (i : Int) (by omega) (by omega)
  have hs : leaseK.sz = 3 := rfl
  have e := lease_K hK
  simp only [Int.toNat_natCast, hs] at hc e
  subst e
  exact ⟨ad, hA, hc 0 _ rfl, hc 1 _ rfl, hc 2 _ rfl⟩
def i64 (n : Int) : DataW Unit := .lit (.int .i64 n)
theorem i64_inj {a b : Int} (h : i64 a = i64 b) : a = b := by simpa [i64] using h
/-- What a map of open leases says. -/
def MapIs (D : DataW Unit) (L : List L3) : Prop := ∀ d : Int, Maps.has D (.int .i64 d) = (ofL L d).isSome ∧ D.atKey (.int .i64 d) (i64 0) = i64 (((ofL L d).map (·.1)).getD 0)
theorem mapIs_nil : MapIs (.map []) [] := fun d => ⟨rfl, rfl⟩
theorem lit_ne {a b : Int} (h : a ≠ b) : (Lit.int .i64 a) ≠ (Lit.int .i64 b) := fun e => h (by injection e)
theorem mapIs_put {D : DataW Unit} {L : List L3} (hD : IsMap D) (h : MapIs D L) (x : L3) (hn : ofL L x.2.1 = none) (h0 : 0 < x.2.2) : MapIs (D.put (.int .i64 x.2.1) (i64 x.1)) (L ++ [x]) := by
  intro d
  rw [ofL_append]
  by_cases hd : d = x.2.1
  · subst hd
    rw [hn, if_pos ((isOf_iff _ _).2 ⟨rfl, h0⟩)]
    exact ⟨has_put_same hD (by trivial) _, atKey_put_same hD (by trivial) _ _⟩
  · have hf : ¬ isOf d x = true := fun e => hd ((isOf_iff _ _).1 e).1.symm
    rw [if_neg hf, Option.or_none, has_put_other (lit_ne hd), atKey_put_other (lit_ne hd)]
    exact h d
theorem mapIs_ended {D : DataW Unit} {L : List L3} (h : MapIs D L) (x : L3) (h0 : ¬ 0 < x.2.2) : MapIs D (L ++ [x]) := by
  intro d
  have hf : ¬ isOf d x = true := fun e => h0 ((isOf_iff _ _).1 e).2
  rw [ofL_append, if_neg hf, Option.or_none]
  exact h d
theorem mapIs_del {D : DataW Unit} {L : List L3} (hg : Good L) (h : MapIs D L) {i : Nat} {x : L3} (hi : L[i]? = some x) (h0 : 0 < x.2.2) : MapIs (D.del (.int .i64 x.2.1)) (L.set i (x.1, x.2.1, 0)) := by
  intro d
  rw [ofL_set_zero hg hi h0]
  by_cases hd : d = x.2.1
  · subst hd
    rw [if_pos rfl, has_del_same, atKey_del_same]
    exact ⟨rfl, rfl⟩
  · rw [if_neg hd, has_del_other (lit_ne hd), atKey_del_other (lit_ne hd)]
    exact h d
theorem mapIs_renew {D : DataW Unit} {L : List L3} (hg : Good L) (h : MapIs D L) {i : Nat} {x : L3} (hi : L[i]? = some x) (h0 : 0 < x.2.2) {u : Int} (hu : 0 < u ∧ u ≤ 1099512676352) : MapIs D (L.set i (x.1, x.2.1, u)) := by
  intro d
  rw [ofL_set_pos hg hi h0 hu]
  by_cases hd : d = x.2.1
  · subst hd
    have h1 := (ofL_iff hg).2 ⟨i, hi, rfl, h0⟩
    have h2 := h x.2.1
    rw [h1] at h2
    rw [if_pos rfl]
    exact h2
  · rw [if_neg hd]
    exact h d
/-- A table of leases, as the program has it. -/
structure TabAt (w : World) (base g : Nat) (rb : Option Nat) (m : Nat) (L : List L3) : Prop where
  good : Good L
  bg : base ≤ g
  bm : base ≤ m
  ex : ∃ (A : Option Addr) (c n : Nat) (D : DataW Unit), w.heap[g]? = some (.cells #[.slice A L.length c, .map (some m)] 60 (0, 0)) ∧ leaseK.R 27 w base (fun _ => True) (.slice A L.length c) L ∧ (Value.slice A L.length c).ownBlock = rb ∧ w.ownsMap Try.prog 3 (plainElem Try.prog 3) m n D ∧ n ≤ L.length ∧ MapIs D L
/-- A table of leases, as the reference has it. -/
structure RefAt (w : World) (base g : Nat) (rb : Option Nat) (L : List L3) : Prop where
  good : Good L
  bg : base ≤ g
  ex : ∃ (A : Option Addr) (c : Nat), w.heap[g]? = some (.cells #[.slice A L.length c] 50 (0, 0)) ∧ leaseK.R 27 w base (fun _ => True) (.slice A L.length c) L ∧ (Value.slice A L.length c).ownBlock = rb
theorem leaseE (q t : Nat) (ht : t ≠ 27 ) (h : q ∈ (27 : Nat) :: leaseK.E) : q ≠ t := by
  have : q = 27 := by simpa [leaseK, Kd.pair, Kd.int, Kd.scalar] using h
  omega
/-- A row that is no block of those that are written stays. -/
theorem lease_keep {w W : World} {S : Nat → Prop} {base e : Nat} {v : Value} {L : List L3} (hk : Keep w W S) (h : leaseK.R e w base (fun _ => True) v L) (hn : ∀ k, v.ownBlock = some k → ¬ S k) : leaseK.R e W base (fun _ => True) v L := by
  have h2 : leaseK.R e w base (fun k => v.ownBlock = some k) v L := by
    obtain ⟨_, inner, ho, hr⟩ := h
    refine ⟨fun k hk => hk, inner, ho, hr.imp_ (fun x cs hM => ?_)⟩
    rw [lease_K (leaseK.K_of_M hM)]
    exact lease_M _ _ _ _
  exact Kd.R_mono (hk.R h2 hn) (fun _ _ => trivial)
theorem map_keep {w W : World} {S : Nat → Prop} {m n : Nat} {D : DataW Unit} (hk : Keep w W S) (h : w.ownsMap Try.prog 3 (plainElem Try.prog 3) m n D) (hn : ¬ S m) : W.ownsMap Try.prog 3 (plainElem Try.prog 3) m n D := by
  obtain ⟨es, clock, hb, hr⟩ := h
  exact ⟨es, clock, hk.blk hb hn, hr⟩
theorem TabAt.keep {w W : World} {S : Nat → Prop} {base g m : Nat} {rb : Option Nat} {L : List L3} (h : TabAt w base g rb m L) (hk : Keep w W S) (hg : ¬ S g) (hr : ∀ k, rb = some k → ¬ S k) (hm : ¬ S m) : TabAt W base g rb m L := by
  obtain ⟨A, c, n, D, hb, hR, ho, hM, hn, hD⟩ := h.ex
  exact ⟨h.good, h.bg, h.bm, A, c, n, D, hk.blk hb hg, lease_keep hk hR (fun k e => hr k (ho.symm.trans e)), ho, map_keep hk hM hm, hn, hD⟩
theorem RefAt.keep {w W : World} {S : Nat → Prop} {base g : Nat} {rb : Option Nat} {L : List L3} (h : RefAt w base g rb L) (hk : Keep w W S) (hg : ¬ S g) (hr : ∀ k, rb = some k → ¬ S k) : RefAt W base g rb L := by
  obtain ⟨A, c, hb, hR, ho⟩ := h.ex
  exact ⟨h.good, h.bg, A, c, hk.blk hb hg, lease_keep hk hR (fun k e => hr k (ho.symm.trans e)), ho⟩
/-- What the calls on a table write. -/
def tabS (g : Nat) (rb : Option Nat) (m : Nat) (k : Nat) : Prop := k = g ∨ some k = rb ∨ k = m
def refS (g : Nat) (rb : Option Nat) (k : Nat) : Prop := k = g ∨ some k = rb
/-- The row stays where it was, or is new. -/
def Anew (w : World) (rb rb' : Option Nat) : Prop := rb' = rb ∨ ∀ k, rb' = some k → w.heap.size ≤ k
theorem Anew.refl (w : World) (rb : Option Nat) : Anew w rb rb := .inl rfl
theorem TabAt.lt {w : World} {base g m : Nat} {rb : Option Nat} {L : List L3} (h : TabAt w base g rb m L) : g < w.heap.size ∧ m < w.heap.size ∧ ∀ k, rb = some k → k < w.heap.size ∧ base ≤ k := by
  obtain ⟨A, c, n, D, hb, hR, ho, hM, hn, hD⟩ := h.ex
  exact ⟨blk_lt hb, hM.lt, fun k e => ⟨Kd.R_lt hR k (ho.trans e), Kd.R_base hR k (ho.trans e)⟩⟩
theorem RefAt.lt {w : World} {base g : Nat} {rb : Option Nat} {L : List L3} (h : RefAt w base g rb L) : g < w.heap.size ∧ ∀ k, rb = some k → k < w.heap.size ∧ base ≤ k := by
  obtain ⟨A, c, hb, hR, ho⟩ := h.ex
  exact ⟨blk_lt hb, fun k e => ⟨Kd.R_lt hR k (ho.trans e), Kd.R_base hR k (ho.trans e)⟩⟩
theorem cells_ne_map {w : World} {g m n : Nat} {D : DataW Unit} {cs : Array Value} {t : Nat} (hb : w.heap[g]? = some (.cells cs t (0, 0))) (hM : w.ownsMap Try.prog 3 (plainElem Try.prog 3) m n D) : g ≠ m := by
  rintro rfl
  obtain ⟨es, clock, h, _⟩ := hM
  rw [h] at hb
  cases hb
theorem R_ne_map {w : World} {m n base : Nat} {D : DataW Unit} {v : Value} {L : List L3} (hR : leaseK.R 27 w base (fun _ => True) v L) (hM : w.ownsMap Try.prog 3 (plainElem Try.prog 3) m n D) : v.ownBlock ≠ some m := by
  intro e
  obtain ⟨cells, hc⟩ := Kd.R_typed hR m e
  exact cells_ne_map hc hM rfl
theorem R_ne_blk {w : World} {g base t : Nat} {cs : Array Value} {v : Value} {L : List L3} (hR : leaseK.R 27 w base (fun _ => True) v L) (hb : w.heap[g]? = some (.cells cs t (0, 0))) (ht : t ≠ 27 ) : v.ownBlock ≠ some g := by
  intro e
  obtain ⟨cells, hc⟩ := Kd.R_typed hR g e
  have := hb.symm.trans hc
  cases this
  exact ht rfl
theorem tabAt_mk {w : World} {base g m n n0 c : Nat} {rb : Option Nat} {A : Option Addr} {D : DataW Unit} {L : List L3} (hgood : Good L) (hg : base ≤ g) (hm : base ≤ m) (hb : w.heap[g]? = some (.cells #[.slice A n0 c, .map (some m)] 60 (0, 0))) (hn0 : n0 = L.length)
    (hR : leaseK.R 27 w base (fun _ => True) (.slice A n0 c) L) (ho : (Value.slice A n0 c).ownBlock = rb) (hM : w.ownsMap Try.prog 3 (plainElem Try.prog 3) m n D) (hn : n ≤ L.length) (hD : MapIs D L) : TabAt w base g rb m L := by
  subst hn0
  exact ⟨hgood, hg, hm, A, c, n, D, hb, hR, ho, hM, hn, hD⟩
theorem refAt_mk {w : World} {base g n0 c : Nat} {rb : Option Nat} {A : Option Addr} {L : List L3} (hgood : Good L) (hg : base ≤ g) (hb : w.heap[g]? = some (.cells #[.slice A n0 c] 50 (0, 0))) (hn0 : n0 = L.length)
    (hR : leaseK.R 27 w base (fun _ => True) (.slice A n0 c) L) (ho : (Value.slice A n0 c).ownBlock = rb) : RefAt w base g rb L := by
  subst hn0
  exact ⟨hgood, hg, A, c, hb, hR, ho⟩
theorem tabS_ne {w : World} {base g m k : Nat} {rb : Option Nat} (h : g < w.heap.size ∧ m < w.heap.size ∧ ∀ k, rb = some k → k < w.heap.size ∧ base ≤ k) (hk : w.heap.size ≤ k) : ¬ tabS g rb m k := by
  rintro (e | e | e)
  · omega
  · have := h.2.2 k e.symm; omega
  · omega
theorem keep_three (w : World) (r : Nat) (a b c : Value) : Keep w (((w.setCell ⟨r, 0, none⟩ a).setCell ⟨r, 1, none⟩ b).setCell ⟨r, 2, none⟩ c) (fun k => k = r) :=
  ((Keep.set w ⟨r, 0, none⟩ a).then_ (Keep.set _ ⟨r, 1, none⟩ b) (fun k e => .inl e)).then_ (Keep.set _ ⟨r, 2, none⟩ c) (fun k e => .inl e)
/-- A lease of a row of the call's own: where it lies, what its cells hold. -/
theorem lease_cell {w : World} {base n c : Nat} {A : Option Addr} {L : List L3} (h : leaseK.R 27 w base (fun _ => True) (.slice A n c) L) (i : Nat) (hi : i < L.length) : ∃ gb, A = some ⟨gb, 0, none⟩ ∧ base ≤ gb ∧ w.cell? ⟨gb, i * 3, none⟩ = some (.int .i64 (L.getD i z3).1) ∧ w.cell? ⟨gb, i * 3 + 1, none⟩ = some (.int .i64 (L.getD i z3).2.1) ∧ w.cell? ⟨gb, i * 3 + 2, none⟩ = some (.int .i64 (L.getD i z3).2.2) ∧ ∀ j, w.frozen? ⟨gb, i * 3 + j, none⟩ = false := by
  obtain ⟨g, cap, e, h1, h2, _⟩ := Kd.R_form h (by omega)
  have hn := (Kd.R_reads' h).1
  subst hn
  have e2 : A = some ⟨g, 0, none⟩ := by injection e
  subst e2
  obtain ⟨cs, hl, hM, hc, hf⟩ := Kd.R_elem h z3 (i : Int) (by omega) (by omega)
  have e3 := lease_K (leaseK.K_of_M hM)
  have hs : leaseK.sz = 3 := rfl
  simp only [Int.toNat_natCast, hs] at hc hf e3
  subst e3
  exact ⟨g, rfl, h1, hc 0 _ rfl, hc 1 _ rfl, hc 2 _ rfl, hf⟩
/-- A lease's time is written. -/
theorem lease_until {w : World} {base n c gb : Nat} {L : List L3} (h : leaseK.R 27 w base (fun _ => True) (.slice (some ⟨gb, 0, none⟩) n c) L) (i : Nat) (hi : i < L.length) (u : Int) : leaseK.R 27 (w.setCell ⟨gb, i * 3 + 2, none⟩ (.int .i64 u)) base (fun _ => True) (.slice (some ⟨gb, 0, none⟩) n c) (L.set i ((L.getD i z3).1, (L.getD i z3).2.1, u)) := by
  have hn := (Kd.R_reads' h).1
  subst hn
  obtain ⟨cs, hl, hM, hc, hf⟩ := Kd.R_elem h z3 (i : Int) (by omega) (by omega)
  have e3 := lease_K (leaseK.K_of_M hM)
  have hs : leaseK.sz = 3 := rfl
  have h2 := (Kd.R_seg (okp := fun _ => False) h (i : Int) (by omega) (by omega) hl hc (seg := [.int .i64 u]) (j := 2) (by rw [hs]; simp) (x' := ((L.getD i z3).1, (L.getD i z3).2.1, u)) (by
    rw [e3]
    simp only [Int.toNat_natCast]
    exact lease_M _ _ _ ((L.getD i z3).1, (L.getD i z3).2.1, u)) (fun k hk => hk.elim)).1
  simp only [Int.toNat_natCast, hs] at h2
  exact h2
end Go.Proofs.Ytbmpglchifnelaa
