/- What a call keeps: all blocks but those of a set; the words in which what a call leaves is told. -/
import Derived.Test.YtbmpglchifnelaaWWords
import Derived.Test.YtbmpglchifnelaaWLast
import Derived.Test.YtbmpglchifnelaaWMore
namespace Go.Proofs.Ytbmpglchifnelaa
open Go.RowKit Go.Proofs.YtbmpglchifnelaaW.PrintWords Go.Proofs.YtbmpglchifnelaaW.PrintLast Go.Proofs.YtbmpglchifnelaaW.PrintMore
structure Keep (w W : World) (S : Nat → Prop) : Prop where
  os : W.os = w.os
  tape : W.tape = w.tape
  output : W.output = w.output
  size : w.heap.size ≤ W.heap.size
  block : ∀ k, k < w.heap.size → ¬ S k → W.heap[k]? = w.heap[k]?
section
variable {w W W2 : World} {S S2 : Nat → Prop}
theorem Keep.refl (w : World) (S : Nat → Prop) : Keep w w S := ⟨rfl, rfl, rfl, Nat.le_refl _, fun _ _ _ => rfl⟩
theorem Keep.of_below (h : Below w.heap.size w W) (S : Nat → Prop) : Keep w W S := ⟨h.os, h.tape, h.output, h.size, fun k hk _ => h.block k hk⟩
theorem Keep.mono (h : Keep w W S) (hs : ∀ k, k < w.heap.size → S k → S2 k) : Keep w W S2 := ⟨h.os, h.tape, h.output, h.size, fun k hk hn => h.block k hk (fun h2 => hn (hs k hk h2))⟩
theorem Keep.then_ (h : Keep w W S) (k : Keep W W2 S2) (hs : ∀ k, S2 k → S k ∨ w.heap.size ≤ k) : Keep w W2 S :=
  ⟨k.os.trans h.os, k.tape.trans h.tape, k.output.trans h.output, Nat.le_trans h.size k.size, fun i hi hn => (k.block i (Nat.lt_of_lt_of_le hi h.size) (fun h2 => (hs i h2).elim hn (fun h3 => by omega))).trans (h.block i hi hn)⟩
theorem Keep.of_grown {row : Option Nat} (hg : w.grownBy W row) : Keep w W (fun k => some k = row) := ⟨hg.os, hg.tape, hg.output, hg.size, fun k hk hn => hg.block k hk hn⟩
theorem Keep.set (w : World) (p : Addr) (u : Value) : Keep w (w.setCell p u) (fun k => k = p.block) :=
  ⟨rfl, rfl, rfl, by simp [World.setCell], fun i _ hn => Below.heap_setCell w p u i hn⟩
theorem Keep.drew (h : Keep w W S) : Keep w W.drew S := ⟨h.os, h.tape, h.output, h.size, h.block⟩
theorem Keep.drewN (h : Keep w W S) (m : Nat) : Keep w (W.drewN m) S := ⟨h.os, h.tape, h.output, h.size, h.block⟩
theorem Keep.then_below (h : Keep w W S) (hb : Below W.heap.size W W2) : Keep w W2 S := h.then_ (Keep.of_below hb (fun _ => False)) (fun _ hk => hk.elim)
theorem Keep.below {B : Nat} (h : Keep w W S) (hs : ∀ k, S k → B ≤ k) (hB : B ≤ w.heap.size) : Below B w W :=
  ⟨h.os, h.tape, h.output, h.size, fun k hk => h.block k (by omega) (fun h2 => by have := hs k h2; omega)⟩
theorem Keep.blk {g : Nat} {o : Obj} (h : Keep w W S) (hb : w.heap[g]? = some o) (hg : ¬ S g) : W.heap[g]? = some o := (h.block g (blk_lt hb) hg).trans hb
theorem Keep.cell {a : Addr} {v : Value} (h : Keep w W S) (hc : w.cell? a = some v) (hg : ¬ S a.block) : W.cell? a = some v :=
  (World.cell?_of_block (h.block _ (World.block_lt_of_cell? w a hc) hg)).trans hc
theorem Keep.R {α : Type} {d : Kd α} {e base : Nat} {ok : Nat → Prop} {v : Value} {xs : List α} (h : Keep w W S) (hr : d.R e w base ok v xs) (hne : ∀ k, ok k → ¬ S k) : d.R e W base ok v xs := Kd.R_step hr (fun k ho hlt => h.block k hlt (hne k ho))
theorem Keep.M {α : Type} {d : Kd α} {base : Nat} {ok : Nat → Prop} {x : α} {cs : List Value} (h : Keep w W S) (hr : d.M w base ok x cs) (hne : ∀ k, ok k → ¬ S k) : d.M W base ok x cs := Kd.M_step hr (fun k ho hlt => h.block k hlt (hne k ho))
end
theorem news_new (w : World) (cs : List Value) (t : TypeId) : ∀ (j : Nat) (u : Value), cs[j]? = some u → ((w.alloc (.cells cs.toArray t)).drew).cell? ((⟨w.heap.size, 0, none⟩ : Addr).add j) = some u := by
  intro j u h
  have h2 : ∀ (j : Nat) (u : Value), cs[j]? = some u → (w.alloc (.cells cs.toArray t)).cell? ((⟨w.heap.size, 0, none⟩ : Addr).add j) = some u := by simpa using World.news_of_block (cs := cs.toArray) (t := t) (fr := (0, 0)) (heap_alloc_new w (.cells cs.toArray t))
  exact h2 j u h
theorem size_after (w : World) (o : Obj) : (w.alloc o).drew.heap.size = w.heap.size + 1 := by simp [World.drew]
theorem grown_after {w w1 : World} {r : Option Nat} (o : Obj) (h : ((w.alloc o).drew).grownBy w1 r) : w.grownBy w1 r := by
  have e := size_after w o
  have hs := h.size
  exact ⟨h.os, h.tape, h.output, by omega, fun k hk hr => (h.block k (by omega) hr).trans (Below.heap_alloc w o k hk)⟩
/-- append of one element, as one step of a region that draws its order: the element's cells lie at an address. -/
theorem step_append_K {P : Program} {ops : Array Oper} {o : Oper} {a : Act} {K : Act → World → Prop} {Q : Exit → Act → World → Prop} {E : Prop} {α : Type} (d : Kd α) {W : World} (base : Nat) (hg : o.guard = none) (s x : Operand) (t e : TypeId) (z : Value) (bytes : Nat)
    (ho : o.op = .call { callee := .builtin .append, args := #[s, x], argTypes := #[t, t] })
    (ht : P.underlying t = some (.slice e)) (hinfo : (P.info? e).map (fun i => (i.zero, i.size, i.bytes)) = some (some z, d.sz, bytes)) (hz : z.cells.size = d.sz) (hs0 : 0 < d.sz) (hb0 : 0 < bytes)
    (v : Value) (xs : List α) (p : α) (cs : List Value) (ok okp : Nat → Prop) (ad : Addr) (c : Nat) (hs : a.eval s = v) (hx : a.eval x = .slice (some ad) 1 c) (hcs : ∀ j u, cs[j]? = some u → W.cell? (ad.add j) = some u)
    (hp : d.M W base okp p cs) (hokp : ∀ k, okp k → ok k ∧ some k ≠ v.ownBlock) (hfresh : ∀ k, W.heap.size ≤ k → ok k)
    (HO : d.R e W base ok v xs) (hbase : base ≤ W.heap.size) (hl : (xs.length + 1) * bytes ≤ 140737488355328)
    (h : ∀ v1 w1, d.R e w1 base ok v1 (xs ++ [p]) → W.grownBy w1 v.ownBlock → (v1.ownBlock = v.ownBlock ∨ ∃ b, v1.ownBlock = some b ∧ W.heap.size ≤ b) → K (a.put o.dst v1) w1) :
    if Region.wanted o (yielded ops a.tmps) = true then Oper.wp P o a W K Q else E := by
  have hw : Region.wanted o (yielded ops a.tmps) = true := by simp [Region.wanted, hg]
  rw [if_pos hw]
  obtain ⟨i0, hi, hzz⟩ := Option.map_eq_some_iff.1 hinfo
  simp only [Prod.mk.injEq] at hzz
  obtain ⟨hz0, hz1, hz2⟩ := hzz
  obtain ⟨h0, inner, hown, hr⟩ := HO
  have hlen : xs.length + 1 ≤ 140737488355328 := Nat.le_trans (Nat.le_mul_of_pos_right _ hb0) hl
  obtain ⟨v1, w1, hrun, hown1, hg1, _, hat⟩ := run_append_own_at (P := P) W base t o.type e i0 z d.sz bytes ht hi hz0 hz1 hz2 hz hs0 v xs.length inner hown ad 1 c cs (by rw [d.K_len (d.K_of_M hp)]; simp) hcs (d.K_one (d.K_of_M hp)) (by simp only [maxLen]; omega) hl hbase
  unfold Oper.wp execOp
  simp only [ho, resolve, invoke, builtin, Sem.run_bind, Sem.run_pure, Result.andThen_ok, List.map_toArray, List.map_cons, List.map_nil, hs, hx, hrun]
  have hat' : v1.ownBlock = v.ownBlock ∨ ∃ b, v1.ownBlock = some b ∧ W.heap.size ≤ b := by
    rcases hat with hat | hat
    · exact .inl hat
    · exact .inr ⟨_, hat, Nat.le_refl _⟩
  exact h v1 w1 (Kd.R_appended h0 hr hp hokp hfresh hown1 hg1 hat') hg1 hat'
end Go.Proofs.Ytbmpglchifnelaa
