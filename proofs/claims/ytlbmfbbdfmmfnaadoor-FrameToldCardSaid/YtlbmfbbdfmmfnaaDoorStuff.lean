/- The contracts of slices.Clone at bytes, of frame.runs and of frame.Stuff: the iterator yields the runs, the loop over it stuffs them: for all bytes. -/
import Derived.Test.YtlbmfbbdfmmfnaaDoorRuns
import Derived.Test.YtlbmfbbdfmmfnaaDoorShelf
import Derived.Test.YtlbmfbbdfmmfnaaDoorWWords
import Derived.Test.YtlbmfbbdfmmfnaaDoorWLast
import Derived.Test.YtlbmfbbdfmmfnaaDoorWMore
import Derived.Test.YtlbmfbbdfmmfnaaDoorWRepsOne
import Derived.RangeFuncNested
import Derived.RangeFuncBound
import Derived.RangeFuncCalls
import Derived.RangeFuncLeaves
import Derived.RangeFuncBox
import Derived.Shelf.Abstract
import Derived.WalkKit
import Derived.WalkSpells
import Derived.OwnWalkIn
import Derived.TacticsInMore
import Derived.LoopNIn
import Derived.LoopIn
import Derived.Outline
namespace Go.Proofs.YtlbmfbbdfmmfnaaDoor
open Go.RowKit Go.Shelf Go.Proofs.YtlbmfbbdfmmfnaaDoorW.PrintWords Go.Proofs.YtlbmfbbdfmmfnaaDoorW.PrintLast Go.Proofs.YtlbmfbbdfmmfnaaDoorW.PrintMore
set_option linter.unusedVariables false
set_option linter.unusedSimpArgs false
attribute [local go_sem] Oper.semAt_some max2_int min2_int max_two min_two max_three min_three max_four min_four

theorem byteInfo : (Tryd.prog.info? 5).map (fun i => (i.zero, i.size, i.bytes)) = some (some (.int .u8 0), 1, 1) := by kernel_rfl

set_option maxHeartbeats 800000 in
set_option maxRecDepth 100000 in
/-- slices.Clone at bytes. -/
theorem clone_calls (A0 : Option Addr) (c0 : Nat) (l0 : List Int) (w : World) (hr0 : Kd.C (Kd.int .u8) w A0 l0.length l0) (hl : l0.length < 140737488355328) :
    Calls Tryd.prog 37 #[.slice A0 l0.length c0] w fun e w' => ∃ v0_ : Value, e = .returned (v0_) ∧ Kd.R (Kd.int .u8) 5 w' w.heap.size (fun _ => True) v0_ l0 ∧ Below w.heap.size w w' := by
  cases A0 with
  | none =>
    obtain rfl : l0 = [] := by
      apply List.eq_nil_of_length_eq_zero
      rcases Nat.eq_zero_or_pos l0.length with h | h
      · exact h
      · obtain ⟨ad, h, _⟩ := hr0.2.2 h
        cases h
    have he := fun W => Lib.run_eql_slice_nil (P := Tryd.prog) (w := W) (t := 23) (e := 5) (a := none) (n := 0) (c := c0) (n' := 0) (c' := 0) Tryd.underlying23
    clear hr0
    go_enter Tryd.func37, Tryd.ntmps37
    go_wp2
    go_ret
    exact ⟨_, rfl, Kd.R_nil _ _ _ _ _, Below.refl _ _⟩
  | some ad =>
    have he := fun W => Lib.run_eql_slice_nil (P := Tryd.prog) (w := W) (t := 23) (e := 5) (a := some ad) (n := l0.length) (c := c0) (n' := 0) (c' := 0) Tryd.underlying23
    simp only [Option.isNone_some] at he
    have HR0 := Aside0.mk hr0
    have HB := Aside0.mk (Below.refl w.heap.size w)
    clear hr0
    go_enter Tryd.func37, Tryd.ntmps37
    go_wp2_with (first
      | ((with_reducible refine gate_dst (N := 5) rfl ?_); refine Kd.R_lit (Kd.int .u8) _ 5 ?hg (N := 5) ?hd (xs := ([] : List Int)) (inner := []) (ok := fun _ => True) (okp := fun _ => True) ?hr ?hp (fun _ hk => hk) trivial (Below.refl _ _) (Nat.le_refl _) (by simp) ?_; (case hd => rfl); (case hg => rfl); (case hr => first | (go_simp; done) | (go_simp; rfl)); (case hp => exact (Reps.none _ _)); intro v145 w9 ho10 hb hg_ hnew_; clear hg_ hnew_; have n0_ := Aside0.mk (Kd.R_lower ho10 (below_size HB.out)); have n1_ := Aside0.mk (below_step HB.out hb); clear HB; have HO1 := n0_; have HB := n1_; clear n0_ n1_; clear hb ho10; obtain ⟨Av1, cv1, ev1⟩ := Kd.R_slice HO1.out; subst ev1)
      | ((with_reducible refine gate_builtin (b := .append) (xs := #[.tmp 5, .tmp 6]) rfl ?_); at_builtin; refine Kd.R_append_rows (Kd.int .u8) (w0 := w) w.heap.size rfl (.tmp 5) (.tmp 6) 23 5 (.int .u8 0) 1 rfl Tryd.underlying23 byteInfo rfl (by decide) (by omega) _ [] l0 _ _ _ (fun _ => True) (fun _ => False) rfl rfl HO1.out (Kd.C_below HR0.out HB.out) (fun _ _ h => h) (fun _ h => h.elim) (fun _ _ => trivial) HB.out HB.out.size (by simp; omega) ?_; intro v2 w2 ho hb hg hat; have HO2 := Aside0.mk ho; clear HB HO1; have HB := Aside0.mk hb; clear ho hb hg hat))
    go_ret
    exact ⟨_, rfl, by have h := HO2.out; rw [List.nil_append] at h; exact Kd.R_mono h (fun _ _ => trivial), HB.out⟩

def lenOf : Value → Nat
  | .slice _ n _ => n
  | _ => 0
theorem add_block (ad : Addr) (m : Nat) : (ad.add m).block = ad.block := by unfold Addr.add; split <;> rfl
/-- 's[m:]' of a slice that is not nil: it stays in its block. -/
theorem drop_at {P : Program} (t e : TypeId) (kl : IntKind) {i : TypeInfo} (ht : P.underlying t = some (.slice e)) (hi : P.info? e = some i) (hsz : i.size = 1) (ad : Addr) (c m : Nat) (xs : List Int) (hm : m ≤ xs.length) (hc : xs.length ≤ c) :
    ∃ ad' : Addr, ad'.block = ad.block ∧ (∀ W : World, (Instr.slice t (.slice (some ad) xs.length c) (some (.int kl (m : Int))) none none).run P W = .ok (.slice (some ad') (xs.drop m).length (c - m)) W) ∧
      ∀ (w : World), Kd.C (Kd.int .u8) w (some ad) xs.length xs → Kd.C (Kd.int .u8) w (some ad') (xs.drop m).length (xs.drop m) := by
  have hl : (xs.drop m).length = xs.length - m := List.length_drop
  have hel : P.elem t = e := by simp [Program.elem, ht]
  have hu : P.underlying t = some (.slice (P.elem t)) := by rw [hel]; exact ht
  refine ⟨if c = m then ad else ad.add m, by split; rfl; exact add_block ad m, fun W => ?_, fun w h => ?_⟩
  · rw [run_slice_l W t (some ad) xs.length c hu kl (m : Int) (Int.natCast_nonneg _) (by omega), hel, hl]
    simp [sizeOf, typeInfo, hi, hsz, sliced, Result.andThen]
    split <;> rfl
  · have h2 := (Kd.reads_of_C (enc := Value.int .u8) (d := (0 : Int)) (h1 := fun _ => rfl) h).drop_ (c := c) m hm hc
    have h3 := Kd.C_of_reads (h1 := fun _ => rfl) h2
    rw [hl]
    have e : (if c = m then some ad else (some ad).map (·.add m)) = some (if c = m then ad else ad.add m) := by split <;> rfl
    rw [e] at h3
    exact h3

/-- What is yielded: a run, where it lies. -/
structure Yld where
  A : Option Addr
  c : Nat
  r : List Int
def Yld.val (x : Yld) : Value := .slice x.A x.r.length x.c
/-- The run lies in memory, in blocks from base on, below M. -/
def Yld.Lies (base M : Nat) (x : Yld) (W : World) : Prop :=
  Kd.C (Kd.int .u8) W x.A x.r.length x.r ∧ x.r.length ≤ x.c ∧ x.r.length ≤ 254 ∧ (∃ ad, x.A = some ad ∧ base ≤ ad.block ∧ ad.block < M)

/-- A row that is read lies in one block: where that block stays, it reads on. -/
theorem C_keep {W W' : World} {ad : Addr} {n g : Nat} {xs : List Int} (h : Kd.C (Kd.int .u8) W (some ad) n xs) (hg : ad.block = g) (hk : W'.heap[g]? = W.heap[g]?) : Kd.C (Kd.int .u8) W' (some ad) n xs := by
  have h1 := Kd.reads_of_C (enc := Value.int .u8) (d := (0 : Int)) (h1 := fun _ => rfl) h
  refine Kd.C_of_reads (d := (0 : Int)) (h1 := fun _ => rfl) ⟨h1.1, h1.2.1, fun hn => ?_⟩
  obtain ⟨ad2, e, hc⟩ := h1.2.2 hn
  cases e
  exact ⟨ad, rfl, fun j hj => (World.cell?_of_block (by rw [add_block, hg]; exact hk)).trans (hc j hj)⟩

set_option maxHeartbeats 2000000 in
set_option maxRecDepth 100000 in
/-- The iterator: it yields the runs of the bytes and a nought, one behind the other, as long as a round goes on; what it reads lies in blocks of its own. -/
theorem runs1_in (n l Bn : Nat) (A0 : Option Addr) (c0 : Nat) (b : List Int) (W : World) (hn : 2 ≤ n) (hBn : W.cell? ⟨Bn, 0, none⟩ = some (.slice A0 b.length c0)) (hr0 : Kd.C (Kd.int .u8) W A0 b.length b) (hl : b.length + 1 < 140737488355328) (hby : ∀ c ∈ b, 0 ≤ c ∧ c ≤ 255)
    (J : Nat → List Yld → World → Prop)
    (hJ0 : ∀ Wa, Below W.heap.size W Wa → J Wa.heap.size [] Wa)
    (hJb : ∀ M pre Wa Wb, J M pre Wa → Below Wa.heap.size Wa Wb → J M pre Wb)
    (hY : ∀ M pre (x : Yld) rest W1, J M pre W1 → x.Lies W.heap.size M W1 → runsL (b.length + 1) (b ++ [0]) = pre.map Yld.r ++ x.r :: rest → YieldAt Fence.wide (n - 1) Tryd.prog l #[x.val] W1 fun e W' =>
      e = .returned (.bool true) ∧ J M (pre ++ [x]) W' ∧ W1.heap.size ≤ W'.heap.size ∧ ∀ k, W.heap.size ≤ k → k < M → W'.heap[k]? = W1.heap[k]?) :
    CallsIn Fence.wide n Tryd.prog 36 #[.func (.yield l) #[] #[], .pointer (some ⟨Bn, 0, none⟩)] W fun e W' => (∃ v, e = .returned v) ∧ ∃ M xs, xs.map Yld.r = runsL (b.length + 1) (b ++ [0]) ∧ J M xs W' := by
  have HR0 := Aside0.mk hr0
  have HB := Aside0.mk (Below.refl W.heap.size W)
  have HJ0 := Aside0.mk hJ0
  have HJB := Aside0.mk hJb
  have HY := Aside0.mk hY
  have HBY := Aside0.mk hby
  obtain ⟨z0, hz0⟩ : ∃ z, z = ([0] : List Int) := ⟨_, rfl⟩
  have HZ0 := Aside0.mk hz0
  have hzl : z0.length = 1 := by rw [hz0]; rfl
  have HZL := Aside0.mk hzl
  clear hr0 hJ0 hJb hY hby hz0 hzl
  refine callsIn_wide.2 ?_
  go_enter Tryd.func36, Tryd.ntmps36
  go_wp2_with (first
    | (go_at_call 37; refine (clone_calls A0 c0 b _ HR0.out (by omega)).mono ?_; rintro e w1 ⟨v0, rfl, hR, hb⟩; have HO1 := Aside0.mk hR; clear hR HB; have HB := Aside0.mk hb; clear hb; obtain ⟨Av1, cv1, ev1⟩ := Kd.R_slice HO1.out; subst ev1)
    | ((with_reducible refine gate_dst (N := 9) rfl ?_); refine Kd.R_lit (Kd.int .u8) _ 5 ?hg (N := 9) ?hd (xs := ([0] : List Int)) (inner := [.int .u8 0]) (ok := fun _ => True) (okp := fun _ => True) ?hr ?hp (fun _ hk => hk) trivial (Below.refl _ _) (Nat.le_refl _) (by simp) ?_; (case hd => rfl); (case hg => rfl); (case hr => first | (go_simp; done) | (go_simp; rfl)); (case hp => exact (Reps.one (show Kd.M (Kd.int .u8) _ _ _ 0 [.int .u8 0] from rfl) (Reps.none _ _))); intro v125 w8 ho9 hb hg_ hnew_; clear hg_ hnew_; rw [← HZ0.out] at ho9; have n0_ := Aside0.mk (Kd.R_elder' HO1.out (Kd.R_base ho9) hb); have n1_ := Aside0.mk (Kd.R_lower (Kd.R_new' ho9 (Kd.R_lt HO1.out)) HB.out.size); have n2_ := Aside0.mk (below_step HB.out hb); clear HO1 HB; have HO2 := n0_; have HO3 := n1_; have HB := n2_; clear n0_ n1_ n2_; clear hb ho9; obtain ⟨Ao11, co11, eo11⟩ := Kd.R_slice HO3.out; subst eo11)
    | ((with_reducible refine gate_builtin (b := .append) (xs := #[.tmp 8, .tmp 9]) rfl ?_); at_builtin; refine Kd.R_append_rows (Kd.int .u8) (w0 := W) W.heap.size rfl (.tmp 8) (.tmp 9) 23 5 (.int .u8 0) 1 rfl Tryd.underlying23 byteInfo rfl (by decide) (by omega) _ b z0 _ _ _ (fun k_ => some k_ ≠ (.slice Ao11 z0.length co11 : Value).ownBlock) (fun _ => False) rfl rfl (Kd.R_mono HO2.out (fun _ hk => hk.2)) (Kd.R_reads' HO3.out).2.2 (fun _ _ h => h) (fun _ h => h.elim) (fun k_ hk => Kd.fresh' (Kd.R_lt HO3.out) k_ hk) HB.out HB.out.size (by have := HZL.out; omega) ?_; intro v128 w10 ho hb hg hat; clear HB HO2; have HB := Aside0.mk hb; have HO4 := Aside0.mk ho; clear ho hb hg hat))
  obtain ⟨q0, hq0⟩ : ∃ q, b ++ z0 = q := ⟨_, rfl⟩
  rw [hq0] at HO4
  obtain ⟨Av4, cv4, ev4⟩ := Kd.R_slice HO4.out
  subst ev4
  obtain ⟨_, hcap, hC⟩ := Kd.R_reads' HO4.out
  rw [HZ0.out] at hq0
  have hq0l : q0.length = b.length + 1 := by rw [← hq0]; simp
  obtain ⟨gA, rfl⟩ : ∃ gA, Av4 = some gA := by
    obtain ⟨ad, h, _⟩ := hC.2.2 (by omega)
    exact ⟨ad, h⟩
  have hg1 : W.heap.size ≤ gA.block := Kd.R_base HO4.out gA.block rfl
  have hg2 : gA.block < w10.heap.size := Kd.R_lt HO4.out gA.block rfl
  have HQ0 := Aside0.mk hq0
  have HQL := Aside0.mk hq0l
  have HCAP := Aside0.mk hcap
  have HC := Aside0.mk hC
  have HJ := Aside0.mk (HJ0.out w10 HB.out)
  clear hq0 hq0l hcap hC HO4 HJ0 HR0 hBn HZL HZ0
  go_loopw [3] (fun v3 wr => ∃ (pre : List Yld) (q : List Int) (ad : Addr) (c : Nat), v3 = .slice (some ad) q.length c ∧ q.length ≤ c ∧ ad.block = gA.block ∧ Kd.C (Kd.int .u8) wr (some ad) q.length q ∧ J w10.heap.size pre wr ∧ EndsZero q ∧
      (∀ c ∈ q, 0 ≤ c ∧ c ≤ 255) ∧ q.length ≤ b.length + 1 ∧ runsL (b.length + 1) (b ++ [0]) = pre.map Yld.r ++ runsL q.length q ∧ w10.heap.size ≤ wr.heap.size) (fun v3 wr => lenOf v3)
  case atStart =>
    refine ⟨[], q0, gA, cv4, rfl, HCAP.out, rfl, HC.out, HJ.out, ?_, ?_, by have := HQL.out; omega, ?_, Nat.le_refl _⟩
    · rw [← HQ0.out]; exact .inr ⟨b, rfl⟩
    · rw [← HQ0.out]
      intro c hc
      rcases List.mem_append.1 hc with h | h
      · exact HBY.out c h
      · simp at h; omega
    · rw [HQL.out, HQ0.out]; rfl
  case round =>
    obtain ⟨pre, q, ad, c, rfl, hqc, hblk, hqC, hJ, hez, hqb, hql, hruns, hsz⟩ := hrel
    clear HJ HC HCAP
    have HQC := Aside0.mk hqC
    have HJw := Aside0.mk hJ
    have HEZ := Aside0.mk hez
    have HQB := Aside0.mk hqb
    have HRU := Aside0.mk hruns
    have HBL := Aside0.mk hblk
    clear hqC hJ hez hqb hruns hblk
    by_cases hq : q = []
    · subst hq
      simp only [List.length_nil]
      go_wp2
      go_end0
      exact ⟨⟨_, rfl⟩, _, pre, by have h := HRU.out; rw [h]; simp [runsL_nil, runsL], HJw.out⟩
    · have hpos : 0 < q.length := List.length_pos_iff.2 hq
      have hn0 := cutN_le q
      have HIX := Aside0.mk (head_index q HQB.out HEZ.out hq)
      have HST := Aside0.mk (runsL_step q hq)
      have HNX := Aside0.mk (cutNext_le HEZ.out hq)
      have HQ := Aside0.mk hq
      clear hq
      obtain ⟨m, hm⟩ : ∃ m : Nat, m = min 254 q.length := ⟨_, rfl⟩
      have hm1 : (if (q.length : Int) < 254 then (q.length : Int) else 254) = (m : Int) := by split <;> omega
      have hm2 : (if q.length < 254 then (q.length : Int) else 254) = (m : Int) := by split <;> omega
      have hml : m ≤ q.length := by omega
      have htk : q.take m = q.take 254 := by
        rcases Nat.lt_or_ge 254 q.length with h | h
        · congr 1; omega
        · rw [List.take_of_length_le (by omega), List.take_of_length_le h]
      obtain ⟨i09, hi09, _, hsz9, _⟩ := info_parts byteInfo
      obtain ⟨hcut, hA, hCc⟩ := print_take_of (P := Tryd.prog) (Value.int .u8) 0 23 5 .i64 Tryd.underlying23 hi09 hsz9 (some ad) c q (m : Int) (by omega) (by omega) hqc
      rw [Int.toNat_natCast] at hcut hA hCc
      have hrd := hA wr (Kd.reads_of_C HQC.out)
      obtain ⟨hd, hhd⟩ : ∃ hd, q.take m = hd := ⟨_, rfl⟩
      rw [hhd] at hcut hrd htk
      have hHI : Calls Tryd.prog 38 #[.slice (some ad) hd.length c, .int .u8 0] wr fun e w' => e = .returned (.int .i64 (Lib.indexByte (Lib.bytesOf (q.take 254)) 0)) ∧ w' = wr := by
        refine (Tryd.bytes_IndexByte_at ad hd.length c hd 0 wr rfl ?_).mono ?_
        · intro i hi
          obtain ⟨ad2, e2, h2⟩ := hrd.2.2 (by omega)
          cases e2
          exact h2 i hi
        · rintro e w' ⟨rfl, rfl⟩
          exact ⟨by rw [htk]; rfl, rfl⟩
      have HHI := Aside0.mk hHI
      have HHL := Aside0.mk (show hd.length = min 254 q.length by rw [← hhd, List.length_take]; omega)
      clear hm hA hrd hHI hhd htk hCc hi09 hsz9
      obtain ⟨nv, hnv⟩ : ∃ nv : Nat, cutN q = nv := ⟨_, rfl⟩
      obtain ⟨xv, hxv⟩ : ∃ xv : Nat, cutNext q = xv := ⟨_, rfl⟩
      have hx0 : xv = if nv < 254 then nv + 1 else 254 := by rw [← hxv, ← hnv]; rfl
      have hNX := HNX.out
      have hST := HST.out
      rw [hnv, hxv] at hST
      rw [hxv] at hNX
      rw [hnv] at hn0
      obtain ⟨i09, hi09, _, hsz9, _⟩ := info_parts byteInfo
      obtain ⟨hcut2, hA2, hC2⟩ := print_take_of (P := Tryd.prog) (Value.int .u8) 0 23 5 .i64 Tryd.underlying23 hi09 hsz9 (some ad) c q (nv : Int) (by omega) (by omega) hqc
      rw [Int.toNat_natCast] at hcut2 hA2 hC2
      obtain ⟨ad3, hb3, hcut3, hC3⟩ := drop_at (P := Tryd.prog) 23 5 .i64 Tryd.underlying23 hi09 hsz9 ad c xv q hNX hqc
      have hrl : (q.take nv).length = nv := by rw [List.length_take]; omega
      have HX := Aside0.mk (show Yld.Lies W.heap.size w10.heap.size ⟨some ad, c, q.take nv⟩ wr from ⟨Kd.C_of_reads (h1 := fun _ => rfl) (hA2 wr (Kd.reads_of_C HQC.out)), hC2, by show (q.take nv).length ≤ 254; omega, ad, rfl, by rw [HBL.out]; exact hg1, by rw [HBL.out]; exact hg2⟩)
      have HYX := Aside0.mk (HY.out w10.heap.size pre ⟨some ad, c, q.take nv⟩ (runsL (q.drop xv).length (q.drop xv)) wr HJw.out HX.out (by rw [HRU.out, hST]))
      have hdl : (q.drop xv).length = q.length - xv := List.length_drop
      have HDL := Aside0.mk hdl
      have HRL := Aside0.mk hrl
      have hxp : 0 < xv := by rw [hx0]; split <;> omega
      have HX0 := Aside0.mk hx0
      have HSTx := Aside0.mk hST
      have HC3 := Aside0.mk hC3
      have HB3 := Aside0.mk hb3
      rw [hnv] at HIX
      clear hA2 hC2 hdl hi09 hsz9 hnv hxv hx0 hST hC3 hb3 HST HNX hrl
      rcases HIX.out with ⟨hlt, hix⟩ | ⟨heq, hix⟩
      · have hxe : xv = nv + 1 := by rw [HX0.out, if_pos hlt]
        subst hxe
        rw [hix] at HHI
        clear hix
        go_upto_region 7 with (go_at_call 38; refine HHI.out.mono ?_; rintro e w' ⟨rfl, rfl⟩)
        refine (wpIn_wide (n := n)).1 ?_
        obtain ⟨fn, tmps, assign, body, hy, hR⟩ := HYX.out
        dsimp only [Yld.val] at hy
        rw [HRL.out] at hy
        gi_wp2
        refine ⟨fun _ => by omega, hR.mono ?_⟩
        rintro e W3 ⟨rfl, hJ3, hsz3, hk3⟩
        have HJ3 := Aside0.mk hJ3
        have HK3 := Aside0.mk hk3
        clear hJ3 hk3
        have e1 : ((nv + 1 : Nat) : Int) = (nv : Int) + 1 := by omega
        rw [HDL.out, e1] at hcut3
        clear e1
        gi_wp2
        go_wp2
        go_roundw
        case rel => exact ⟨pre ++ [⟨some ad, c, q.take nv⟩], q.drop (nv + 1), ad3, c - (nv + 1), by rw [HDL.out], by rw [HDL.out]; omega, by rw [HB3.out, HBL.out], HC3.out W3 (C_keep (g := gA.block) HQC.out HBL.out (HK3.out _ hg1 hg2)), HJ3.out, HEZ.out.drop _, fun c hc => HQB.out c (List.mem_of_mem_drop hc), by rw [HDL.out]; omega, by rw [HRU.out, HSTx.out]; simp, by omega⟩
        case measure => simp [lenOf]; omega
      · have hxe : xv = 254 := by rw [HX0.out, if_neg (by omega)]
        subst hxe
        obtain rfl : nv = 254 := heq
        rw [hix] at HHI
        clear hix
        have e1 : ((254 : Nat) : Int) = 254 := rfl
        rw [e1] at hcut2 hcut3
        rw [HDL.out] at hcut3
        clear e1
        rw [show hd.length = 254 by rw [HHL.out]; omega] at HHI hcut
        go_upto_region 7 with (go_at_call 38; refine HHI.out.mono ?_; rintro e w' ⟨rfl, rfl⟩)
        refine (wpIn_wide (n := n)).1 ?_
        obtain ⟨fn, tmps, assign, body, hy, hR⟩ := HYX.out
        dsimp only [Yld.val] at hy
        rw [HRL.out] at hy
        gi_wp2
        refine ⟨fun _ => by omega, hR.mono ?_⟩
        rintro e W3 ⟨rfl, hJ3, hsz3, hk3⟩
        have HJ3 := Aside0.mk hJ3
        have HK3 := Aside0.mk hk3
        clear hJ3 hk3
        gi_wp2
        go_wp2
        go_roundw
        case rel => exact ⟨pre ++ [⟨some ad, c, q.take 254⟩], q.drop 254, ad3, c - 254, by rw [HDL.out], by rw [HDL.out]; omega, by rw [HB3.out, HBL.out], HC3.out W3 (C_keep (g := gA.block) HQC.out HBL.out (HK3.out _ hg1 hg2)), HJ3.out, HEZ.out.drop _, fun c hc => HQB.out c (List.mem_of_mem_drop hc), by rw [HDL.out]; omega, by rw [HRU.out, HSTx.out]; simp, by omega⟩
        case measure => simp [lenOf]; omega
end Go.Proofs.YtlbmfbbdfmmfnaaDoor
