/- The plain law of FrameBack: what is stuffed has no nought, says the bytes, and is little longer; for all bytes. -/
import Derived.Test.YtlbmfbbdfmmfnaaPFramesx0
import Derived.Test.YtlbmfbbdfmmfnaaPFramesx1
import Derived.Lib.Bytes
namespace Go.Proofs.Ytlbmfbbdfmmfnaa.PFrames
open Go.RowKit Go.Proofs.YtlbmfbbdfmmfnaaW.PrintWords Go.Proofs.YtlbmfbbdfmmfnaaW.PrintLast Go.Proofs.YtlbmfbbdfmmfnaaW.PrintMore
set_option linter.unusedVariables false
set_option linter.unusedSimpArgs false
theorem fr_bytes {l : List Int} (h : ∀ x ∈ l, (Lit.int .u8 x).wf = true) : ∀ c ∈ l, 0 ≤ c ∧ c ≤ 255 := by
  intro c hc
  have := h c hc
  simp [Lit.wf, IntKind.min, IntKind.max, IntKind.bits, IntKind.signed] at this
  omega
theorem fr_bind {α β : Type} {a : Option α} {f : α → Option β} {x : α} {r : Option β} (h : a = some x) (k : f x = r) : a.bind f = r := by rw [h]; exact k
theorem fr_awake (k : Nat) : pennantlaw04_awake.f k = some true := by
  unfold pennantlaw04_awake.f
  refine fr_bind (x := [2, 7, 2, 8]) ?_ ?_
  · unfold frame_Stuff.f
    rw [if_pos ⟨by decide, by decide⟩]
    congr 1
  · rw [Lib.strOfNums_toList]
    rfl
theorem len_rel : ∀ (rs : List (List Int)), (∀ r ∈ rs, r.length ≤ 254) → ∃ g, (stuffOf rs).length = (unruns rs).length + g ∧ 254 * g ≤ (unruns rs).length ∧ (lastLen rs < 254 → 254 * g + 1 ≤ (unruns rs).length)
  | [], _ => ⟨0, rfl, by simp, fun h => by simp [lastLen] at h⟩
  | r :: rs, h => by
    obtain ⟨g, h1, h2, h3⟩ := len_rel rs (fun x hx => h x (List.mem_cons_of_mem _ hx))
    have hr := h r List.mem_cons_self
    have e1 : (stuffOf (r :: rs)).length = r.length + 1 + (stuffOf rs).length := by rw [stuffOf_cons]; simp; omega
    have e2 : (unruns (r :: rs)).length = (unrun r).length + (unruns rs).length := by simp [unruns]
    by_cases hs : r.length < 254
    · have e3 : (unrun r).length = r.length + 1 := by simp [unrun, hs]
      exact ⟨g, by omega, by omega, fun _ => by omega⟩
    · have e3 : (unrun r).length = 254 := by simp [unrun, hs]; omega
      refine ⟨g + 1, by omega, by omega, fun hl => ?_⟩
      by_cases hn : rs = []
      · subst hn
        simp [lastLen] at hl
        omega
      · have e : lastLen (r :: rs) = lastLen rs := by
          unfold lastLen
          rw [List.getLast?_cons_of_ne_nil hn]
        rw [e] at hl
        have := h3 hl
        omega
theorem stuffed_len (b : List Int) : b.length < (stuffed b).length ∧ (stuffed b).length ≤ b.length + 1 + b.length / 254 := by
  obtain ⟨h1, h2, h3, h4⟩ := runs_good (b.length + 1) (b ++ [0]) (by simp) (.inr ⟨_, rfl⟩)
  obtain ⟨g, e1, e2, e3⟩ := len_rel _ h2
  have e4 := e3 (h4 (by simp))
  rw [h3] at e1 e2 e4
  simp only [List.length_append, List.length_cons, List.length_nil] at e1 e2 e4
  have e5 : (stuffed b).length = b.length + (0 + 1) + g := e1
  omega
theorem stuffed_nz (b : List Int) : ∀ c ∈ stuffed b, c ≠ 0 := by
  obtain ⟨h1, h2, h3, h4⟩ := runs_good (b.length + 1) (b ++ [0]) (by simp) (.inr ⟨_, rfl⟩)
  intro c hc
  obtain ⟨r, hr, hc⟩ := List.mem_flatMap.1 hc
  rcases List.mem_cons.1 hc with rfl | hc
  · omega
  · rintro rfl
    exact h1 r hr hc
theorem back_loop (b : List Int) (hb : ∀ c ∈ b, 0 ≤ c ∧ c ≤ 255) (hl : b.length ≤ 20000) : ∀ (j n : Nat), n ≤ (stuffed b).length → (stuffed b).length - n ≤ j → pennantlaw04_FrameBack.l0 (j + 1) b (stuffed b) (n : Int) = some true
  | j, n, hn, hj => by
    have hlen := stuffed_len b
    have hd : b.length / 254 ≤ 100 := by omega
    rw [pennantlaw04_FrameBack.l0]
    by_cases hlt : (n : Int) < ((stuffed b).length : Int)
    · rw [if_pos hlt, if_pos (by omega)]
      have hnn : n < (stuffed b).length := by omega
      have hz : rd (stuffed b) (n : Int) ≠ 0 := by
        unfold rd
        rw [Int.toNat_natCast, List.getD_eq_getElem?_getD, List.getElem?_eq_getElem hnn]
        exact stuffed_nz b _ (List.getElem_mem hnn)
      rw [if_neg hz, show wrap64 ((n : Int) + 1) = ((n + 1 : Nat) : Int) by unfold wrap64; omega]
      obtain ⟨j, rfl⟩ : ∃ i, j = i + 1 := ⟨j - 1, by omega⟩
      exact back_loop b hb hl j (n + 1) (by omega) (by omega)
    · rw [if_neg hlt]
      refine fr_bind (x := (b, 0)) ?_ ?_
      · unfold frame_Plain.f
        rw [if_pos ⟨by omega, stuffed_bytes b hb⟩, plain_stuffed]
      · dsimp only
        rw [if_pos rfl, if_pos rfl, if_pos (by omega)]
        congr 1
        apply decide_eq_true
        have e1 : wrap64 ((b.length : Int) + 1) = (b.length : Int) + 1 := by unfold wrap64; omega
        have e2 : wrap64 ((b.length : Int) / 254) = ((b.length / 254 : Nat) : Int) := by unfold wrap64; omega
        rw [e1, e2]
        unfold wrap64
        omega
theorem pure_FrameBack : pennantlaw04_FrameBack.Pure := by
  intro b _ hb bb
  have bb := fr_bytes bb
  refine ⟨(stuffed b).length + 2, ?_⟩
  unfold pennantlaw04_FrameBack.f
  refine fr_bind (fr_awake _) ?_
  rw [if_pos rfl, pennantlaw04_FrameBack.j0]
  by_cases hl : b.length ≤ 20000
  · rw [show decide ((b.length : Int) > 20000) = false from decide_eq_false (by omega), if_neg (by decide)]
    refine fr_bind (x := stuffed b) ?_ ?_
    · unfold frame_Stuff.f
      rw [if_pos ⟨by omega, bb⟩]
    · exact back_loop b bb hl (stuffed b).length 0 (by omega) (by omega)
  · rw [show decide ((b.length : Int) > 20000) = true from decide_eq_true (by omega), if_pos rfl]
end Go.Proofs.Ytlbmfbbdfmmfnaa.PFrames
namespace Go.Proofs.Ytlbmfbbdfmmfnaa.Pure
theorem FrameBack : PFrames.pennantlaw04_FrameBack.Pure := PFrames.pure_FrameBack
end Go.Proofs.Ytlbmfbbdfmmfnaa.Pure
