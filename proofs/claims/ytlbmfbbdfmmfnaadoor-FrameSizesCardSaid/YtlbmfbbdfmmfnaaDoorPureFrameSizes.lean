/- The plain law of FrameSizes: a frame is little longer than its bytes, and ends with a nought; what is too long is none; for all bytes. -/
import Derived.Test.YtlbmfbbdfmmfnaaDoorPPutsx0
import Derived.Test.YtlbmfbbdfmmfnaaDoorPPutsx1
import Derived.Test.YtlbmfbbdfmmfnaaDoorPPutsx2
import Derived.Lib.Bytes
namespace Go.Proofs.YtlbmfbbdfmmfnaaDoor.PPuts
open Go.RowKit Go.Proofs.YtlbmfbbdfmmfnaaDoorW.PrintWords Go.Proofs.YtlbmfbbdfmmfnaaDoorW.PrintLast Go.Proofs.YtlbmfbbdfmmfnaaDoorW.PrintMore
set_option linter.unusedVariables false
set_option linter.unusedSimpArgs false
theorem fr_bytes {l : List Int} (h : ∀ x ∈ l, (Lit.int .u8 x).wf = true) : ∀ c ∈ l, 0 ≤ c ∧ c ≤ 255 := by
  intro c hc
  have := h c hc
  simp [Lit.wf, IntKind.min, IntKind.max, IntKind.bits, IntKind.signed] at this
  omega
theorem fr_bind {α β : Type} {a : Option α} {f : α → Option β} {x : α} {r : Option β} (h : a = some x) (k : f x = r) : a.bind f = r := by rw [h]; exact k
theorem fr_awake (k : Nat) : pennantlaw04_awake.f k = some true := by
  unfold pennantlaw04_awake.f
  refine fr_bind (x := [2, 7, 2, 8]) ?_ ?_
  · unfold frame_Stuff.f
    rw [if_pos ⟨by decide, by decide⟩]
    congr 1
  · rw [Lib.strOfNums_toList]
    rfl
theorem len_rel : ∀ (rs : List (List Int)), (∀ r ∈ rs, r.length ≤ 254) → ∃ g, (stuffOf rs).length = (unruns rs).length + g ∧ 254 * g ≤ (unruns rs).length ∧ (lastLen rs < 254 → 254 * g + 1 ≤ (unruns rs).length)
  | [], _ => ⟨0, rfl, by simp, fun h => by simp [lastLen] at h⟩
  | r :: rs, h => by
    obtain ⟨g, h1, h2, h3⟩ := len_rel rs (fun x hx => h x (List.mem_cons_of_mem _ hx))
    have hr := h r List.mem_cons_self
    have e1 : (stuffOf (r :: rs)).length = r.length + 1 + (stuffOf rs).length := by rw [stuffOf_cons]; simp; omega
    have e2 : (unruns (r :: rs)).length = (unrun r).length + (unruns rs).length := by simp [unruns]
    by_cases hs : r.length < 254
    · have e3 : (unrun r).length = r.length + 1 := by simp [unrun, hs]
      exact ⟨g, by omega, by omega, fun _ => by omega⟩
    · have e3 : (unrun r).length = 254 := by simp [unrun, hs]; omega
      refine ⟨g + 1, by omega, by omega, fun hl => ?_⟩
      by_cases hn : rs = []
      · subst hn
        simp [lastLen] at hl
        omega
      · have e : lastLen (r :: rs) = lastLen rs := by
          unfold lastLen
          rw [List.getLast?_cons_of_ne_nil hn]
        rw [e] at hl
        have := h3 hl
        omega
theorem stuffed_len (b : List Int) : b.length < (stuffed b).length ∧ (stuffed b).length ≤ b.length + 1 + b.length / 254 := by
  obtain ⟨h1, h2, h3, h4⟩ := runs_good (b.length + 1) (b ++ [0]) (by simp) (.inr ⟨_, rfl⟩)
  obtain ⟨g, e1, e2, e3⟩ := len_rel _ h2
  have e4 := e3 (h4 (by simp))
  rw [h3] at e1 e2 e4
  simp only [List.length_append, List.length_cons, List.length_nil] at e1 e2 e4
  have e5 : (stuffed b).length = b.length + (0 + 1) + g := e1
  omega
theorem stuffed_nz (b : List Int) : ∀ c ∈ stuffed b, c ≠ 0 := by
  obtain ⟨h1, h2, h3, h4⟩ := runs_good (b.length + 1) (b ++ [0]) (by simp) (.inr ⟨_, rfl⟩)
  intro c hc
  obtain ⟨r, hr, hc⟩ := List.mem_flatMap.1 hc
  rcases List.mem_cons.1 hc with rfl | hc
  · omega
  · rintro rfl
    exact h1 r hr hc
theorem own_add (a : Int) (l : List Int) (k : Nat) (h0 : 0 ≤ a) (h1 : a < 4294967296) (hb : ∀ c ∈ l, 0 ≤ c ∧ c ≤ 255) :
    crc_Add.f k a l = some ((crcAddN (a % 16777216).toNat (l.map Int.toNat) : Nat) : Int) := by
  unfold crc_Add.f
  rw [if_pos ⟨h0, h1, hb⟩]
  obtain ⟨n, rfl⟩ := Int.eq_ofNat_of_zero_le h0
  rw [u32_mask n (by omega), crcFold_nat l _ (by omega) hb]
  congr 4
theorem bytes_of_wf {l : List Int} (h : ∀ x ∈ l, (Lit.int .u8 x).wf = true) : ∀ c ∈ l, 0 ≤ c ∧ c ≤ 255 := by
  intro c hc
  have := h c hc
  simpa [Lit.wf, IntKind.min, IntKind.max, IntKind.signed, IntKind.bits] using this
theorem u32_of_wf {a : Int} (h : (Lit.int .u32 a).wf = true) : 0 ≤ a ∧ a < 4294967296 := by
  have : 0 ≤ a ∧ a ≤ 4294967295 := by simpa [Lit.wf, IntKind.min, IntKind.max, IntKind.signed, IntKind.bits] using h
  omega
theorem own_sum (l : List Int) (k : Nat) (hb : ∀ c ∈ l, 0 ≤ c ∧ c ≤ 255) : crc_Sum.f k l = some ((crcAddN 11994318 (l.map Int.toNat) : Nat) : Int) := by
  unfold crc_Sum.f
  rw [own_add 11994318 l k (by decide) (by decide) hb]
  rfl
theorem bind_of {α β : Type} {o : Option α} {x : α} {f : α → Option β} {r : Option β} (h : o = some x) (h2 : f x = r) : o.bind f = r := by rw [h]; exact h2
theorem nat_lt (l : List Int) (hb : ∀ c ∈ l, 0 ≤ c ∧ c ≤ 255) : ∀ c ∈ l.map Int.toNat, c < 256 := by
  intro c hc
  obtain ⟨x, hx, rfl⟩ := List.mem_map.1 hc
  have := hb x hx
  omega
/-- The sum of bytes. -/
def sumOf (l : List Int) : Nat := crcAddN 11994318 (l.map Int.toNat)
theorem sumOf_lt (l : List Int) (hb : ∀ c ∈ l, 0 ≤ c ∧ c ≤ 255) : sumOf l < 16777216 := crcAddN_lt _ _ (by decide) (nat_lt l hb)
theorem own_sumOf (l : List Int) (k : Nat) (hb : ∀ c ∈ l, 0 ≤ c ∧ c ≤ 255) : crc_Sum.f k l = some ((sumOf l : Nat) : Int) := own_sum l k hb
/-- The three bytes of a sum. -/
def three (s : Nat) : List Int := [((s / 65536 : Nat) : Int), ((s / 256 % 256 : Nat) : Int), ((s % 256 : Nat) : Int)]
def sealOf (l : List Int) : List Int := l ++ three (sumOf l)
theorem own_seal (l : List Int) (k : Nat) (hl : l.length ≤ 140737488351232) (hb : ∀ c ∈ l, 0 ≤ c ∧ c ≤ 255) : crc_Seal.f k l = some (sealOf l) := by
  unfold crc_Seal.f
  have h := sumOf_lt l hb
  unfold sealOf
  refine bind_of (own_sumOf l k hb) ?_
  rw [if_pos ⟨by omega, by omega, by omega⟩]
  rfl
theorem bytes_take {l : List Int} (h : ∀ c ∈ l, 0 ≤ c ∧ c ≤ 255) (n : Nat) : ∀ c ∈ l.take n, 0 ≤ c ∧ c ≤ 255 := fun c hc => h c (List.mem_of_mem_take hc)
theorem three_byte (s : Nat) (h : s < 16777216) : ∀ c ∈ three s, 0 ≤ c ∧ c ≤ 255 := by
  intro c hc
  simp only [three, List.mem_cons, List.not_mem_nil, or_false] at hc
  rcases hc with rfl | rfl | rfl <;> omega
theorem seal_byte (l : List Int) (hb : ∀ c ∈ l, 0 ≤ c ∧ c ≤ 255) : ∀ c ∈ sealOf l, 0 ≤ c ∧ c ≤ 255 := by
  intro c hc
  rcases List.mem_append.1 hc with h | h
  · exact hb c h
  · exact three_byte _ (sumOf_lt l hb) c h
theorem seal_len (l : List Int) : (sealOf l).length = l.length + 3 := by simp [sealOf, three]
theorem own_put (b : List Int) (k : Nat) (hb : ∀ c ∈ b, 0 ≤ c ∧ c ≤ 255) (hl : b.length ≤ 20000) : frame_Put.f k b = some (if b.length > 2048 then ([], 1) else (stuffed (sealOf b) ++ [0], 0)) := by
  unfold frame_Put.f
  by_cases h : b.length > 2048
  · rw [if_pos (by omega), if_pos h]
  · rw [if_neg (by omega), if_neg h]
    refine bind_of (own_seal b k (by omega) hb) ?_
    have e := seal_len b
    have hs := stuffed_len (sealOf b)
    refine bind_of (x := stuffed (sealOf b)) ?_ ?_
    · unfold frame_Stuff.f
      rw [if_pos ⟨by omega, seal_byte b hb⟩]
    · rw [if_pos (by omega)]
theorem sizes_row (s : List Int) (n : Nat) (hn : n ≤ 2048) (h1 : n + 3 < s.length) (h2 : s.length ≤ n + 3 + 1 + (n + 3) / 254) :
    (if ((s ++ [(0 : Int)]).length : Int) ≥ (wrap64 ((n : Int) + 5)) then (if ((s ++ [(0 : Int)]).length : Int) ≤ (wrap64 ((wrap64 ((n : Int) + 5)) + (wrap64 (Int.tdiv (wrap64 ((n : Int) + 3)) 254)))) then (if 0 ≤ (wrap64 (((s ++ [(0 : Int)]).length : Int) - 1)) then (if (wrap64 (((s ++ [(0 : Int)]).length : Int) - 1)) < ((s ++ [(0 : Int)]).length : Int) then (some ((rd (s ++ [(0 : Int)]) (wrap64 (((s ++ [(0 : Int)]).length : Int) - 1))) == 0)) else (none)) else (none)) else (some false)) else (some false)) = some true := by
  have hl : (s ++ [(0 : Int)]).length = s.length + 1 := by simp
  have e1 : wrap64 ((n : Int) + 5) = (n : Int) + 5 := by unfold wrap64; omega
  have e2 : wrap64 ((n : Int) + 3) = ((n + 3 : Nat) : Int) := by unfold wrap64; omega
  have e3 : Int.tdiv ((n + 3 : Nat) : Int) 254 = (((n + 3) / 254 : Nat) : Int) := rfl
  have e4 : wrap64 (((n + 3) / 254 : Nat) : Int) = (((n + 3) / 254 : Nat) : Int) := by unfold wrap64; omega
  have e5 : wrap64 (((s.length + 1 : Nat) : Int) - 1) = (s.length : Int) := by unfold wrap64; omega
  have e6 : wrap64 ((n : Int) + 5 + (((n + 3) / 254 : Nat) : Int)) = (n : Int) + 5 + (((n + 3) / 254 : Nat) : Int) := by unfold wrap64; omega
  rw [hl, e1, e2, e3, e4, e5, e6]
  rw [if_pos (by omega), if_pos (by omega), if_pos (by omega), if_pos (by omega)]
  have e7 : rd (s ++ [(0 : Int)]) (s.length : Int) = 0 := by
    unfold rd
    rw [Int.toNat_natCast, List.getD_eq_getElem?_getD, List.getElem?_append_right (Nat.le_refl _)]
    simp
  rw [e7]
  rfl
theorem sealed_len (b : List Int) : b.length + 3 < (stuffed (sealOf b)).length ∧ (stuffed (sealOf b)).length ≤ b.length + 3 + 1 + (b.length + 3) / 254 := by
  have h := stuffed_len (sealOf b)
  rw [seal_len b] at h
  exact h
theorem pure_FrameSizes : pennantlaw04_FrameSizes.Pure := by
  intro b _ hb bb
  have bb := fr_bytes bb
  refine ⟨1, ?_⟩
  unfold pennantlaw04_FrameSizes.f
  refine bind_of (fr_awake _) ?_
  rw [if_pos rfl, pennantlaw04_FrameSizes.j0]
  by_cases h : b.length > 5000
  · rw [show decide ((b.length : Int) > 5000) = true from decide_eq_true (by omega), if_pos rfl]
  · rw [show decide ((b.length : Int) > 5000) = false from decide_eq_false (by omega), if_neg (by decide)]
    refine bind_of (own_put b _ bb (by omega)) ?_
    by_cases h2 : b.length > 2048
    · rw [if_pos h2, if_pos (by omega), if_pos rfl]
      rfl
    · rw [if_neg h2, if_neg (by omega), if_pos rfl]
      exact sizes_row (stuffed (sealOf b)) b.length (by omega) (sealed_len b).1 (sealed_len b).2
end Go.Proofs.YtlbmfbbdfmmfnaaDoor.PPuts
namespace Go.Proofs.YtlbmfbbdfmmfnaaDoor.Pure
theorem FrameSizes : PPuts.pennantlaw04_FrameSizes.Pure := PPuts.pure_FrameSizes
end Go.Proofs.YtlbmfbbdfmmfnaaDoor.Pure
