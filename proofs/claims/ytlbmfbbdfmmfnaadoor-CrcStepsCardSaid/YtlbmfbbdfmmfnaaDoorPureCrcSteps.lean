/- The plain law of CrcSteps: bytes behind bytes are summed in parts as at once; a sum has 24 bits; for every sum and all bytes. -/
import Derived.Test.YtlbmfbbdfmmfnaaDoorPCrcStepsx0
import Derived.Test.YtlbmfbbdfmmfnaaDoorPCrcStepsx1
namespace Go.Proofs.YtlbmfbbdfmmfnaaDoor.PCrcSteps
open Go.RowKit Go.Proofs.YtlbmfbbdfmmfnaaDoorW.PrintWords Go.Proofs.YtlbmfbbdfmmfnaaDoorW.PrintLast Go.Proofs.YtlbmfbbdfmmfnaaDoorW.PrintMore
set_option linter.unusedVariables false
set_option linter.unusedSimpArgs false
theorem own_add (a : Int) (l : List Int) (k : Nat) (h0 : 0 ≤ a) (h1 : a < 4294967296) (hb : ∀ c ∈ l, 0 ≤ c ∧ c ≤ 255) :
    crc_Add.f k a l = some ((crcAddN (a % 16777216).toNat (l.map Int.toNat) : Nat) : Int) := by
  unfold crc_Add.f
  rw [if_pos ⟨h0, h1, hb⟩]
  obtain ⟨n, rfl⟩ := Int.eq_ofNat_of_zero_le h0
  rw [u32_mask n (by omega), crcFold_nat l _ (by omega) hb]
  congr 4
theorem bytes_of_wf {l : List Int} (h : ∀ x ∈ l, (Lit.int .u8 x).wf = true) : ∀ c ∈ l, 0 ≤ c ∧ c ≤ 255 := by
  intro c hc
  have := h c hc
  simpa [Lit.wf, IntKind.min, IntKind.max, IntKind.signed, IntKind.bits] using this
theorem u32_of_wf {a : Int} (h : (Lit.int .u32 a).wf = true) : 0 ≤ a ∧ a < 4294967296 := by
  have : 0 ≤ a ∧ a ≤ 4294967295 := by simpa [Lit.wf, IntKind.min, IntKind.max, IntKind.signed, IntKind.bits] using h
  omega
theorem own_sum (l : List Int) (k : Nat) (hb : ∀ c ∈ l, 0 ≤ c ∧ c ≤ 255) : crc_Sum.f k l = some ((crcAddN 11994318 (l.map Int.toNat) : Nat) : Int) := by
  unfold crc_Sum.f
  rw [own_add 11994318 l k (by decide) (by decide) hb]
  rfl
theorem nine_digits : crcAddN 11994318 (([49, 50, 51, 52, 53, 54, 55, 56, 57] : List Int).map Int.toNat) = 2215682 := by decide +kernel
theorem awake_true (k : Nat) : pennantlaw02_awake.f k = some true := by
  unfold pennantlaw02_awake.f
  rw [own_sum _ k (by decide), nine_digits]
  rfl
theorem nat_lt (l : List Int) (hb : ∀ c ∈ l, 0 ≤ c ∧ c ≤ 255) : ∀ c ∈ l.map Int.toNat, c < 256 := by
  intro c hc
  obtain ⟨x, hx, rfl⟩ := List.mem_map.1 hc
  have := hb x hx
  omega
theorem add_mod (a : Int) (l : List Int) (h0 : 0 ≤ a) (h1 : a < 4294967296) (hb : ∀ c ∈ l, 0 ≤ c ∧ c ≤ 255) : crcAddN (a % 16777216).toNat (l.map Int.toNat) < 16777216 :=
  crcAddN_lt _ _ (by omega) (nat_lt l hb)
theorem bind_of {α β : Type} {o : Option α} {x : α} {f : α → Option β} {r : Option β} (h : o = some x) (h2 : f x = r) : o.bind f = r := by rw [h]; exact h2
theorem last_add (a : Int) (h0 : 0 ≤ a) (h1 : a < 4294967296) : Go.bits .and .u32 a 16777215 = ((crcAddN (a % 16777216).toNat (([] : List Int).map Int.toNat) : Nat) : Int) := by
  obtain ⟨n, rfl⟩ := Int.eq_ofNat_of_zero_le h0
  rw [u32_mask n (by omega)]
  show _ = (((n : Int) % 16777216).toNat : Int)
  omega
theorem steps_j0 (k : Nat) (a : Int) (l m : List Int) (b : Bool) (h0 : 0 ≤ a) (h1 : a < 4294967296) (hl : l.length ≤ 140737488351232) (hlb : ∀ c ∈ l, 0 ≤ c ∧ c ≤ 255) (hmb : ∀ c ∈ m, 0 ≤ c ∧ c ≤ 255) (hm : l.length ≤ 10000) (hm2 : m.length ≤ 10000) :
    pennantlaw02_CrcSteps.j0 (k + 1) a l m b false = some true := by
  simp only [pennantlaw02_CrcSteps.j0]
  have hall : ∀ c ∈ l ++ m, 0 ≤ c ∧ c ≤ 255 := by
    intro c hc
    rcases List.mem_append.1 hc with h | h
    · exact hlb c h
    · exact hmb c h
  have hs := add_mod a l h0 h1 hlb
  have hs2 : ((crcAddN (a % 16777216).toNat ((l ++ m).map Int.toNat) : Nat) : Int) < 16777216 := by have := add_mod a (l ++ m) h0 h1 hall; omega
  have e1 : crcAddN (a % 16777216).toNat ((l ++ m).map Int.toNat) = crcAddN (crcAddN (a % 16777216).toNat (l.map Int.toNat)) (m.map Int.toNat) := by
    rw [List.map_append, crcAddN_append]
  have e2 : ((crcAddN (a % 16777216).toNat (l.map Int.toNat) : Nat) : Int) % 16777216 = ((crcAddN (a % 16777216).toNat (l.map Int.toNat) : Nat) : Int) := by omega
  rw [if_neg (by simp)]
  simp only [Option.bind_some, List.nil_append]
  rw [if_pos (by simp; omega), if_pos (by omega)]
  have f1 := own_add a (l ++ m) k h0 h1 hall
  have f2 := own_add a l k h0 h1 hlb
  have f3 := own_add ((crcAddN (a % 16777216).toNat (l.map Int.toNat) : Nat) : Int) m k (by omega) (by omega) hmb
  rw [e2, Int.toNat_natCast, ← e1] at f3
  have f4 := own_add a [] k h0 h1 (by simp)
  rw [← last_add a h0 h1] at f4
  generalize ((crcAddN (a % 16777216).toNat ((l ++ m).map Int.toNat) : Nat) : Int) = z at hs2 f1 f3
  have hz : z < 16777216 := by omega
  refine bind_of f1 (bind_of f2 (bind_of f3 ?_))
  rw [if_pos rfl, if_pos hz]
  refine bind_of f4 ?_
  rw [beq_self_eq_true]
theorem pure_CrcSteps : pennantlaw02_CrcSteps.Pure := by
  intro a l m ha _ hl hb _ hm hmb
  have hb := bytes_of_wf hb
  have hmb := bytes_of_wf hmb
  obtain ⟨h0, h1⟩ := u32_of_wf ha
  refine ⟨1, ?_⟩
  unfold pennantlaw02_CrcSteps.f
  rw [awake_true]
  simp only [Option.bind_some]
  rw [if_pos trivial]
  split
  · simp [pennantlaw02_CrcSteps.j0]
  · by_cases h : (m.length : Int) > 10000
    · rw [decide_eq_true h]; simp [pennantlaw02_CrcSteps.j0]
    · rw [decide_eq_false h]
      exact steps_j0 0 a l m true h0 h1 (by omega) hb hmb (by omega) (by omega)
end Go.Proofs.YtlbmfbbdfmmfnaaDoor.PCrcSteps
namespace Go.Proofs.YtlbmfbbdfmmfnaaDoor.Pure
theorem CrcSteps : PCrcSteps.pennantlaw02_CrcSteps.Pure := PCrcSteps.pure_CrcSteps
end Go.Proofs.YtlbmfbbdfmmfnaaDoor.Pure
