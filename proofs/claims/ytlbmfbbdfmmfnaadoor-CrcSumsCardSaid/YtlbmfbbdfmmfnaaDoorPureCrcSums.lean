/- The plain law of CrcSums: the program's sum, by the table, is the reference's, bit by bit; for every sum and all bytes. -/
import Derived.Test.YtlbmfbbdfmmfnaaDoorPCrcSumsx0
import Derived.Test.YtlbmfbbdfmmfnaaDoorPCrcSumsx1
namespace Go.Proofs.YtlbmfbbdfmmfnaaDoor.PCrcSums
open Go.RowKit Go.Proofs.YtlbmfbbdfmmfnaaDoorW.PrintWords Go.Proofs.YtlbmfbbdfmmfnaaDoorW.PrintLast Go.Proofs.YtlbmfbbdfmmfnaaDoorW.PrintMore
set_option linter.unusedVariables false
set_option linter.unusedSimpArgs false
/-- One single step, as the reference writes it. -/
theorem ref_bit (s : Nat) (h : s < 16777216) : (if ((2 * (s : Int)) % 4294967296) ≥ 16777216 then Go.bits .xor .u32 ((2 * (s : Int)) % 4294967296) 25578747 else ((2 * (s : Int)) % 4294967296)) = (crcBit s : Nat) := by
  have e : (2 * (s : Int)) % 4294967296 = ((2 * s : Nat) : Int) := by omega
  rw [e]
  unfold crcBit
  rw [testBit23 s h]
  by_cases hs : 8388608 ≤ s
  · rw [if_pos (by omega), if_pos (by simpa using hs)]
    exact u32_xor_nat (2 * s) 25578747 (by omega) (by decide)
  · rw [if_neg (by omega), if_neg (by simpa using hs), Nat.xor_zero]
def bits_n : Nat → Nat → Nat
  | 0, s => s
  | n + 1, s => bits_n n (crcBit s)
theorem bits_n_lt : ∀ n s, s < 16777216 → bits_n n s < 16777216
  | 0, _, h => h
  | n + 1, s, h => bits_n_lt n _ (crcBit_lt s h)
theorem ref_l1 (l : List Int) (i : Int) : ∀ (d k : Nat) (s : Nat), s < 16777216 → d ≤ 8 → d < k →
    pennantref02_Add.l1 k l (s : Int) i ((8 - d : Nat) : Int) = pennantref02_Add.l0 (k - d - 1) l ((bits_n d s : Nat) : Int) (wrap64 (i + 1))
  | 0, k, s, h, hd, hk => by
    obtain ⟨k, rfl⟩ : ∃ m, k = m + 1 := ⟨k - 1, by omega⟩
    simp only [pennantref02_Add.l1]
    rw [if_neg (by omega)]
    rfl
  | d + 1, k, s, h, hd, hk => by
    obtain ⟨k, rfl⟩ : ∃ m, k = m + 1 := ⟨k - 1, by omega⟩
    simp only [pennantref02_Add.l1]
    rw [if_pos (by omega)]
    have hw : wrap64 (((8 - (d + 1) : Nat) : Int) + 1) = ((8 - d : Nat) : Int) := by unfold wrap64; omega
    have hb := ref_bit s h
    have ih := ref_l1 l i d k (crcBit s) (crcBit_lt s h) (by omega) (by omega)
    rw [hw]
    have e2 : k + 1 - (d + 1) - 1 = k - d - 1 := by omega
    rw [e2]
    by_cases hs : ((2 * (s : Int)) % 4294967296) ≥ 16777216
    · rw [if_pos hs] at hb ⊢
      rw [hb]; exact ih
    · rw [if_neg hs] at hb ⊢
      rw [hb]; exact ih
theorem bits_8 (s : Nat) : bits_n 8 s = crcBit8 s := rfl
theorem ref_l0 (l : List Int) (hl : l.length ≤ 140737488351232) (hb : ∀ c ∈ l, 0 ≤ c ∧ c ≤ 255) : ∀ (d k : Nat) (s i : Nat), s < 16777216 → i + d = l.length → 10 * d < k →
    pennantref02_Add.l0 k l (s : Int) (i : Int) = some ((crcAddN s ((l.drop i).map Int.toNat) : Nat) : Int)
  | 0, k, s, i, h, hd, hk => by
    obtain ⟨k, rfl⟩ : ∃ m, k = m + 1 := ⟨k - 1, by omega⟩
    simp only [pennantref02_Add.l0]
    rw [if_neg (by omega), List.drop_eq_nil_of_le (by omega)]
    rfl
  | d + 1, k, s, i, h, hd, hk => by
    obtain ⟨k, rfl⟩ : ∃ m, k = m + 1 := ⟨k - 1, by omega⟩
    simp only [pennantref02_Add.l0]
    have hi : i < l.length := by omega
    rw [if_pos (by omega), if_pos (by omega)]
    have hrd : rd l (i : Int) = l[i] := by simp [rd, List.getD_eq_getElem?_getD, List.getElem?_eq_getElem hi]
    have hc := hb l[i] (List.getElem_mem hi)
    obtain ⟨c, hcc⟩ := Int.eq_ofNat_of_zero_le hc.1
    have e1 : Go.bits .xor .u32 (s : Int) (((rd l (i : Int)) % 4294967296 * 65536) % 4294967296) = ((s ^^^ c * 65536 : Nat) : Int) := by
      rw [hrd, hcc]
      have e : (((c : Int)) % 4294967296 * 65536) % 4294967296 = ((c * 65536 : Nat) : Int) := by omega
      rw [e]
      exact u32_xor_nat s (c * 65536) (by omega) (by omega)
    rw [e1]
    have hm := mix_lt s c h (by omega)
    have h1 := ref_l1 l (i : Int) 8 k (s ^^^ c * 65536) hm (by omega) (by omega)
    rw [show ((8 - 8 : Nat) : Int) = 0 from rfl] at h1
    rw [h1, bits_8]
    have hw : wrap64 ((i : Int) + 1) = ((i + 1 : Nat) : Int) := by unfold wrap64; omega
    rw [hw, ref_l0 l hl hb d (k - 8 - 1) (crcBit8 (s ^^^ c * 65536)) (i + 1) (crcBit8_lt _ hm) (by omega) (by omega)]
    rw [List.drop_eq_getElem_cons hi, List.map_cons, hcc]
    rfl
theorem ref_add (a : Int) (l : List Int) (k : Nat) (h0 : 0 ≤ a) (hl : l.length ≤ 140737488351232) (hb : ∀ c ∈ l, 0 ≤ c ∧ c ≤ 255) (hk : 10 * l.length < k) :
    pennantref02_Add.f k a l = some ((crcAddN (a % 16777216).toNat (l.map Int.toNat) : Nat) : Int) := by
  unfold pennantref02_Add.f
  have e : Int.tmod a 16777216 = ((a % 16777216).toNat : Int) := by
    rw [Int.tmod_eq_emod_of_nonneg h0]; omega
  rw [e]
  have := ref_l0 l hl hb l.length k (a % 16777216).toNat 0 (by omega) (by omega) (by omega)
  simpa using this
theorem own_add (a : Int) (l : List Int) (k : Nat) (h0 : 0 ≤ a) (h1 : a < 4294967296) (hb : ∀ c ∈ l, 0 ≤ c ∧ c ≤ 255) :
    crc_Add.f k a l = some ((crcAddN (a % 16777216).toNat (l.map Int.toNat) : Nat) : Int) := by
  unfold crc_Add.f
  rw [if_pos ⟨h0, h1, hb⟩]
  obtain ⟨n, rfl⟩ := Int.eq_ofNat_of_zero_le h0
  rw [u32_mask n (by omega), crcFold_nat l _ (by omega) hb]
  congr 4
theorem bytes_of_wf {l : List Int} (h : ∀ x ∈ l, (Lit.int .u8 x).wf = true) : ∀ c ∈ l, 0 ≤ c ∧ c ≤ 255 := by
  intro c hc
  have := h c hc
  simpa [Lit.wf, IntKind.min, IntKind.max, IntKind.signed, IntKind.bits] using this
theorem u32_of_wf {a : Int} (h : (Lit.int .u32 a).wf = true) : 0 ≤ a ∧ a < 4294967296 := by
  have : 0 ≤ a ∧ a ≤ 4294967295 := by simpa [Lit.wf, IntKind.min, IntKind.max, IntKind.signed, IntKind.bits] using h
  omega
theorem own_sum (l : List Int) (k : Nat) (hb : ∀ c ∈ l, 0 ≤ c ∧ c ≤ 255) : crc_Sum.f k l = some ((crcAddN 11994318 (l.map Int.toNat) : Nat) : Int) := by
  unfold crc_Sum.f
  rw [own_add 11994318 l k (by decide) (by decide) hb]
  rfl
theorem nine_digits : crcAddN 11994318 (([49, 50, 51, 52, 53, 54, 55, 56, 57] : List Int).map Int.toNat) = 2215682 := by decide +kernel
theorem awake_true (k : Nat) : pennantlaw02_awake.f k = some true := by
  unfold pennantlaw02_awake.f
  rw [own_sum _ k (by decide), nine_digits]
  rfl
theorem pure_CrcSums : pennantlaw02_CrcSums.Pure := by
  intro a l ha _ hl hb
  have hb := bytes_of_wf hb
  obtain ⟨h0, h1⟩ := u32_of_wf ha
  refine ⟨10 * l.length + 1, ?_⟩
  unfold pennantlaw02_CrcSums.f
  rw [awake_true]
  simp only [Option.bind_some]
  split
  · rfl
  · rw [if_pos trivial, own_sum l _ hb]
    unfold pennantref02_Sum.f
    rw [ref_add 11994318 l _ (by decide) (by omega) hb (by omega), own_add a l _ h0 h1 hb, ref_add a l _ h0 (by omega) hb (by omega)]
    simp
end Go.Proofs.YtlbmfbbdfmmfnaaDoor.PCrcSums
namespace Go.Proofs.YtlbmfbbdfmmfnaaDoor.Pure
theorem CrcSums : PCrcSums.pennantlaw02_CrcSums.Pure := PCrcSums.pure_CrcSums
end Go.Proofs.YtlbmfbbdfmmfnaaDoor.Pure
