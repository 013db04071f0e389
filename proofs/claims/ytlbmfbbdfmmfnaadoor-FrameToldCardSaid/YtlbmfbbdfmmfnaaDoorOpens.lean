/- What is opened: the reference's Open says what crc.Open says; a sealed text is opened to itself: for all bytes. -/
import Derived.Test.YtlbmfbbdfmmfnaaDoorReader
import Derived.Lib.Bytes
namespace Go.Proofs.YtlbmfbbdfmmfnaaDoor.PRdr
open Go.RowKit Go.Proofs.YtlbmfbbdfmmfnaaDoorW.PrintWords Go.Proofs.YtlbmfbbdfmmfnaaDoorW.PrintLast Go.Proofs.YtlbmfbbdfmmfnaaDoorW.PrintMore
set_option linter.unusedVariables false
set_option linter.unusedSimpArgs false
/-- One single step, as the reference writes it. -/
theorem ref_bit (s : Nat) (h : s < 16777216) : (if ((2 * (s : Int)) % 4294967296) ≥ 16777216 then Go.bits .xor .u32 ((2 * (s : Int)) % 4294967296) 25578747 else ((2 * (s : Int)) % 4294967296)) = (crcBit s : Nat) := by
  have e : (2 * (s : Int)) % 4294967296 = ((2 * s : Nat) : Int) := by omega
  rw [e]
  unfold crcBit
  rw [testBit23 s h]
  by_cases hs : 8388608 ≤ s
  · rw [if_pos (by omega), if_pos (by simpa using hs)]
    exact u32_xor_nat (2 * s) 25578747 (by omega) (by decide)
  · rw [if_neg (by omega), if_neg (by simpa using hs), Nat.xor_zero]
def bits_n : Nat → Nat → Nat
  | 0, s => s
  | n + 1, s => bits_n n (crcBit s)
theorem bits_n_lt : ∀ n s, s < 16777216 → bits_n n s < 16777216
  | 0, _, h => h
  | n + 1, s, h => bits_n_lt n _ (crcBit_lt s h)
theorem ref_l1 (l : List Int) (i : Int) : ∀ (d k : Nat) (s : Nat), s < 16777216 → d ≤ 8 → d < k →
    pennantref02_Add.l1 k l (s : Int) i ((8 - d : Nat) : Int) = pennantref02_Add.l0 (k - d - 1) l ((bits_n d s : Nat) : Int) (wrap64 (i + 1))
  | 0, k, s, h, hd, hk => by
    obtain ⟨k, rfl⟩ : ∃ m, k = m + 1 := ⟨k - 1, by omega⟩
    simp only [pennantref02_Add.l1]
    rw [if_neg (by omega)]
    rfl
  | d + 1, k, s, h, hd, hk => by
    obtain ⟨k, rfl⟩ : ∃ m, k = m + 1 := ⟨k - 1, by omega⟩
    simp only [pennantref02_Add.l1]
    rw [if_pos (by omega)]
    have hw : wrap64 (((8 - (d + 1) : Nat) : Int) + 1) = ((8 - d : Nat) : Int) := by unfold wrap64; omega
    have hb := ref_bit s h
    have ih := ref_l1 l i d k (crcBit s) (crcBit_lt s h) (by omega) (by omega)
    rw [hw]
    have e2 : k + 1 - (d + 1) - 1 = k - d - 1 := by omega
    rw [e2]
    by_cases hs : ((2 * (s : Int)) % 4294967296) ≥ 16777216
    · rw [if_pos hs] at hb ⊢
      rw [hb]; exact ih
    · rw [if_neg hs] at hb ⊢
      rw [hb]; exact ih
theorem bits_8 (s : Nat) : bits_n 8 s = crcBit8 s := rfl
theorem ref_l0 (l : List Int) (hl : l.length ≤ 140737488351232) (hb : ∀ c ∈ l, 0 ≤ c ∧ c ≤ 255) : ∀ (d k : Nat) (s i : Nat), s < 16777216 → i + d = l.length → 10 * d < k →
    pennantref02_Add.l0 k l (s : Int) (i : Int) = some ((crcAddN s ((l.drop i).map Int.toNat) : Nat) : Int)
  | 0, k, s, i, h, hd, hk => by
    obtain ⟨k, rfl⟩ : ∃ m, k = m + 1 := ⟨k - 1, by omega⟩
    simp only [pennantref02_Add.l0]
    rw [if_neg (by omega), List.drop_eq_nil_of_le (by omega)]
    rfl
  | d + 1, k, s, i, h, hd, hk => by
    obtain ⟨k, rfl⟩ : ∃ m, k = m + 1 := ⟨k - 1, by omega⟩
    simp only [pennantref02_Add.l0]
    have hi : i < l.length := by omega
    rw [if_pos (by omega), if_pos (by omega)]
    have hrd : rd l (i : Int) = l[i] := by simp [rd, List.getD_eq_getElem?_getD, List.getElem?_eq_getElem hi]
    have hc := hb l[i] (List.getElem_mem hi)
    obtain ⟨c, hcc⟩ := Int.eq_ofNat_of_zero_le hc.1
    have e1 : Go.bits .xor .u32 (s : Int) (((rd l (i : Int)) % 4294967296 * 65536) % 4294967296) = ((s ^^^ c * 65536 : Nat) : Int) := by
      rw [hrd, hcc]
      have e : (((c : Int)) % 4294967296 * 65536) % 4294967296 = ((c * 65536 : Nat) : Int) := by omega
      rw [e]
      exact u32_xor_nat s (c * 65536) (by omega) (by omega)
    rw [e1]
    have hm := mix_lt s c h (by omega)
    have h1 := ref_l1 l (i : Int) 8 k (s ^^^ c * 65536) hm (by omega) (by omega)
    rw [show ((8 - 8 : Nat) : Int) = 0 from rfl] at h1
    rw [h1, bits_8]
    have hw : wrap64 ((i : Int) + 1) = ((i + 1 : Nat) : Int) := by unfold wrap64; omega
    rw [hw, ref_l0 l hl hb d (k - 8 - 1) (crcBit8 (s ^^^ c * 65536)) (i + 1) (crcBit8_lt _ hm) (by omega) (by omega)]
    rw [List.drop_eq_getElem_cons hi, List.map_cons, hcc]
    rfl
theorem ref_add (a : Int) (l : List Int) (k : Nat) (h0 : 0 ≤ a) (hl : l.length ≤ 140737488351232) (hb : ∀ c ∈ l, 0 ≤ c ∧ c ≤ 255) (hk : 10 * l.length < k) :
    pennantref02_Add.f k a l = some ((crcAddN (a % 16777216).toNat (l.map Int.toNat) : Nat) : Int) := by
  unfold pennantref02_Add.f
  have e : Int.tmod a 16777216 = ((a % 16777216).toNat : Int) := by
    rw [Int.tmod_eq_emod_of_nonneg h0]; omega
  rw [e]
  have := ref_l0 l hl hb l.length k (a % 16777216).toNat 0 (by omega) (by omega) (by omega)
  simpa using this
theorem own_add (a : Int) (l : List Int) (k : Nat) (h0 : 0 ≤ a) (h1 : a < 4294967296) (hb : ∀ c ∈ l, 0 ≤ c ∧ c ≤ 255) :
    crc_Add.f k a l = some ((crcAddN (a % 16777216).toNat (l.map Int.toNat) : Nat) : Int) := by
  unfold crc_Add.f
  rw [if_pos ⟨h0, h1, hb⟩]
  obtain ⟨n, rfl⟩ := Int.eq_ofNat_of_zero_le h0
  rw [u32_mask n (by omega), crcFold_nat l _ (by omega) hb]
  congr 4
theorem bytes_of_wf {l : List Int} (h : ∀ x ∈ l, (Lit.int .u8 x).wf = true) : ∀ c ∈ l, 0 ≤ c ∧ c ≤ 255 := by
  intro c hc
  have := h c hc
  simpa [Lit.wf, IntKind.min, IntKind.max, IntKind.signed, IntKind.bits] using this
theorem u32_of_wf {a : Int} (h : (Lit.int .u32 a).wf = true) : 0 ≤ a ∧ a < 4294967296 := by
  have : 0 ≤ a ∧ a ≤ 4294967295 := by simpa [Lit.wf, IntKind.min, IntKind.max, IntKind.signed, IntKind.bits] using h
  omega
theorem own_sum (l : List Int) (k : Nat) (hb : ∀ c ∈ l, 0 ≤ c ∧ c ≤ 255) : crc_Sum.f k l = some ((crcAddN 11994318 (l.map Int.toNat) : Nat) : Int) := by
  unfold crc_Sum.f
  rw [own_add 11994318 l k (by decide) (by decide) hb]
  rfl
theorem bind_of {α β : Type} {o : Option α} {x : α} {f : α → Option β} {r : Option β} (h : o = some x) (h2 : f x = r) : o.bind f = r := by rw [h]; exact h2
theorem nat_lt (l : List Int) (hb : ∀ c ∈ l, 0 ≤ c ∧ c ≤ 255) : ∀ c ∈ l.map Int.toNat, c < 256 := by
  intro c hc
  obtain ⟨x, hx, rfl⟩ := List.mem_map.1 hc
  have := hb x hx
  omega
/-- The sum of bytes. -/
def sumOf (l : List Int) : Nat := crcAddN 11994318 (l.map Int.toNat)
theorem sumOf_lt (l : List Int) (hb : ∀ c ∈ l, 0 ≤ c ∧ c ≤ 255) : sumOf l < 16777216 := crcAddN_lt _ _ (by decide) (nat_lt l hb)
theorem own_sumOf (l : List Int) (k : Nat) (hb : ∀ c ∈ l, 0 ≤ c ∧ c ≤ 255) : crc_Sum.f k l = some ((sumOf l : Nat) : Int) := own_sum l k hb
/-- The three bytes of a sum. -/
def three (s : Nat) : List Int := [((s / 65536 : Nat) : Int), ((s / 256 % 256 : Nat) : Int), ((s % 256 : Nat) : Int)]
def sealOf (l : List Int) : List Int := l ++ three (sumOf l)
theorem own_seal (l : List Int) (k : Nat) (hl : l.length ≤ 140737488351232) (hb : ∀ c ∈ l, 0 ≤ c ∧ c ≤ 255) : crc_Seal.f k l = some (sealOf l) := by
  unfold crc_Seal.f
  have h := sumOf_lt l hb
  unfold sealOf
  refine bind_of (own_sumOf l k hb) ?_
  rw [if_pos ⟨by omega, by omega, by omega⟩]
  rfl
theorem ref_three (s : Nat) (h : s < 16777216) : ([((Int.tdiv (s : Int) 65536) % 4294967296) % 256, ((Int.tdiv (s : Int) 256) % 4294967296) % 256, (Int.tmod (s : Int) 256) % 256] : List Int) = three s := by
  have e1 : Int.tdiv (s : Int) 65536 = ((s / 65536 : Nat) : Int) := rfl
  have e2 : Int.tdiv (s : Int) 256 = ((s / 256 : Nat) : Int) := rfl
  have e3 : Int.tmod (s : Int) 256 = ((s % 256 : Nat) : Int) := rfl
  rw [e1, e2, e3]
  unfold three
  have a1 : ((s / 65536 : Nat) : Int) % 4294967296 % 256 = ((s / 65536 : Nat) : Int) := by omega
  have a2 : ((s / 256 : Nat) : Int) % 4294967296 % 256 = ((s / 256 % 256 : Nat) : Int) := by omega
  have a3 : ((s % 256 : Nat) : Int) % 256 = ((s % 256 : Nat) : Int) := by omega
  rw [a1, a2, a3]
theorem ref_seal (l : List Int) (k : Nat) (hl : l.length ≤ 140737488351232) (hb : ∀ c ∈ l, 0 ≤ c ∧ c ≤ 255) (hk : 10 * l.length < k) : pennantref02_Seal.f k l = some (sealOf l) := by
  have hs : pennantref02_Sum.f k l = some ((sumOf l : Nat) : Int) := by
    unfold pennantref02_Sum.f
    exact bind_of (ref_add 11994318 l k (by decide) hl hb hk) rfl
  unfold pennantref02_Seal.f
  refine bind_of hs (bind_of rfl ?_)
  rw [if_pos (by simp; omega)]
  refine bind_of rfl (bind_of rfl ?_)
  rw [if_pos (by simp; omega), ref_three _ (sumOf_lt l hb)]
  rfl
theorem bit8_256 (y : Nat) (h : y < 256) : crcBit8 (y * 256) = y * 65536 := by
  unfold crcBit8
  rw [crcBit4_small (y * 256) (by omega), crcBit4_small (16 * (y * 256)) (by omega)]
  omega
theorem bit8_1 (y : Nat) (h : y < 256) : crcBit8 y = y * 256 := by
  unfold crcBit8
  rw [crcBit4_small y (by omega), crcBit4_small (16 * y) (by omega)]
  omega
theorem three_steps (s x y z : Nat) (hy : y < 256) (hz : z < 256) : crcStep (crcStep (crcStep s x) y) z = crcBit8 (crcBit8 (crcBit8 (s ^^^ x * 65536 ^^^ y * 256 ^^^ z))) := by
  unfold crcStep
  have e1 : crcBit8 (s ^^^ x * 65536) ^^^ y * 65536 = crcBit8 (s ^^^ x * 65536 ^^^ y * 256) := by rw [crcBit8_lin (s ^^^ x * 65536), bit8_256 y hy]
  have e2 : crcBit8 (crcBit8 (s ^^^ x * 65536 ^^^ y * 256)) ^^^ z * 65536 = crcBit8 (crcBit8 (s ^^^ x * 65536 ^^^ y * 256 ^^^ z)) := by
    rw [crcBit8_lin (s ^^^ x * 65536 ^^^ y * 256) z, bit8_1 z hz, crcBit8_lin _ (z * 256), bit8_256 z hz]
  rw [e1, e2]
theorem bit_zero (u : Nat) (h : u < 16777216) (h0 : crcBit u = 0) : u = 0 := by
  by_cases hs : u < 8388608
  · rw [crcBit_small u hs] at h0; omega
  · exfalso
    unfold crcBit at h0
    rw [testBit23 u h, if_pos (by simp; omega)] at h0
    have h1 : ((2 * u) ^^^ 25578747).testBit 0 = false := by rw [h0]; rfl
    rw [Nat.testBit_xor] at h1
    have h2 : (2 * u).testBit 0 = false := by rw [Nat.testBit_zero]; simp
    rw [h2] at h1
    exact absurd h1 (by decide)
theorem bit4_zero (u : Nat) (h : u < 16777216) (h0 : crcBit4 u = 0) : u = 0 := by
  have a1 := crcBit_lt u h
  have a2 := crcBit_lt _ a1
  have a3 := crcBit_lt _ a2
  exact bit_zero u h (bit_zero _ a1 (bit_zero _ a2 (bit_zero _ a3 h0)))
theorem bit8_zero (u : Nat) (h : u < 16777216) (h0 : crcBit8 u = 0) : u = 0 := bit4_zero u h (bit4_zero _ (crcBit4_lt u h) h0)
theorem bit8_of_zero : crcBit8 0 = 0 := by decide
theorem add_xor16 (a b : Nat) (h : b < 65536) : a * 65536 + b = (a * 65536) ^^^ b := by
  have h1 := add_xor a b 16 (by simpa using h)
  simpa using h1
theorem add_xor8 (a b : Nat) (h : b < 256) : a * 256 + b = (a * 256) ^^^ b := by
  have h1 := add_xor a b 8 (by simpa using h)
  simpa using h1
theorem join_three (x y z : Nat) (hy : y < 256) (hz : z < 256) : x * 65536 ^^^ y * 256 ^^^ z = x * 65536 + y * 256 + z := by
  have e1 : y * 256 < 65536 := by omega
  have e2 : (x * 256 + y) * 256 = x * 65536 + y * 256 := by rw [Nat.add_mul, Nat.mul_assoc]
  have h1 := add_xor8 (x * 256 + y) z hz
  have h2 := add_xor16 x (y * 256) e1
  rw [e2] at h1
  rw [← h2, ← h1]
theorem xor_zero {a b : Nat} (h : a ^^^ b = 0) : a = b := by
  have h1 := congrArg (· ^^^ b) h
  simpa [Nat.xor_assoc] using h1
theorem sealed_iff (s x y z : Nat) (hs : s < 16777216) (hx : x < 256) (hy : y < 256) (hz : z < 256) : crcStep (crcStep (crcStep s x) y) z = 0 ↔ (x = s / 65536 ∧ y = s / 256 % 256 ∧ z = s % 256) := by
  rw [three_steps s x y z hy hz]
  have e : s ^^^ x * 65536 ^^^ y * 256 ^^^ z = s ^^^ (x * 65536 + y * 256 + z) := by rw [← join_three x y z hy hz]; simp only [Nat.xor_assoc]
  rw [e]
  have hv : s ^^^ (x * 65536 + y * 256 + z) < 2 ^ 24 := Nat.xor_lt_two_pow (by omega) (by omega)
  constructor
  · intro h
    have h1 := bit8_zero _ hv (bit8_zero _ (crcBit8_lt _ hv) (bit8_zero _ (crcBit8_lt _ (crcBit8_lt _ hv)) h))
    have h2 := xor_zero h1
    omega
  · rintro ⟨rfl, rfl, rfl⟩
    have h2 : s / 65536 * 65536 + s / 256 % 256 * 256 + s % 256 = s := by omega
    rw [h2, Nat.xor_self, bit8_of_zero, bit8_of_zero, bit8_of_zero]
theorem bytes_take {l : List Int} (h : ∀ c ∈ l, 0 ≤ c ∧ c ≤ 255) (n : Nat) : ∀ c ∈ l.take n, 0 ≤ c ∧ c ≤ 255 := fun c hc => h c (List.mem_of_mem_take hc)
theorem three_byte (s : Nat) (h : s < 16777216) : ∀ c ∈ three s, 0 ≤ c ∧ c ≤ 255 := by
  intro c hc
  simp only [three, List.mem_cons, List.not_mem_nil, or_false] at hc
  rcases hc with rfl | rfl | rfl <;> omega
theorem seal_byte (l : List Int) (hb : ∀ c ∈ l, 0 ≤ c ∧ c ≤ 255) : ∀ c ∈ sealOf l, 0 ≤ c ∧ c ≤ 255 := by
  intro c hc
  rcases List.mem_append.1 hc with h | h
  · exact hb c h
  · exact three_byte _ (sumOf_lt l hb) c h
theorem byte_inj : ∀ (a b : List Int), (∀ c ∈ a, 0 ≤ c ∧ c ≤ 255) → (∀ c ∈ b, 0 ≤ c ∧ c ≤ 255) → (a.map fun n => UInt8.ofNat n.toNat) = (b.map fun n => UInt8.ofNat n.toNat) → a = b
  | [], [], _, _, _ => rfl
  | [], _ :: _, _, _, h => by simp at h
  | _ :: _, [], _, _, h => by simp at h
  | x :: la, y :: lb, ha, hb, h => by
    simp only [List.map_cons, List.cons.injEq] at h
    have hx := ha x (by simp)
    have hy := hb y (by simp)
    have h1 := congrArg UInt8.toNat h.1
    simp only [UInt8.toNat_ofNat'] at h1
    rw [byte_inj la lb (fun c hc => ha c (by simp [hc])) (fun c hc => hb c (by simp [hc])) h.2]
    congr 1
    omega
theorem str_iff (a b : List Int) (ha : ∀ c ∈ a, 0 ≤ c ∧ c ≤ 255) (hb : ∀ c ∈ b, 0 ≤ c ∧ c ≤ 255) : (strOfNums a).toList = (strOfNums b).toList ↔ a = b := by
  constructor
  · intro h
    rw [Lib.strOfNums_toList, Lib.strOfNums_toList] at h
    exact byte_inj a b ha hb h
  · rintro rfl; rfl
/-- A text of three bytes and more: its head, the three. -/
theorem split_three (l : List Int) (h : 3 ≤ l.length) : ∃ a x y z, l = a ++ [x, y, z] ∧ a = l.take (l.length - 3) := by
  have h1 : l = l.take (l.length - 3) ++ l.drop (l.length - 3) := (List.take_append_drop _ _).symm
  have h2 : (l.drop (l.length - 3)).length = 3 := by rw [List.length_drop]; omega
  match hd : l.drop (l.length - 3), h2 with
  | [x, y, z], _ => exact ⟨_, x, y, z, by rw [hd] at h1; exact h1, rfl⟩
theorem sum_seal (l : List Int) (hb : ∀ c ∈ l, 0 ≤ c ∧ c ≤ 255) (h : 3 ≤ l.length) : sumOf l = 0 ↔ sealOf (l.take (l.length - 3)) = l := by
  obtain ⟨a, x, y, z, e, ha⟩ := split_three l h
  rw [← ha]
  subst e
  have hx := hb x (by simp)
  have hy := hb y (by simp)
  have hz := hb z (by simp)
  have hab : ∀ c ∈ a, 0 ≤ c ∧ c ≤ 255 := fun c hc => hb c (by simp [hc])
  have hs := sumOf_lt a hab
  have e1 : sumOf (a ++ [x, y, z]) = crcStep (crcStep (crcStep (sumOf a) x.toNat) y.toNat) z.toNat := by
    unfold sumOf
    rw [List.map_append, crcAddN_append]
    rfl
  rw [e1, sealed_iff _ _ _ _ hs (by omega) (by omega) (by omega)]
  unfold sealOf three
  constructor
  · rintro ⟨h1, h2, h3⟩
    rw [← h1, ← h2, ← h3, Int.toNat_of_nonneg hx.1, Int.toNat_of_nonneg hy.1, Int.toNat_of_nonneg hz.1]
  · intro h1
    have h2 := List.append_cancel_left h1
    simp only [List.cons.injEq, and_true] at h2
    omega
/-- What is opened: by the program and by the reference alike. -/
theorem opens (l : List Int) (k : Nat) (hl : l.length ≤ 100000) (hb : ∀ c ∈ l, 0 ≤ c ∧ c ≤ 255) (hk : 10 * l.length < k) : ∃ r, crc_Open.f k l = some r ∧ pennantref02_Open.f k l = some r := by
  unfold crc_Open.f pennantref02_Open.f
  by_cases h : l.length < 3
  · rw [if_pos h, if_pos h]; exact ⟨_, rfl, rfl⟩
  · rw [if_neg h, if_neg h]
    have hs := sum_seal l hb (by omega)
    have hlt : (l.take (l.length - 3)).length ≤ l.length := by rw [List.length_take]; omega
    have h1 := own_sumOf l k hb
    have h2 := ref_seal (l.take (l.length - 3)) k (by omega) (bytes_take hb _) (by omega)
    have h3 := str_iff (sealOf (l.take (l.length - 3))) l (seal_byte _ (bytes_take hb _)) hb
    by_cases hz : sumOf l = 0
    · refine ⟨(l.take (l.length - 3), true), bind_of h1 ?_, bind_of h2 ?_⟩
      · rw [if_pos (by omega), if_pos (by omega)]
      · rw [if_pos (h3.2 (hs.1 hz)), if_pos (by omega)]
    · refine ⟨([], false), bind_of h1 ?_, bind_of h2 ?_⟩
      · rw [if_neg (by omega)]
      · rw [if_neg (fun h4 => hz (hs.2 (h3.1 h4)))]

theorem ref_open_is (l : List Int) (k : Nat) (hl : l.length ≤ 100000) (hb : ∀ c ∈ l, 0 ≤ c ∧ c ≤ 255) (hk : 10 * l.length < k) : pennantref02_Open.f k l = some (openOf l) := by
  obtain ⟨r, h1, h2⟩ := opens l k hl hb hk
  rw [h2, ← h1]
  have h3 : crc_Open.f k l = crc_Open.f 1 l := by
    unfold crc_Open.f crc_Sum.f crc_Add.f
    rfl
  rw [h3]
  exact open_is l hb (by omega)
theorem open_seal (b : List Int) (hb : ∀ c ∈ b, 0 ≤ c ∧ c ≤ 255) (hl : b.length ≤ 90000) : openOf (sealOf b) = (b, true) := by
  have hlen : (sealOf b).length = b.length + 3 := by simp [sealOf, three]
  have ht : (sealOf b).take ((sealOf b).length - 3) = b := by rw [hlen]; simp [sealOf]
  have hs := (sum_seal (sealOf b) (seal_byte b hb) (by omega)).2 (by rw [ht])
  have h := open_is (sealOf b) (seal_byte b hb) (by omega)
  have h2 : crc_Open.f 1 (sealOf b) = some (b, true) := by
    unfold crc_Open.f
    rw [if_neg (by omega)]
    refine bind_of (own_sumOf (sealOf b) 1 (seal_byte b hb)) ?_
    rw [hs, if_pos (show ((0 : Nat) : Int) = 0 from rfl), if_pos (by omega), ht]
  rw [h] at h2
  exact Option.some.inj h2
end Go.Proofs.YtlbmfbbdfmmfnaaDoor.PRdr
