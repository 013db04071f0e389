/- The plain mathematics of the sum of 24 bits: the step over four bits by the table is four single steps; all of it is linear under XOR. No program in sight. -/
import Derived.Laws.BitsAllLaws
import Derived.Below
import Derived.Deep.Draws
namespace Go.Proofs.YtlbmfbbdfmmfnaaDoor
open Go

/-- One single step: doubled, and reduced. -/
def crcBit (s : Nat) : Nat := (2 * s) ^^^ (if s.testBit 23 then 25578747 else 0)
def crcBit4 (s : Nat) : Nat := crcBit (crcBit (crcBit (crcBit s)))
def crcBit8 (s : Nat) : Nat := crcBit4 (crcBit4 s)
def crcStep (s c : Nat) : Nat := crcBit8 (s ^^^ c * 65536)
def crcAddN (s : Nat) (l : List Nat) : Nat := l.foldl crcStep s

theorem two_xor (a b : Nat) : 2 * (a ^^^ b) = (2 * a) ^^^ (2 * b) := by
  have h := Nat.shiftLeft_xor_distrib (a := a) (b := b) (i := 1)
  simp only [Nat.shiftLeft_eq] at h
  rw [Nat.mul_comm 2, Nat.mul_comm 2, Nat.mul_comm 2]
  exact h
theorem pow_xor (a b : Nat) : (a ^^^ b) * 65536 = (a * 65536) ^^^ (b * 65536) := by
  have h := Nat.shiftLeft_xor_distrib (a := a) (b := b) (i := 16)
  simp only [Nat.shiftLeft_eq] at h
  exact h
theorem xor_swap (a b c d : Nat) : (a ^^^ b) ^^^ (c ^^^ d) = (a ^^^ c) ^^^ (b ^^^ d) := by
  simp only [Nat.xor_assoc]
  congr 1
  rw [← Nat.xor_assoc, ← Nat.xor_assoc, Nat.xor_comm b c]
theorem crcBit_lin (a b : Nat) : crcBit (a ^^^ b) = crcBit a ^^^ crcBit b := by
  unfold crcBit
  rw [two_xor, Nat.testBit_xor, xor_swap]
  congr 1
  cases a.testBit 23 <;> cases b.testBit 23 <;> simp
theorem crcBit4_lin (a b : Nat) : crcBit4 (a ^^^ b) = crcBit4 a ^^^ crcBit4 b := by simp only [crcBit4, crcBit_lin]
theorem crcBit8_lin (a b : Nat) : crcBit8 (a ^^^ b) = crcBit8 a ^^^ crcBit8 b := by simp only [crcBit8, crcBit4_lin]

theorem testBit23 (s : Nat) (h : s < 16777216) : s.testBit 23 = decide (8388608 ≤ s) := by
  rw [Nat.testBit_eq_decide_div_mod_eq]
  congr 1
  rw [eq_iff_iff]
  omega
theorem crcBit_small (s : Nat) (h : s < 8388608) : crcBit s = 2 * s := by
  unfold crcBit
  rw [testBit23 s (by omega), if_neg (by simp; omega), Nat.xor_zero]
theorem crcBit_lt (s : Nat) (h : s < 16777216) : crcBit s < 16777216 := by
  by_cases hs : s < 8388608
  · rw [crcBit_small s hs]; omega
  · unfold crcBit
    rw [testBit23 s h, if_pos (by simp; omega)]
    have h1 : (2 * s).testBit 24 = true := by
      rw [Nat.testBit_eq_decide_div_mod_eq]; simp; omega
    have h2 : (2 * s) ^^^ 25578747 < 2 ^ 25 := Nat.xor_lt_two_pow (by omega) (by omega)
    have h3 : ((2 * s) ^^^ 25578747).testBit 24 = false := by
      rw [Nat.testBit_xor, h1]; decide
    rw [Nat.testBit_eq_decide_div_mod_eq] at h3
    simp at h3
    omega
theorem crcBit4_lt (s : Nat) (h : s < 16777216) : crcBit4 s < 16777216 := crcBit_lt _ (crcBit_lt _ (crcBit_lt _ (crcBit_lt _ h)))
theorem crcBit8_lt (s : Nat) (h : s < 16777216) : crcBit8 s < 16777216 := crcBit4_lt _ (crcBit4_lt _ h)
theorem mix_lt (s c : Nat) (h : s < 16777216) (hc : c < 256) : s ^^^ c * 65536 < 16777216 := Nat.xor_lt_two_pow (n := 24) (by omega) (by omega)
theorem crcStep_lt (s c : Nat) (h : s < 16777216) (hc : c < 256) : crcStep s c < 16777216 := crcBit8_lt _ (mix_lt s c h hc)
theorem crcAddN_lt (l : List Nat) : ∀ (s : Nat), s < 16777216 → (∀ c ∈ l, c < 256) → crcAddN s l < 16777216 := by
  induction l with
  | nil => intro s h _; exact h
  | cons c l ih => intro s h hc; exact ih _ (crcStep_lt s c h (hc c (by simp))) (fun x hx => hc x (by simp [hx]))
theorem crcAddN_append (s : Nat) (a b : List Nat) : crcAddN s (a ++ b) = crcAddN (crcAddN s a) b := by simp [crcAddN]

/-- The table of the program. -/
def crcTab (i : Nat) : Int := [0, 8801531, 9098509, 825846, 9692897, 1419802, 1651692, 10452759, 10584377, 2608578, 2839604, 11344079, 3303384, 11807523, 12104405, 4128302].getD i 0
theorem crcTab_bit4 : ∀ i, i < 16 → crcTab i = (crcBit4 (i * 1048576) : Nat) := by decide
theorem crcTab_range (i : Nat) : 0 ≤ crcTab i ∧ crcTab i < 16777216 := by
  by_cases h : i < 16
  · rw [crcTab_bit4 i h]
    have := crcBit4_lt (i * 1048576) (by omega)
    omega
  · unfold crcTab
    rw [List.getD_eq_getElem?_getD, List.getElem?_eq_none (by simp; omega)]
    simp
theorem add_xor (a b i : Nat) (h : b < 2 ^ i) : a * 2 ^ i + b = (a * 2 ^ i) ^^^ b := by
  have h1 := Nat.shiftLeft_add_eq_or_of_lt h a
  rw [Nat.shiftLeft_eq] at h1
  rw [h1]
  apply Nat.eq_of_testBit_eq
  intro j
  rw [Nat.testBit_or, Nat.testBit_xor, ← Nat.shiftLeft_eq, Nat.testBit_shiftLeft]
  by_cases hj : j ≥ i
  · rw [Nat.testBit_lt_two_pow (Nat.lt_of_lt_of_le h (Nat.pow_le_pow_right (by decide) hj))]; simp
  · simp [hj]
theorem crcBit4_small (s : Nat) (h : s < 1048576) : crcBit4 s = 16 * s := by
  unfold crcBit4
  rw [crcBit_small s (by omega), crcBit_small (2 * s) (by omega), crcBit_small (2 * (2 * s)) (by omega), crcBit_small (2 * (2 * (2 * s))) (by omega)]
  omega
theorem crcBit4_tab (s : Nat) (h : s < 16777216) : crcBit4 s = (16 * s % 16777216) ^^^ (crcTab (s / 1048576)).toNat := by
  have h1 := add_xor (s / 1048576) (s % 1048576) 20 (Nat.mod_lt _ (by decide))
  have h2 : s / 1048576 * 2 ^ 20 + s % 1048576 = s := by omega
  rw [h2] at h1
  have e1 := crcTab_bit4 (s / 1048576) (by omega)
  rw [e1, Int.toNat_natCast]
  have e2 := crcBit4_small (s % 1048576) (Nat.mod_lt _ (by decide))
  have e3 : 16 * s % 16777216 = 16 * (s % 1048576) := by omega
  rw [e3, ← e2, Nat.xor_comm, ← crcBit4_lin]
  exact congrArg crcBit4 h1

/-- Four bits, as the program steps them. -/
def crcNib (s : Int) : Int := bits .xor .u32 (bits .and .u32 (s * 16) 16777215) (crcTab (s / 1048576).toNat)
def crcMix (s c : Int) : Int := bits .xor .u32 s (c * 65536)
def crcByte (s c : Int) : Int := crcNib (crcNib (crcMix s c))
def crcFold (s : Int) (l : List Int) : Int := l.foldl crcByte s

theorem u32_mask (a : Nat) (h : a < 4294967296) : bits .and .u32 (a : Int) 16777215 = ((a % 16777216 : Nat) : Int) := by
  have := u32_and_nat a 16777215 h (by decide)
  rw [show ((16777215 : Nat) : Int) = 16777215 from rfl] at this
  rw [this, show (16777215 : Nat) = 2 ^ 24 - 1 from rfl, Nat.and_two_pow_sub_one_eq_mod]
theorem crcNib_nat (s : Nat) (h : s < 16777216) : crcNib (s : Int) = (crcBit4 s : Nat) := by
  unfold crcNib
  have e1 : ((s : Int) * 16) = ((16 * s : Nat) : Int) := by omega
  have e2 : ((s : Int) / 1048576).toNat = s / 1048576 := by omega
  rw [e1, u32_mask _ (by omega), e2]
  have hr := crcTab_range (s / 1048576)
  rw [u32_xor _ _ (by omega) (by omega) (by omega) (by omega), crcBit4_tab s h, Int.toNat_natCast]
theorem crcMix_nat (s c : Nat) (h : s < 16777216) (hc : c < 256) : crcMix (s : Int) (c : Int) = (s ^^^ c * 65536 : Nat) := by
  unfold crcMix
  rw [u32_xor _ _ (by omega) (by omega) (by omega) (by omega), Int.toNat_natCast, show ((c : Int) * 65536).toNat = c * 65536 by omega]
theorem crcByte_nat (s c : Nat) (h : s < 16777216) (hc : c < 256) : crcByte (s : Int) (c : Int) = (crcStep s c : Nat) := by
  unfold crcByte crcStep crcBit8
  rw [crcMix_nat s c h hc, crcNib_nat _ (mix_lt s c h hc), crcNib_nat _ (crcBit4_lt _ (mix_lt s c h hc))]
theorem crcFold_nat (l : List Int) : ∀ (s : Nat), s < 16777216 → (∀ c ∈ l, 0 ≤ c ∧ c ≤ 255) → crcFold (s : Int) l = (crcAddN s (l.map Int.toNat) : Nat) := by
  induction l with
  | nil => intro s _ _; rfl
  | cons c l ih =>
    intro s h hc
    have hc0 := hc c (by simp)
    obtain ⟨n, rfl⟩ := Int.eq_ofNat_of_zero_le hc0.1
    show crcFold (crcByte s n) l = _
    rw [crcByte_nat s n h (by omega), ih _ (crcStep_lt s n h (by omega)) (fun x hx => hc x (by simp [hx]))]
    simp [crcAddN]
theorem crcMix_range (s c : Int) (h0 : 0 ≤ s) (h1 : s < 16777216) (c0 : 0 ≤ c) (c1 : c ≤ 255) : 0 ≤ crcMix s c ∧ crcMix s c < 16777216 := by
  obtain ⟨n, rfl⟩ := Int.eq_ofNat_of_zero_le h0
  obtain ⟨m, rfl⟩ := Int.eq_ofNat_of_zero_le c0
  rw [crcMix_nat n m (by omega) (by omega)]
  have := mix_lt n m (by omega) (by omega)
  omega
theorem crcNib_range (s : Int) (h0 : 0 ≤ s) (h1 : s < 16777216) : 0 ≤ crcNib s ∧ crcNib s < 16777216 := by
  obtain ⟨n, rfl⟩ := Int.eq_ofNat_of_zero_le h0
  rw [crcNib_nat n (by omega)]
  have := crcBit4_lt n (by omega)
  omega
theorem crcByte_range (s c : Int) (h0 : 0 ≤ s) (h1 : s < 16777216) (c0 : 0 ≤ c) (c1 : c ≤ 255) : 0 ≤ crcByte s c ∧ crcByte s c < 16777216 := by
  have hm := crcMix_range s c h0 h1 c0 c1
  have hn := crcNib_range _ hm.1 hm.2
  exact crcNib_range _ hn.1 hn.2
theorem crcFold_take (s : Int) (l : List Int) (i : Nat) (h : i < l.length) : crcFold s (l.take (i + 1)) = crcByte (crcFold s (l.take i)) l[i] := by
  rw [List.take_succ_eq_append_getElem h, crcFold, List.foldl_append]
  rfl
def crcNibs (s : Int) : Nat → Int
  | 0 => s
  | j + 1 => crcNib (crcNibs s j)
theorem crcNibs_range (s : Int) (h0 : 0 ≤ s) (h1 : s < 16777216) : ∀ j, 0 ≤ crcNibs s j ∧ crcNibs s j < 16777216
  | 0 => ⟨h0, h1⟩
  | j + 1 => crcNib_range _ (crcNibs_range s h0 h1 j).1 (crcNibs_range s h0 h1 j).2
theorem crcMask_range (a : Int) (h0 : 0 ≤ a) (h1 : a < 4294967296) : 0 ≤ bits .and .u32 a 16777215 ∧ bits .and .u32 a 16777215 < 16777216 := by
  obtain ⟨n, rfl⟩ := Int.eq_ofNat_of_zero_le h0
  rw [u32_mask n (by omega)]
  omega
theorem crcFold_range (l : List Int) : ∀ s : Int, 0 ≤ s → s < 16777216 → (∀ c ∈ l, 0 ≤ c ∧ c ≤ 255) → 0 ≤ crcFold s l ∧ crcFold s l < 16777216 := by
  induction l with
  | nil => intro s h0 h1 _; exact ⟨h0, h1⟩
  | cons c l ih =>
    intro s h0 h1 hc
    have h := crcByte_range s c h0 h1 (hc c (by simp)).1 (hc c (by simp)).2
    exact ih _ h.1 h.2 (fun x hx => hc x (by simp [hx]))
/-- The table lies in memory: block 0. -/
def TabOk (w : World) : Prop := ∀ i, i < 16 → w.cell? ⟨0, i, none⟩ = some (.int .u32 (crcTab i))
theorem TabOk.below {w w1 : World} (h : TabOk w) (hb : RowKit.Below w.heap.size w w1) : TabOk w1 := fun i hi =>
  (hb.cell (p := ⟨0, i, none⟩) (World.block_lt_of_cell? w ⟨0, i, none⟩ (h i hi))).trans (h i hi)
theorem TabOk.drewN {w : World} (h : TabOk w) (n : Nat) : TabOk (w.drewN n) := h
end Go.Proofs.YtlbmfbbdfmmfnaaDoor
