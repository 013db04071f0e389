/- The plain law of FramePuts: a frame is the Stuff of what is sealed, a nought behind; for all bytes. -/
import Derived.Test.YtlbmfbbdfmmfnaaDoorPPutsx0
import Derived.Test.YtlbmfbbdfmmfnaaDoorPPutsx1
import Derived.Test.YtlbmfbbdfmmfnaaDoorPPutsx2
import Derived.Lib.Bytes
namespace Go.Proofs.YtlbmfbbdfmmfnaaDoor.PPuts
open Go.RowKit Go.Proofs.YtlbmfbbdfmmfnaaDoorW.PrintWords Go.Proofs.YtlbmfbbdfmmfnaaDoorW.PrintLast Go.Proofs.YtlbmfbbdfmmfnaaDoorW.PrintMore
set_option linter.unusedVariables false
set_option linter.unusedSimpArgs false
theorem fr_bytes {l : List Int} (h : ∀ x ∈ l, (Lit.int .u8 x).wf = true) : ∀ c ∈ l, 0 ≤ c ∧ c ≤ 255 := by
  intro c hc
  have := h c hc
  simp [Lit.wf, IntKind.min, IntKind.max, IntKind.bits, IntKind.signed] at this
  omega
theorem fr_bind {α β : Type} {a : Option α} {f : α → Option β} {x : α} {r : Option β} (h : a = some x) (k : f x = r) : a.bind f = r := by rw [h]; exact k
theorem fr_awake (k : Nat) : pennantlaw04_awake.f k = some true := by
  unfold pennantlaw04_awake.f
  refine fr_bind (x := [2, 7, 2, 8]) ?_ ?_
  · unfold frame_Stuff.f
    rw [if_pos ⟨by decide, by decide⟩]
    congr 1
  · rw [Lib.strOfNums_toList]
    rfl
theorem len_rel : ∀ (rs : List (List Int)), (∀ r ∈ rs, r.length ≤ 254) → ∃ g, (stuffOf rs).length = (unruns rs).length + g ∧ 254 * g ≤ (unruns rs).length ∧ (lastLen rs < 254 → 254 * g + 1 ≤ (unruns rs).length)
  | [], _ => ⟨0, rfl, by simp, fun h => by simp [lastLen] at h⟩
  | r :: rs, h => by
    obtain ⟨g, h1, h2, h3⟩ := len_rel rs (fun x hx => h x (List.mem_cons_of_mem _ hx))
    have hr := h r List.mem_cons_self
    have e1 : (stuffOf (r :: rs)).length = r.length + 1 + (stuffOf rs).length := by rw [stuffOf_cons]; simp; omega
    have e2 : (unruns (r :: rs)).length = (unrun r).length + (unruns rs).length := by simp [unruns]
    by_cases hs : r.length < 254
    · have e3 : (unrun r).length = r.length + 1 := by simp [unrun, hs]
      exact ⟨g, by omega, by omega, fun _ => by omega⟩
    · have e3 : (unrun r).length = 254 := by simp [unrun, hs]; omega
      refine ⟨g + 1, by omega, by omega, fun hl => ?_⟩
      by_cases hn : rs = []
      · subst hn
        simp [lastLen] at hl
        omega
      · have e : lastLen (r :: rs) = lastLen rs := by
          unfold lastLen
          rw [List.getLast?_cons_of_ne_nil hn]
        rw [e] at hl
        have := h3 hl
        omega
theorem stuffed_len (b : List Int) : b.length < (stuffed b).length ∧ (stuffed b).length ≤ b.length + 1 + b.length / 254 := by
  obtain ⟨h1, h2, h3, h4⟩ := runs_good (b.length + 1) (b ++ [0]) (by simp) (.inr ⟨_, rfl⟩)
  obtain ⟨g, e1, e2, e3⟩ := len_rel _ h2
  have e4 := e3 (h4 (by simp))
  rw [h3] at e1 e2 e4
  simp only [List.length_append, List.length_cons, List.length_nil] at e1 e2 e4
  have e5 : (stuffed b).length = b.length + (0 + 1) + g := e1
  omega
theorem stuffed_nz (b : List Int) : ∀ c ∈ stuffed b, c ≠ 0 := by
  obtain ⟨h1, h2, h3, h4⟩ := runs_good (b.length + 1) (b ++ [0]) (by simp) (.inr ⟨_, rfl⟩)
  intro c hc
  obtain ⟨r, hr, hc⟩ := List.mem_flatMap.1 hc
  rcases List.mem_cons.1 hc with rfl | hc
  · omega
  · rintro rfl
    exact h1 r hr hc
/-- One single step, as the reference writes it. -/
theorem ref_bit (s : Nat) (h : s < 16777216) : (if ((2 * (s : Int)) % 4294967296) ≥ 16777216 then Go.bits .xor .u32 ((2 * (s : Int)) % 4294967296) 25578747 else ((2 * (s : Int)) % 4294967296)) = (crcBit s : Nat) := by
  have e : (2 * (s : Int)) % 4294967296 = ((2 * s : Nat) : Int) := by omega
  rw [e]
  unfold crcBit
  rw [testBit23 s h]
  by_cases hs : 8388608 ≤ s
  · rw [if_pos (by omega), if_pos (by simpa using hs)]
    exact u32_xor_nat (2 * s) 25578747 (by omega) (by decide)
  · rw [if_neg (by omega), if_neg (by simpa using hs), Nat.xor_zero]
def bits_n : Nat → Nat → Nat
  | 0, s => s
  | n + 1, s => bits_n n (crcBit s)
theorem bits_n_lt : ∀ n s, s < 16777216 → bits_n n s < 16777216
  | 0, _, h => h
  | n + 1, s, h => bits_n_lt n _ (crcBit_lt s h)
theorem ref_l1 (l : List Int) (i : Int) : ∀ (d k : Nat) (s : Nat), s < 16777216 → d ≤ 8 → d < k →
    pennantref02_Add.l1 k l (s : Int) i ((8 - d : Nat) : Int) = pennantref02_Add.l0 (k - d - 1) l ((bits_n d s : Nat) : Int) (wrap64 (i + 1))
  | 0, k, s, h, hd, hk => by
    obtain ⟨k, rfl⟩ : ∃ m, k = m + 1 := ⟨k - 1, by omega⟩
    simp only [pennantref02_Add.l1]
    rw [if_neg (by omega)]
    rfl
  | d + 1, k, s, h, hd, hk => by
    obtain ⟨k, rfl⟩ : ∃ m, k = m + 1 := ⟨k - 1, by omega⟩
    simp only [pennantref02_Add.l1]
    rw [if_pos (by omega)]
    have hw : wrap64 (((8 - (d + 1) : Nat) : Int) + 1) = ((8 - d : Nat) : Int) := by unfold wrap64; omega
    have hb := ref_bit s h
    have ih := ref_l1 l i d k (crcBit s) (crcBit_lt s h) (by omega) (by omega)
    rw [hw]
    have e2 : k + 1 - (d + 1) - 1 = k - d - 1 := by omega
    rw [e2]
    by_cases hs : ((2 * (s : Int)) % 4294967296) ≥ 16777216
    · rw [if_pos hs] at hb ⊢
      rw [hb]; exact ih
    · rw [if_neg hs] at hb ⊢
      rw [hb]; exact ih
theorem bits_8 (s : Nat) : bits_n 8 s = crcBit8 s := rfl
theorem ref_l0 (l : List Int) (hl : l.length ≤ 140737488351232) (hb : ∀ c ∈ l, 0 ≤ c ∧ c ≤ 255) : ∀ (d k : Nat) (s i : Nat), s < 16777216 → i + d = l.length → 10 * d < k →
    pennantref02_Add.l0 k l (s : Int) (i : Int) = some ((crcAddN s ((l.drop i).map Int.toNat) : Nat) : Int)
  | 0, k, s, i, h, hd, hk => by
    obtain ⟨k, rfl⟩ : ∃ m, k = m + 1 := ⟨k - 1, by omega⟩
    simp only [pennantref02_Add.l0]
    rw [if_neg (by omega), List.drop_eq_nil_of_le (by omega)]
    rfl
  | d + 1, k, s, i, h, hd, hk => by
    obtain ⟨k, rfl⟩ : ∃ m, k = m + 1 := ⟨k - 1, by omega⟩
    simp only [pennantref02_Add.l0]
    have hi : i < l.length := by omega
    rw [if_pos (by omega), if_pos (by omega)]
    have hrd : rd l (i : Int) = l[i] := by simp [rd, List.getD_eq_getElem?_getD, List.getElem?_eq_getElem hi]
    have hc := hb l[i] (List.getElem_mem hi)
    obtain ⟨c, hcc⟩ := Int.eq_ofNat_of_zero_le hc.1
    have e1 : Go.bits .xor .u32 (s : Int) (((rd l (i : Int)) % 4294967296 * 65536) % 4294967296) = ((s ^^^ c * 65536 : Nat) : Int) := by
      rw [hrd, hcc]
      have e : (((c : Int)) % 4294967296 * 65536) % 4294967296 = ((c * 65536 : Nat) : Int) := by omega
      rw [e]
      exact u32_xor_nat s (c * 65536) (by omega) (by omega)
    rw [e1]
    have hm := mix_lt s c h (by omega)
    have h1 := ref_l1 l (i : Int) 8 k (s ^^^ c * 65536) hm (by omega) (by omega)
    rw [show ((8 - 8 : Nat) : Int) = 0 from rfl] at h1
    rw [h1, bits_8]
    have hw : wrap64 ((i : Int) + 1) = ((i + 1 : Nat) : Int) := by unfold wrap64; omega
    rw [hw, ref_l0 l hl hb d (k - 8 - 1) (crcBit8 (s ^^^ c * 65536)) (i + 1) (crcBit8_lt _ hm) (by omega) (by omega)]
    rw [List.drop_eq_getElem_cons hi, List.map_cons, hcc]
    rfl
theorem ref_add (a : Int) (l : List Int) (k : Nat) (h0 : 0 ≤ a) (hl : l.length ≤ 140737488351232) (hb : ∀ c ∈ l, 0 ≤ c ∧ c ≤ 255) (hk : 10 * l.length < k) :
    pennantref02_Add.f k a l = some ((crcAddN (a % 16777216).toNat (l.map Int.toNat) : Nat) : Int) := by
  unfold pennantref02_Add.f
  have e : Int.tmod a 16777216 = ((a % 16777216).toNat : Int) := by
    rw [Int.tmod_eq_emod_of_nonneg h0]; omega
  rw [e]
  have := ref_l0 l hl hb l.length k (a % 16777216).toNat 0 (by omega) (by omega) (by omega)
  simpa using this
theorem own_add (a : Int) (l : List Int) (k : Nat) (h0 : 0 ≤ a) (h1 : a < 4294967296) (hb : ∀ c ∈ l, 0 ≤ c ∧ c ≤ 255) :
    crc_Add.f k a l = some ((crcAddN (a % 16777216).toNat (l.map Int.toNat) : Nat) : Int) := by
  unfold crc_Add.f
  rw [if_pos ⟨h0, h1, hb⟩]
  obtain ⟨n, rfl⟩ := Int.eq_ofNat_of_zero_le h0
  rw [u32_mask n (by omega), crcFold_nat l _ (by omega) hb]
  congr 4
theorem bytes_of_wf {l : List Int} (h : ∀ x ∈ l, (Lit.int .u8 x).wf = true) : ∀ c ∈ l, 0 ≤ c ∧ c ≤ 255 := by
  intro c hc
  have := h c hc
  simpa [Lit.wf, IntKind.min, IntKind.max, IntKind.signed, IntKind.bits] using this
theorem u32_of_wf {a : Int} (h : (Lit.int .u32 a).wf = true) : 0 ≤ a ∧ a < 4294967296 := by
  have : 0 ≤ a ∧ a ≤ 4294967295 := by simpa [Lit.wf, IntKind.min, IntKind.max, IntKind.signed, IntKind.bits] using h
  omega
theorem own_sum (l : List Int) (k : Nat) (hb : ∀ c ∈ l, 0 ≤ c ∧ c ≤ 255) : crc_Sum.f k l = some ((crcAddN 11994318 (l.map Int.toNat) : Nat) : Int) := by
  unfold crc_Sum.f
  rw [own_add 11994318 l k (by decide) (by decide) hb]
  rfl
theorem bind_of {α β : Type} {o : Option α} {x : α} {f : α → Option β} {r : Option β} (h : o = some x) (h2 : f x = r) : o.bind f = r := by rw [h]; exact h2
theorem nat_lt (l : List Int) (hb : ∀ c ∈ l, 0 ≤ c ∧ c ≤ 255) : ∀ c ∈ l.map Int.toNat, c < 256 := by
  intro c hc
  obtain ⟨x, hx, rfl⟩ := List.mem_map.1 hc
  have := hb x hx
  omega
/-- The sum of bytes. -/
def sumOf (l : List Int) : Nat := crcAddN 11994318 (l.map Int.toNat)
theorem sumOf_lt (l : List Int) (hb : ∀ c ∈ l, 0 ≤ c ∧ c ≤ 255) : sumOf l < 16777216 := crcAddN_lt _ _ (by decide) (nat_lt l hb)
theorem own_sumOf (l : List Int) (k : Nat) (hb : ∀ c ∈ l, 0 ≤ c ∧ c ≤ 255) : crc_Sum.f k l = some ((sumOf l : Nat) : Int) := own_sum l k hb
/-- The three bytes of a sum. -/
def three (s : Nat) : List Int := [((s / 65536 : Nat) : Int), ((s / 256 % 256 : Nat) : Int), ((s % 256 : Nat) : Int)]
def sealOf (l : List Int) : List Int := l ++ three (sumOf l)
theorem own_seal (l : List Int) (k : Nat) (hl : l.length ≤ 140737488351232) (hb : ∀ c ∈ l, 0 ≤ c ∧ c ≤ 255) : crc_Seal.f k l = some (sealOf l) := by
  unfold crc_Seal.f
  have h := sumOf_lt l hb
  unfold sealOf
  refine bind_of (own_sumOf l k hb) ?_
  rw [if_pos ⟨by omega, by omega, by omega⟩]
  rfl
theorem ref_three (s : Nat) (h : s < 16777216) : ([((Int.tdiv (s : Int) 65536) % 4294967296) % 256, ((Int.tdiv (s : Int) 256) % 4294967296) % 256, (Int.tmod (s : Int) 256) % 256] : List Int) = three s := by
  have e1 : Int.tdiv (s : Int) 65536 = ((s / 65536 : Nat) : Int) := rfl
  have e2 : Int.tdiv (s : Int) 256 = ((s / 256 : Nat) : Int) := rfl
  have e3 : Int.tmod (s : Int) 256 = ((s % 256 : Nat) : Int) := rfl
  rw [e1, e2, e3]
  unfold three
  have a1 : ((s / 65536 : Nat) : Int) % 4294967296 % 256 = ((s / 65536 : Nat) : Int) := by omega
  have a2 : ((s / 256 : Nat) : Int) % 4294967296 % 256 = ((s / 256 % 256 : Nat) : Int) := by omega
  have a3 : ((s % 256 : Nat) : Int) % 256 = ((s % 256 : Nat) : Int) := by omega
  rw [a1, a2, a3]
theorem ref_seal (l : List Int) (k : Nat) (hl : l.length ≤ 140737488351232) (hb : ∀ c ∈ l, 0 ≤ c ∧ c ≤ 255) (hk : 10 * l.length < k) : pennantref02_Seal.f k l = some (sealOf l) := by
  have hs : pennantref02_Sum.f k l = some ((sumOf l : Nat) : Int) := by
    unfold pennantref02_Sum.f
    exact bind_of (ref_add 11994318 l k (by decide) hl hb hk) rfl
  unfold pennantref02_Seal.f
  refine bind_of hs (bind_of rfl ?_)
  rw [if_pos (by simp; omega)]
  refine bind_of rfl (bind_of rfl ?_)
  rw [if_pos (by simp; omega), ref_three _ (sumOf_lt l hb)]
  rfl
theorem bytes_take {l : List Int} (h : ∀ c ∈ l, 0 ≤ c ∧ c ≤ 255) (n : Nat) : ∀ c ∈ l.take n, 0 ≤ c ∧ c ≤ 255 := fun c hc => h c (List.mem_of_mem_take hc)
theorem three_byte (s : Nat) (h : s < 16777216) : ∀ c ∈ three s, 0 ≤ c ∧ c ≤ 255 := by
  intro c hc
  simp only [three, List.mem_cons, List.not_mem_nil, or_false] at hc
  rcases hc with rfl | rfl | rfl <;> omega
theorem seal_byte (l : List Int) (hb : ∀ c ∈ l, 0 ≤ c ∧ c ≤ 255) : ∀ c ∈ sealOf l, 0 ≤ c ∧ c ≤ 255 := by
  intro c hc
  rcases List.mem_append.1 hc with h | h
  · exact hb c h
  · exact three_byte _ (sumOf_lt l hb) c h
theorem seal_len (l : List Int) : (sealOf l).length = l.length + 3 := by simp [sealOf, three]
theorem own_put (b : List Int) (k : Nat) (hb : ∀ c ∈ b, 0 ≤ c ∧ c ≤ 255) (hl : b.length ≤ 20000) : frame_Put.f k b = some (if b.length > 2048 then ([], 1) else (stuffed (sealOf b) ++ [0], 0)) := by
  unfold frame_Put.f
  by_cases h : b.length > 2048
  · rw [if_pos (by omega), if_pos h]
  · rw [if_neg (by omega), if_neg h]
    refine bind_of (own_seal b k (by omega) hb) ?_
    have e := seal_len b
    have hs := stuffed_len (sealOf b)
    refine bind_of (x := stuffed (sealOf b)) ?_ ?_
    · unfold frame_Stuff.f
      rw [if_pos ⟨by omega, seal_byte b hb⟩]
    · rw [if_pos (by omega)]
theorem ref_put (b : List Int) (k : Nat) (hb : ∀ c ∈ b, 0 ≤ c ∧ c ≤ 255) (hl : b.length ≤ 20000) (hk : 10 * b.length < k) : pennantref04_Put.f k b = some (if b.length > 2048 then ([], 1) else (stuffed (sealOf b) ++ [0], 0)) := by
  unfold pennantref04_Put.f
  by_cases h : b.length > 2048
  · rw [if_pos (by omega), if_pos h]
  · rw [if_neg (by omega), if_neg h]
    refine bind_of (ref_seal b k (by omega) hb hk) ?_
    have e := seal_len b
    have hs := stuffed_len (sealOf b)
    refine bind_of (x := stuffed (sealOf b)) ?_ ?_
    · unfold pennantref04_Stuff.f
      rw [if_pos ⟨by omega, seal_byte b hb⟩]
    · rw [if_pos (by omega)]
theorem pure_FramePuts : pennantlaw04_FramePuts.Pure := by
  intro b _ hb bb
  have bb := fr_bytes bb
  refine ⟨10 * b.length + 1, ?_⟩
  unfold pennantlaw04_FramePuts.f
  refine bind_of (fr_awake _) ?_
  by_cases h : b.length > 10000
  · rw [if_pos (by omega)]
  · rw [if_neg (by omega)]
    refine bind_of (own_put b _ bb (by omega)) (bind_of (ref_put b _ bb (by omega) (by omega)) ?_)
    rw [if_pos rfl, if_pos rfl]
    simp
end Go.Proofs.YtlbmfbbdfmmfnaaDoor.PPuts
namespace Go.Proofs.YtlbmfbbdfmmfnaaDoor.Pure
theorem FramePuts : PPuts.pennantlaw04_FramePuts.Pure := PPuts.pure_FramePuts
end Go.Proofs.YtlbmfbbdfmmfnaaDoor.Pure
