/- The plain law of CrcThree: of three texts of one length, XORed byte by byte, the sum is the XOR of the sums, for all bytes. -/
import Derived.Test.YtlbmfbbdfmmfnaaDoorPCrcThreex0
import Derived.Test.YtlbmfbbdfmmfnaaDoorPCrcThreex1
namespace Go.Proofs.YtlbmfbbdfmmfnaaDoor.PCrcThree
open Go.RowKit Go.Proofs.YtlbmfbbdfmmfnaaDoorW.PrintWords Go.Proofs.YtlbmfbbdfmmfnaaDoorW.PrintLast Go.Proofs.YtlbmfbbdfmmfnaaDoorW.PrintMore
set_option linter.unusedVariables false
set_option linter.unusedSimpArgs false
theorem own_add (a : Int) (l : List Int) (k : Nat) (h0 : 0 ≤ a) (h1 : a < 4294967296) (hb : ∀ c ∈ l, 0 ≤ c ∧ c ≤ 255) :
    crc_Add.f k a l = some ((crcAddN (a % 16777216).toNat (l.map Int.toNat) : Nat) : Int) := by
  unfold crc_Add.f
  rw [if_pos ⟨h0, h1, hb⟩]
  obtain ⟨n, rfl⟩ := Int.eq_ofNat_of_zero_le h0
  rw [u32_mask n (by omega), crcFold_nat l _ (by omega) hb]
  congr 4
theorem bytes_of_wf {l : List Int} (h : ∀ x ∈ l, (Lit.int .u8 x).wf = true) : ∀ c ∈ l, 0 ≤ c ∧ c ≤ 255 := by
  intro c hc
  have := h c hc
  simpa [Lit.wf, IntKind.min, IntKind.max, IntKind.signed, IntKind.bits] using this
theorem u32_of_wf {a : Int} (h : (Lit.int .u32 a).wf = true) : 0 ≤ a ∧ a < 4294967296 := by
  have : 0 ≤ a ∧ a ≤ 4294967295 := by simpa [Lit.wf, IntKind.min, IntKind.max, IntKind.signed, IntKind.bits] using h
  omega
theorem own_sum (l : List Int) (k : Nat) (hb : ∀ c ∈ l, 0 ≤ c ∧ c ≤ 255) : crc_Sum.f k l = some ((crcAddN 11994318 (l.map Int.toNat) : Nat) : Int) := by
  unfold crc_Sum.f
  rw [own_add 11994318 l k (by decide) (by decide) hb]
  rfl
theorem nine_digits : crcAddN 11994318 (([49, 50, 51, 52, 53, 54, 55, 56, 57] : List Int).map Int.toNat) = 2215682 := by decide +kernel
theorem awake_true (k : Nat) : pennantlaw02_awake.f k = some true := by
  unfold pennantlaw02_awake.f
  rw [own_sum _ k (by decide), nine_digits]
  rfl
def x3 (a b c : List Nat) : List Nat := List.zipWith (· ^^^ ·) (List.zipWith (· ^^^ ·) a b) c
theorem step3 (s t u a b c : Nat) : crcStep (s ^^^ t ^^^ u) (a ^^^ b ^^^ c) = crcStep s a ^^^ crcStep t b ^^^ crcStep u c := by
  unfold crcStep
  rw [← crcBit8_lin, ← crcBit8_lin, pow_xor, pow_xor]
  congr 1
  rw [xor_swap (s ^^^ t) u (a * 65536 ^^^ b * 65536) (c * 65536), xor_swap s t (a * 65536) (b * 65536)]
theorem add3 : ∀ (a b c : List Nat) (s t u : Nat), a.length = b.length → b.length = c.length → crcAddN (s ^^^ t ^^^ u) (x3 a b c) = crcAddN s a ^^^ crcAddN t b ^^^ crcAddN u c
  | [], [], [], s, t, u, _, _ => rfl
  | a :: la, b :: lb, c :: lc, s, t, u, h1, h2 => by
    have e : x3 (a :: la) (b :: lb) (c :: lc) = (a ^^^ b ^^^ c) :: x3 la lb lc := rfl
    rw [e]
    show crcAddN (crcStep _ _) _ = crcAddN (crcStep s a) la ^^^ crcAddN (crcStep t b) lb ^^^ crcAddN (crcStep u c) lc
    rw [step3]
    exact add3 la lb lc _ _ _ (by simpa using h1) (by simpa using h2)
  | [], _ :: _, _, _, _, _, h, _ => by simp at h
  | _ :: _, [], _, _, _, _, h, _ => by simp at h
  | _, [], _ :: _, _, _, _, _, h => by simp at h
  | _, _ :: _, [], _, _, _, _, h => by simp at h
def mixed (l m q : List Int) (j : Nat) : Int := Go.bits .xor .u8 (Go.bits .xor .u8 (rd l j) (rd m j)) (rd q j)
theorem rd_at (l : List Int) (j : Nat) (h : j < l.length) : rd l (j : Int) = l[j] := by simp [rd, List.getD_eq_getElem?_getD, List.getElem?_eq_getElem h]
theorem mixed_nat (l m q : List Int) (j : Nat) (hl : j < l.length) (hm : j < m.length) (hq : j < q.length) (lb : ∀ c ∈ l, 0 ≤ c ∧ c ≤ 255) (mb : ∀ c ∈ m, 0 ≤ c ∧ c ≤ 255) (qb : ∀ c ∈ q, 0 ≤ c ∧ c ≤ 255) :
    mixed l m q j = ((l[j].toNat ^^^ m[j].toNat ^^^ q[j].toNat : Nat) : Int) := by
  have h1 := lb _ (List.getElem_mem hl)
  have h2 := mb _ (List.getElem_mem hm)
  have h3 := qb _ (List.getElem_mem hq)
  unfold mixed
  rw [rd_at l j hl, rd_at m j hm, rd_at q j hq, u8_xor _ _ h1.1 (by omega) h2.1 (by omega)]
  have h4 : l[j].toNat ^^^ m[j].toNat < 2 ^ 8 := Nat.xor_lt_two_pow (by omega) (by omega)
  rw [u8_xor _ _ (by omega) (by omega) h3.1 (by omega), Int.toNat_natCast]
theorem mixed_byte (l m q : List Int) (j : Nat) (hl : j < l.length) (hm : j < m.length) (hq : j < q.length) (lb : ∀ c ∈ l, 0 ≤ c ∧ c ≤ 255) (mb : ∀ c ∈ m, 0 ≤ c ∧ c ≤ 255) (qb : ∀ c ∈ q, 0 ≤ c ∧ c ≤ 255) :
    0 ≤ mixed l m q j ∧ mixed l m q j ≤ 255 := by
  have h1 := lb _ (List.getElem_mem hl)
  have h2 := mb _ (List.getElem_mem hm)
  have h3 := qb _ (List.getElem_mem hq)
  rw [mixed_nat l m q j hl hm hq lb mb qb]
  have h4 : l[j].toNat ^^^ m[j].toNat < 2 ^ 8 := Nat.xor_lt_two_pow (by omega) (by omega)
  have h5 : l[j].toNat ^^^ m[j].toNat ^^^ q[j].toNat < 2 ^ 8 := Nat.xor_lt_two_pow h4 (by omega)
  omega
theorem all_mixed (l m q : List Int) (n : Nat) (hl : n ≤ l.length) (hm : n ≤ m.length) (hq : n ≤ q.length) (lb : ∀ c ∈ l, 0 ≤ c ∧ c ≤ 255) (mb : ∀ c ∈ m, 0 ≤ c ∧ c ≤ 255) (qb : ∀ c ∈ q, 0 ≤ c ∧ c ≤ 255) :
    ((List.range n).map (mixed l m q)).map Int.toNat = x3 ((l.take n).map Int.toNat) ((m.take n).map Int.toNat) ((q.take n).map Int.toNat) := by
  apply List.ext_getElem
  · simp [x3]; omega
  · intro j h1 h2
    have hj : j < n := by simpa using h1
    simp only [x3, List.getElem_map, List.getElem_range, List.getElem_zipWith, List.getElem_take]
    rw [mixed_nat l m q j (by omega) (by omega) (by omega) lb mb qb, Int.toNat_natCast]
theorem set_next (xs : List Int) (v : Int) (d : Nat) : (xs ++ List.replicate (d + 1) 0).set xs.length v = (xs ++ [v]) ++ List.replicate d 0 := by
  rw [List.set_append_right _ _ (Nat.le_refl _), Nat.sub_self, List.replicate_succ, List.set_cons_zero, List.append_assoc]
  rfl
theorem bind_of {α β : Type} {o : Option α} {x : α} {f : α → Option β} {r : Option β} (h : o = some x) (h2 : f x = r) : o.bind f = r := by rw [h]; exact h2
theorem bytes_take {l : List Int} (h : ∀ c ∈ l, 0 ≤ c ∧ c ≤ 255) (n : Nat) : ∀ c ∈ l.take n, 0 ≤ c ∧ c ≤ 255 := fun c hc => h c (List.mem_of_mem_take hc)
theorem nat_lt (l : List Int) (hb : ∀ c ∈ l, 0 ≤ c ∧ c ≤ 255) : ∀ c ∈ l.map Int.toNat, c < 256 := by
  intro c hc
  obtain ⟨x, hx, rfl⟩ := List.mem_map.1 hc
  have := hb x hx
  omega
theorem three_end (l m q : List Int) (n k : Nat) (hl : n ≤ l.length) (hm : n ≤ m.length) (hq : n ≤ q.length) (lb : ∀ c ∈ l, 0 ≤ c ∧ c ≤ 255) (mb : ∀ c ∈ m, 0 ≤ c ∧ c ≤ 255) (qb : ∀ c ∈ q, 0 ≤ c ∧ c ≤ 255) (hk : 0 < k) :
    pennantlaw02_CrcThree.l0 k l m q (n : Int) ((List.range n).map (mixed l m q)) (n : Int) = some true := by
  obtain ⟨k, rfl⟩ : ∃ z, k = z + 1 := ⟨k - 1, by omega⟩
  simp only [pennantlaw02_CrcThree.l0]
  rw [if_neg (by omega)]
  have zb : ∀ c ∈ (List.range n).map (mixed l m q), 0 ≤ c ∧ c ≤ 255 := by
    intro c hc
    obtain ⟨j, hj, rfl⟩ := List.mem_map.1 hc
    have hj := List.mem_range.1 hj
    exact mixed_byte l m q j (by omega) (by omega) (by omega) lb mb qb
  have f1 := own_sum _ k zb
  have f2 := own_sum _ k (bytes_take lb n)
  have f3 := own_sum _ k (bytes_take mb n)
  have f4 := own_sum _ k (bytes_take qb n)
  rw [all_mixed l m q n hl hm hq lb mb qb] at f1
  have h3 := add3 ((l.take n).map Int.toNat) ((m.take n).map Int.toNat) ((q.take n).map Int.toNat) 11994318 11994318 11994318 (by simp; omega) (by simp; omega)
  rw [show (11994318 ^^^ 11994318 ^^^ 11994318 : Nat) = 11994318 by decide] at h3
  rw [h3] at f1
  have r2 := crcAddN_lt _ 11994318 (by decide) (nat_lt _ (bytes_take lb n))
  have r3 := crcAddN_lt _ 11994318 (by decide) (nat_lt _ (bytes_take mb n))
  have r4 := crcAddN_lt _ 11994318 (by decide) (nat_lt _ (bytes_take qb n))
  generalize crcAddN 11994318 ((l.take n).map Int.toNat) = x at f1 f2 r2
  generalize crcAddN 11994318 ((m.take n).map Int.toNat) = y at f1 f3 r3
  generalize crcAddN 11994318 ((q.take n).map Int.toNat) = z at f1 f4 r4
  refine bind_of f1 ?_
  rw [if_pos (by omega), if_pos (by omega)]
  rw [Int.toNat_natCast]
  refine bind_of f2 ?_
  rw [if_pos (by omega)]
  refine bind_of f3 ?_
  rw [if_pos (by omega)]
  refine bind_of f4 ?_
  have h4 : x ^^^ y < 2 ^ 24 := Nat.xor_lt_two_pow (by omega) (by omega)
  rw [u32_xor_nat x y (by omega) (by omega), u32_xor_nat (x ^^^ y) z (by omega) (by omega), beq_self_eq_true]
theorem three_loop (l m q : List Int) (n : Nat) (hl : n ≤ l.length) (hm : n ≤ m.length) (hq : n ≤ q.length) (hn : n ≤ 10000) (lb : ∀ c ∈ l, 0 ≤ c ∧ c ≤ 255) (mb : ∀ c ∈ m, 0 ≤ c ∧ c ≤ 255) (qb : ∀ c ∈ q, 0 ≤ c ∧ c ≤ 255) :
    ∀ (d k i : Nat), i + d = n → d < k → pennantlaw02_CrcThree.l0 k l m q (n : Int) ((List.range i).map (mixed l m q) ++ List.replicate d 0) (i : Int) = some true
  | 0, k, i, hi, hk => by
    obtain rfl : i = n := by omega
    rw [List.replicate_zero, List.append_nil]
    exact three_end l m q i k hl hm hq lb mb qb hk
  | d + 1, k, i, hi, hk => by
    obtain ⟨k, rfl⟩ : ∃ z, k = z + 1 := ⟨k - 1, by omega⟩
    simp only [pennantlaw02_CrcThree.l0]
    have hlen : ((List.range i).map (mixed l m q) ++ List.replicate (d + 1) 0).length = n := by simp; omega
    rw [if_pos (by omega), if_pos (by omega), if_pos (by omega), if_pos (by omega), if_pos (by omega), if_pos (by omega)]
    have hs := set_next ((List.range i).map (mixed l m q)) (mixed l m q i) d
    rw [List.length_map, List.length_range] at hs
    have hr : (List.range i).map (mixed l m q) ++ [mixed l m q i] = (List.range (i + 1)).map (mixed l m q) := by rw [List.range_succ, List.map_append]; rfl
    rw [hr] at hs
    have hw : wrap64 ((i : Int) + 1) = ((i + 1 : Nat) : Int) := by unfold wrap64; omega
    rw [Int.toNat_natCast, hw]
    show pennantlaw02_CrcThree.l0 k l m q (n : Int) (((List.range i).map (mixed l m q) ++ List.replicate (d + 1) 0).set i (mixed l m q i)) _ = _
    rw [hs]
    exact three_loop l m q n hl hm hq hn lb mb qb d k (i + 1) (by omega) (by omega)
theorem pure_CrcThree : pennantlaw02_CrcThree.Pure := by
  intro l m q _ hl lb _ hm mb _ hq qb
  have lb := bytes_of_wf lb
  have mb := bytes_of_wf mb
  have qb := bytes_of_wf qb
  obtain ⟨n, hn⟩ : ∃ n : Nat, mn (l.length : Int) (mn (m.length : Int) (q.length : Int)) = (n : Int) := by
    refine ⟨min l.length (min m.length q.length), ?_⟩
    unfold mn
    (repeat' split) <;> omega
  have h1 : n ≤ l.length ∧ n ≤ m.length ∧ n ≤ q.length := by
    have : mn (l.length : Int) (mn (m.length : Int) (q.length : Int)) ≤ l.length ∧ mn (l.length : Int) (mn (m.length : Int) (q.length : Int)) ≤ m.length ∧ mn (l.length : Int) (mn (m.length : Int) (q.length : Int)) ≤ q.length := by
      unfold mn
      (repeat' split) <;> omega
    rw [hn] at this
    omega
  refine ⟨n + 2, ?_⟩
  unfold pennantlaw02_CrcThree.f
  refine bind_of (awake_true _) ?_
  rw [if_pos rfl, hn]
  by_cases h : (n : Int) > 10000
  · rw [decide_eq_true h]; simp [pennantlaw02_CrcThree.j0]
  · rw [decide_eq_false h]
    simp only [pennantlaw02_CrcThree.j0]
    rw [if_neg (by simp), if_pos (by omega), if_pos (by omega), Int.toNat_natCast]
    have := three_loop l m q n h1.1 h1.2.1 h1.2.2 (by omega) lb mb qb n (n + 1) 0 (by omega) (by omega)
    simpa using this
end Go.Proofs.YtlbmfbbdfmmfnaaDoor.PCrcThree
namespace Go.Proofs.YtlbmfbbdfmmfnaaDoor.Pure
theorem CrcThree : PCrcThree.pennantlaw02_CrcThree.Pure := PCrcThree.pure_CrcThree
end Go.Proofs.YtlbmfbbdfmmfnaaDoor.Pure
