/- What the printed functions of pack, and of its reference, come to: the bytes, numbers and sums of the plain law. Conditions: texts of at most 140737488351232 bytes, numbers that fit in 64 bits. -/
import Derived.Test.YtbcahalbjegjgaaDoorPAllx4
namespace Go.Proofs.YtbcahalbjegjgaaDoor.Evs
open Go.RowKit Go.Proofs.YtbcahalbjegjgaaDoor.PAll Go.Proofs.YtbcahalbjegjgaaDoorW.PrintWords Go.Proofs.YtbcahalbjegjgaaDoorW.PrintLast

/-! Texts and lists of bytes. -/
def S (l : List UInt8) : ByteArray := ⟨l.toArray⟩
theorem S_data (l : List UInt8) : (S l).data.toList = l := by simp [S]
theorem S_of (s : ByteArray) : S s.data.toList = s := by simp [S]
theorem S_size (l : List UInt8) : (S l).size = l.length := by simp [S, ByteArray.size]
theorem S_toList (l : List UInt8) : (S l).toList = l := by rw [ByteArray.toList_eq, S_data]
theorem S_ext {a b : ByteArray} (h : a.data.toList = b.data.toList) : a = b := by rw [← S_of a, ← S_of b, h]
theorem S_append (a b : List UInt8) : S a ++ S b = S (a ++ b) := S_ext (by rw [S_data, ByteArray.data_append]; simp [S])
theorem S_extract (l : List UInt8) (a b : Nat) : (S l).extract a b = S ((l.drop a).take (b - a)) := S_ext (by
  rw [S_data, ByteArray.data_extract, Array.toList_extract]; simp [S, List.extract])
theorem size_len (s : ByteArray) : s.data.toList.length = s.size := rfl

def nats (l : List UInt8) : List Int := l.map fun b => (b.toNat : Int)
theorem str_nats (l : List UInt8) : strOfNums (nats l) = S l := by
  unfold strOfNums nats S
  rw [List.map_map]
  congr 2
  refine (List.map_congr_left fun b _ => ?_).trans (List.map_id _)
  simp
theorem nats_append (a b : List UInt8) : nats (a ++ b) = nats a ++ nats b := List.map_append
theorem nats_cons (n : Nat) (h : n < 256) (l : List UInt8) : nats (UInt8.ofNat n :: l) = (n : Int) :: nats l := by
  simp only [nats, List.map_cons, Pk.toNat_ofNat h]
theorem nats_len (l : List UInt8) : (nats l).length = l.length := List.length_map _
theorem bt_get (s : ByteArray) (n : Nat) : bt s (n : Int) = ((s.data.toList.getD n 0).toNat : Int) := by
  rw [← rd_bytesOf]; unfold rd bytesOf
  rw [Int.toNat_natCast, List.getD_eq_getElem?_getD, List.getD_eq_getElem?_getD, List.getElem?_map]
  cases s.data.toList[n]? <;> simp

theorem or128 : ∀ a, a < 256 → a ||| 128 = a % 128 + 128 := by decide +kernel
theorem or128_int (x : Nat) : Go.bits .or .u8 ((x : Int) % 256) 128 = ((x % 128 + 128 : Nat) : Int) := by
  rw [show (x : Int) % 256 = ((x % 256 : Nat) : Int) by omega]
  have := (bits_nat .u8 8 (by decide) wraps_u8 (x % 256) 128 (by omega) (by decide)).2
  refine this.trans ?_
  rw [or128 _ (by omega)]; omega

/-! Numbers as bytes. -/
theorem putUint_l (n : Nat) : ∀ xs : List UInt8, xs.length + (Pk.putU n).length ≤ 140737488355328 →
    Ev (fun k => pack_PutUint.l0 k (n : Int) (nats xs)) (S (xs ++ Pk.putU n)) := by
  induction n using Nat.strongRecOn with
  | _ n ih =>
    intro xs h
    by_cases hn : n < 128
    · rw [Pk.putU_lt hn] at h ⊢
      refine ⟨1, fun k hk => ?_⟩
      obtain ⟨m, rfl⟩ : ∃ m, k = m + 1 := ⟨k - 1, by omega⟩
      simp only [pack_PutUint.l0]
      rw [if_neg (by omega), nats_len, if_pos (by simp at h; omega)]
      rw [← str_nats, nats_append, nats_cons n (by omega), show (n : Int) % 256 = n by omega]; rfl
    · rw [Pk.putU_ge hn] at h ⊢
      simp only [List.length_cons] at h
      have := ih (n / 128) (by omega) (xs ++ [UInt8.ofNat (n % 128 + 128)]) (by simp; omega)
      rw [show xs ++ UInt8.ofNat (n % 128 + 128) :: Pk.putU (n / 128) = xs ++ [UInt8.ofNat (n % 128 + 128)] ++ Pk.putU (n / 128) by simp]
      refine Ev.step (fun k => ?_) this
      simp only [pack_PutUint.l0]
      rw [if_pos (by omega), nats_len, if_pos (by omega), or128_int, nats_append, nats_cons _ (by omega), show (n : Int) / 128 = ((n / 128 : Nat) : Int) by omega]; rfl
theorem putU_len9 (n : Nat) (h : n < 9223372036854775808) : (Pk.putU n).length ≤ 9 := Pk.putU_len 8 n (by rw [Pk.pow9]; exact h)
theorem putUint (n : Int) (h : n < 9223372036854775808) : Ev (fun k => pack_PutUint.f k n) (S (Pk.putUI n)) := by
  unfold Pk.putUI
  by_cases hn : n < 0
  · rw [if_pos hn]
    exact ⟨0, fun k _ => by show pack_PutUint.f k n = _; unfold pack_PutUint.f; rw [if_pos hn]; rfl⟩
  · rw [if_neg hn]
    obtain ⟨m, rfl⟩ := Int.eq_ofNat_of_zero_le (show 0 ≤ n by omega)
    rw [Int.toNat_natCast]
    have h9 := putU_len9 m (by omega)
    have := putUint_l m [] (by simp; omega)
    refine Ev.congr (fun k => ?_) this
    unfold pack_PutUint.f
    rw [if_neg hn]; rfl
theorem refPutUint_l (n : Nat) : n < 9223372036854775808 → ∀ xs : List UInt8, xs.length + (Pk.putU n).length ≤ 140737488355328 →
    Ev (fun k => entrepotref21_PutUint.l0 k (n : Int) (nats xs)) (S (xs ++ Pk.putU n)) := by
  induction n using Nat.strongRecOn with
  | _ n ih =>
    intro hb xs h
    by_cases hn : n < 128
    · rw [Pk.putU_lt hn] at h ⊢
      refine ⟨1, fun k hk => ?_⟩
      obtain ⟨m, rfl⟩ : ∃ m, k = m + 1 := ⟨k - 1, by omega⟩
      simp only [entrepotref21_PutUint.l0]
      rw [if_neg (by omega), nats_len, if_pos (by simp at h; omega)]
      rw [← str_nats, nats_append, nats_cons n (by omega), show (n : Int) % 256 = n by omega]; rfl
    · rw [Pk.putU_ge hn] at h ⊢
      simp only [List.length_cons] at h
      have := ih (n / 128) (by omega) (by omega) (xs ++ [UInt8.ofNat (n % 128 + 128)]) (by simp; omega)
      rw [show xs ++ UInt8.ofNat (n % 128 + 128) :: Pk.putU (n / 128) = xs ++ [UInt8.ofNat (n % 128 + 128)] ++ Pk.putU (n / 128) by simp]
      refine Ev.step (fun k => ?_) this
      simp only [entrepotref21_PutUint.l0]
      rw [Int.tmod_eq_emod_of_nonneg (by omega), Int.tdiv_eq_ediv_of_nonneg (by omega)]
      rw [if_pos (by omega), nats_len, if_pos (by omega), nats_append, nats_cons _ (by omega)]
      rw [show wrap64 ((n : Int) / 128) = ((n / 128 : Nat) : Int) by unfold wrap64; omega, show wrap64 ((n : Int) % 128 + 128) % 256 = ((n % 128 + 128 : Nat) : Int) by unfold wrap64; omega]; rfl
theorem refPutUint (n : Int) (h : n < 9223372036854775808) : Ev (fun k => entrepotref21_PutUint.f k n) (S (Pk.putUI n)) := by
  unfold Pk.putUI
  by_cases hn : n < 0
  · rw [if_pos hn]
    exact ⟨0, fun k _ => by show entrepotref21_PutUint.f k n = _; unfold entrepotref21_PutUint.f; rw [if_pos hn]; rfl⟩
  · rw [if_neg hn]
    obtain ⟨m, rfl⟩ := Int.eq_ofNat_of_zero_le (show 0 ≤ n by omega)
    rw [Int.toNat_natCast]
    have h9 := putU_len9 m (by omega)
    have := refPutUint_l m (by omega) [] (by simp; omega)
    refine Ev.congr (fun k => ?_) this
    unfold entrepotref21_PutUint.f
    rw [if_neg hn]; rfl

/-! With a sign. -/
theorem ofInt_nat (x : Int) : ((BitVec.ofInt 64 x).toNat : Int) = x % 18446744073709551616 := by
  rw [BitVec.toNat_ofInt]
  simp only [Nat.reducePow]
  omega
theorem xor_m1 (x : Int) (h : -9223372036854775808 ≤ x ∧ x < 9223372036854775808) : Go.bits .xor .i64 x (-1) = -x - 1 := by
  show IntKind.i64.wrap ((BitVec.ofInt 64 x ^^^ BitVec.ofInt 64 (-1)).toNat : Int) = _
  have e : BitVec.ofInt 64 (-1) = BitVec.allOnes 64 := by decide +kernel
  have hx := ofInt_nat x
  rw [e, BitVec.xor_allOnes, BitVec.toNat_not, IntKind.wrap_i64]
  generalize (BitVec.ofInt 64 x).toNat = y at *
  simp only [Nat.reducePow]
  omega
theorem xor_0 (x : Int) (h : -9223372036854775808 ≤ x ∧ x < 9223372036854775808) : Go.bits .xor .i64 x 0 = x := by
  show IntKind.i64.wrap ((BitVec.ofInt 64 x ^^^ BitVec.ofInt 64 0).toNat : Int) = _
  have hx := ofInt_nat x
  rw [show BitVec.ofInt 64 0 = 0#64 by decide +kernel, BitVec.xor_zero, IntKind.wrap_i64]
  omega
theorem and1_i64 (x : Nat) (h : x < 9223372036854775808) : Go.bits .and .i64 (x : Int) 1 = ((x % 2 : Nat) : Int) := by
  have := bits_mask .i64 63 (by decide) wraps_i64 1 (by decide) (x : Int) (by omega) (by rw [show (2 : Int) ^ 63 = 9223372036854775808 by decide +kernel]; omega)
  simpa using this

theorem putUI_of (n : Nat) : Pk.putUI (n : Int) = Pk.putU n := by unfold Pk.putUI; rw [if_neg (by omega), Int.toNat_natCast]
theorem zig_lt (n : Int) (h1 : -2305843009213693952 ≤ n) (h2 : n ≤ 2305843009213693951) : Pk.zig n < 4611686018427387904 := by unfold Pk.zig; split <;> omega
theorem putInt (n : Int) : Ev (fun k => pack_PutInt.f k n) (S (Pk.putI n)) := by
  unfold Pk.putI
  by_cases h1 : n > 2305843009213693951
  · rw [if_pos (by omega)]
    exact ⟨0, fun k _ => by show pack_PutInt.f k n = _; unfold pack_PutInt.f; rw [if_pos h1]; rfl⟩
  · by_cases h2 : n < -2305843009213693952
    · rw [if_pos (by omega)]
      exact ⟨0, fun k _ => by show pack_PutInt.f k n = _; unfold pack_PutInt.f; rw [if_neg h1, if_pos h2]; rfl⟩
    · rw [if_neg (by omega)]
      have hz := zig_lt n (by omega) (by omega)
      have := putUint (Pk.zig n : Int) (by omega)
      rw [putUI_of] at this
      refine Ev.congr (fun k => ?_) this
      show pack_PutInt.f k n = pack_PutUint.f k (Pk.zig n : Int)
      unfold pack_PutInt.f
      rw [if_neg h1, if_neg h2]
      have e : Go.bits .xor .i64 (wrap64 (n * 2)) (n / 9223372036854775808) = (Pk.zig n : Int) := by
        have e2 : wrap64 (n * 2) = n * 2 := by unfold wrap64; omega
        rw [e2]
        by_cases h3 : n < 0
        · rw [show n / 9223372036854775808 = -1 by omega, xor_m1 _ (by omega)]
          unfold Pk.zig; rw [if_pos h3]; omega
        · rw [show n / 9223372036854775808 = 0 by omega, xor_0 _ (by omega)]
          unfold Pk.zig; rw [if_neg h3]; omega
      rw [e]
      cases pack_PutUint.f k (Pk.zig n : Int) <;> rfl
theorem refPutInt (n : Int) : Ev (fun k => entrepotref21_PutInt.f k n) (S (Pk.putI n)) := by
  unfold Pk.putI
  by_cases h1 : n < -2305843009213693952
  · rw [if_pos (by omega)]
    refine ⟨1, fun k hk => ?_⟩
    obtain ⟨m, rfl⟩ : ∃ m, k = m + 1 := ⟨k - 1, by omega⟩
    show entrepotref21_PutInt.f (m + 1) n = _; unfold entrepotref21_PutInt.f; rw [if_pos h1]; rfl
  · by_cases h2 : n > 2305843009213693951
    · rw [if_pos (by omega)]
      refine ⟨1, fun k hk => ?_⟩
      obtain ⟨m, rfl⟩ : ∃ m, k = m + 1 := ⟨k - 1, by omega⟩
      show entrepotref21_PutInt.f (m + 1) n = _; unfold entrepotref21_PutInt.f; rw [if_neg h1]; simp only [entrepotref21_PutInt.j0]; rw [if_pos (by simpa using h2)]; rfl
    · rw [if_neg (by omega)]
      have hz := zig_lt n (by omega) (by omega)
      have := refPutUint (Pk.zig n : Int) (by omega)
      rw [putUI_of] at this
      refine Ev.step (fun k => ?_) this
      show entrepotref21_PutInt.f (k + 1) n = entrepotref21_PutUint.f k (Pk.zig n : Int)
      unfold entrepotref21_PutInt.f; rw [if_neg h1]; simp only [entrepotref21_PutInt.j0]; rw [if_neg (by simpa using h2)]
      by_cases h3 : n < 0
      · rw [if_pos h3, show wrap64 ((-1) - (wrap64 (2 * n))) = (Pk.zig n : Int) by unfold Pk.zig; rw [if_pos h3]; unfold wrap64; omega]
        cases entrepotref21_PutUint.f k (Pk.zig n : Int) <;> rfl
      · rw [if_neg h3, show wrap64 (2 * n) = (Pk.zig n : Int) by unfold Pk.zig; rw [if_neg h3]; unfold wrap64; omega]
        cases entrepotref21_PutUint.f k (Pk.zig n : Int) <;> rfl

/-! The number at a place. -/
theorem gA_lt (l : List UInt8) (n : Nat) (j : Nat) : ∀ i acc, i + j = 9 → acc < 128 ^ i → (Pk.gA l n i acc).1 < 9223372036854775808 ∧ (Pk.gA l n i acc).2.1 ≤ n + 9 ∧ ((Pk.gA l n i acc).2.2 ≠ 0 → (Pk.gA l n i acc).1 = 0 ∧ (Pk.gA l n i acc).2.1 = 0) ∧ ((Pk.gA l n i acc).2.1 ≤ l.length) := by
  induction j with
  | zero => intro i acc hi _; rw [Pk.gA, if_pos (by omega)]; simp
  | succ j ih =>
    intro i acc hi ha
    by_cases hl : n + i < l.length
    · rw [gA_step l n i acc _ rfl hl (by omega)]
      have hc := acc_step acc i ((l.getD (n + i) 0).toNat : Int) ha
      have hm : 128 ^ (i + 1) ≤ 128 ^ 9 := Nat.pow_le_pow_right (by decide) (by omega)
      rw [show (128 : Nat) ^ 9 = 9223372036854775808 from Pk.pow9] at hm
      split
      · exact ih (i + 1) _ (by omega) hc
      · split
        · simp
        · exact ⟨by show _ + _ < _; omega, by show n + i + 1 ≤ n + 9; omega, fun h => absurd rfl h, by show n + i + 1 ≤ l.length; omega⟩
    · rw [Pk.gA, if_neg (by omega), List.getElem?_eq_none (by omega)]; simp
theorem getU_lt (l : List UInt8) (n : Int) : (Pk.getU l n).1 < 9223372036854775808 ∧ (Pk.getU l n).2.1 ≤ n.toNat + 9 ∧ ((Pk.getU l n).2.2 ≠ 0 → (Pk.getU l n).1 = 0 ∧ (Pk.getU l n).2.1 = 0) ∧ (Pk.getU l n).2.1 ≤ l.length := by
  unfold Pk.getU
  split
  · simp
  · exact gA_lt l n.toNat 9 0 0 (by omega) (by decide)

def t3 (x : Nat × Nat × Nat) : Int × Int × Int := ((x.1 : Int), (x.2.1 : Int), (x.2.2 : Int))
theorem getUint (s : ByteArray) (n : Int) (hs : s.size ≤ 140737488351232) : pack_GetUint.f s n = some (t3 (Pk.getU s.data.toList n)) := by
  unfold pack_GetUint.f; rw [if_pos hs]; rfl
theorem w64 (n : Int) (h0 : -9223372036854775808 ≤ n) (h1 : n ≤ 9223372036854775807) : wrap64 n = n := IntWalk.wrap64_in n ⟨h0, h1⟩
/-- One round of the reference's loop. -/
theorem refGetUint_round (s : ByteArray) (n i acc P : Nat) (hs : s.size ≤ 140737488351232) (hi : i < 9) (hP : P ≤ 72057594037927936) (ha : acc < P) (c : Int) (hb : bt s ((n + i : Nat) : Int) = c) (hc0 : 0 ≤ c) (hc1 : c ≤ 255) (hl : n + i < s.size) (m : Nat) :
    entrepotref21_GetUint.l0 (m + 1) s (n : Int) (acc : Int) (P : Int) (i : Int) = if 128 ≤ c then entrepotref21_GetUint.l0 m s (n : Int) ((acc + (c % 128).toNat * P : Nat) : Int) (wrap64 ((P : Int) * 128)) ((i + 1 : Nat) : Int) else if c = 0 ∧ 0 < i then some (0, 0, 212) else some (((acc + (c % 128).toNat * P : Nat) : Int), ((n + i + 1 : Nat) : Int), 0) := by
  have ew : wrap64 ((n : Int) + (i : Int)) = ((n + i : Nat) : Int) := by unfold wrap64; omega
  simp only [entrepotref21_GetUint.l0]
  rw [ew, if_pos (by omega), if_neg (by omega), if_pos (by omega), if_pos (by omega), hb]
  have ec : wrap64 c = c := by unfold wrap64; omega
  have ei : wrap64 ((i : Int) + 1) = ((i + 1 : Nat) : Int) := by unfold wrap64; omega
  have en : wrap64 (((n + i : Nat) : Int) + 1) = ((n + i + 1 : Nat) : Int) := by unfold wrap64; omega
  rw [ec, ei, en]
  obtain ⟨q, hq⟩ : ∃ q : Nat, c % 128 = q := ⟨(c % 128).toNat, by omega⟩
  have hqq : (c % 128).toNat = q := by omega
  have hq2 : q < 128 := by omega
  rw [hqq]
  have hmul : q * P ≤ 127 * P := Nat.mul_le_mul_right _ (by omega)
  have ev : ∀ d : Int, d = (q : Int) → wrap64 ((acc : Int) + wrap64 (d * (P : Int))) = ((acc + q * P : Nat) : Int) := by
    intro d hd
    rw [hd, ← Int.natCast_mul]
    have hz : q * P ≤ 9151314442816847872 := Nat.le_trans hmul (by omega)
    clear hmul ew ec ei en
    generalize q * P = z at *
    rw [w64 (z : Int) (by omega) (by omega), w64 _ (by omega) (by omega)]; rfl
  by_cases g1 : 128 ≤ c
  · rw [if_pos (show c ≥ 128 from g1), if_pos g1, ev _ (by unfold wrap64; omega)]
  · rw [if_neg (show ¬ c ≥ 128 from g1), if_neg g1]
    by_cases g2 : c = 0
    · rw [if_pos g2]
      by_cases g3 : 0 < i
      · rw [if_pos (by omega), if_pos ⟨g2, g3⟩]
      · rw [if_neg (by omega), if_neg (by omega), ev _ (by omega)]
    · rw [if_neg g2, if_neg (by omega), ev _ (by omega)]
theorem refGetUint_l (s : ByteArray) (hs : s.size ≤ 140737488351232) (n : Nat) (j : Nat) : ∀ (i acc : Nat) (one : Int), i + j = 9 → n + i ≤ s.size → acc < 128 ^ i → (i < 9 → one = ((128 ^ i : Nat) : Int)) →
    Ev (fun k => entrepotref21_GetUint.l0 k s (n : Int) (acc : Int) one (i : Int)) (t3 (Pk.gA s.data.toList n i acc)) := by
  induction j with
  | zero =>
    intro i acc one hi _ _ _
    refine ⟨1, fun k hk => ?_⟩
    obtain ⟨m, rfl⟩ : ∃ m, k = m + 1 := ⟨k - 1, by omega⟩
    simp only [entrepotref21_GetUint.l0]
    rw [if_neg (by omega), Pk.gA, if_pos (by omega)]; rfl
  | succ j ih =>
    intro i acc one hi hni ha h1
    have e1 := h1 (by omega)
    subst e1
    by_cases hl : n + i < s.size
    · rw [gA_step s.data.toList n i acc _ rfl (by rw [size_len]; exact hl) (by omega)]
      have hst := acc_step acc i ((s.data.toList.getD (n + i) 0).toNat : Int) ha
      have hm : 128 ^ i ≤ 128 ^ 8 := Nat.pow_le_pow_right (by decide) (by omega)
      rw [pow8] at hm
      have hb := bt_get s (n + i)
      have hr := bt_range s ((n + i : Nat) : Int)
      rw [hb] at hr
      have key := refGetUint_round s n i acc (128 ^ i) hs (by omega) hm ha _ hb (by omega) (by omega) hl
      generalize ((s.data.toList.getD (n + i) 0).toNat : Int) = c at *
      by_cases g1 : 128 ≤ c
      · rw [if_pos g1]
        refine Ev.step (fun m => (key m).trans (if_pos g1)) ?_
        refine ih (i + 1) _ _ (by omega) (by omega) hst (fun h9 => ?_)
        have h7 : 128 ^ i ≤ 128 ^ 7 := Nat.pow_le_pow_right (by decide) (by omega)
        rw [show (128 : Nat) ^ 7 = 562949953421312 by decide +kernel] at h7
        rw [show (128 : Nat) ^ (i + 1) = 128 ^ i * 128 from Nat.pow_succ _ _]
        generalize 128 ^ i = y at *
        unfold wrap64; omega
      · refine ⟨1, fun k hk => ?_⟩
        obtain ⟨m, rfl⟩ : ∃ m, k = m + 1 := ⟨k - 1, by omega⟩
        refine (key m).trans ?_
        rw [if_neg g1, if_neg g1]
        split <;> rfl
    · refine ⟨1, fun k hk => ?_⟩
      obtain ⟨m, rfl⟩ : ∃ m, k = m + 1 := ⟨k - 1, by omega⟩
      rw [Pk.gA, if_neg (by omega), List.getElem?_eq_none (by rw [size_len]; omega)]
      simp only [entrepotref21_GetUint.l0]
      rw [show wrap64 ((n : Int) + (i : Int)) = ((n + i : Nat) : Int) by unfold wrap64; omega, if_pos (by omega), if_pos (by omega)]; rfl
theorem refGetUint (s : ByteArray) (n : Int) (hs : s.size ≤ 140737488351232) : Ev (fun k => entrepotref21_GetUint.f k s n) (t3 (Pk.getU s.data.toList n)) := by
  unfold Pk.getU
  rw [size_len]
  by_cases h0 : n < 0
  · rw [if_pos (.inl h0)]
    refine ⟨1, fun k hk => ?_⟩
    obtain ⟨m, rfl⟩ : ∃ m, k = m + 1 := ⟨k - 1, by omega⟩
    show entrepotref21_GetUint.f (m + 1) s n = _; unfold entrepotref21_GetUint.f; rw [if_pos h0]; rfl
  · by_cases h1 : (s.size : Int) < n
    · rw [if_pos (.inr h1)]
      refine ⟨1, fun k hk => ?_⟩
      obtain ⟨m, rfl⟩ : ∃ m, k = m + 1 := ⟨k - 1, by omega⟩
      show entrepotref21_GetUint.f (m + 1) s n = _; unfold entrepotref21_GetUint.f; rw [if_neg h0]; simp only [entrepotref21_GetUint.j0]; rw [if_pos (by simpa using h1)]; rfl
    · rw [if_neg (by omega)]
      obtain ⟨a, rfl⟩ := Int.eq_ofNat_of_zero_le (show 0 ≤ n by omega)
      rw [Int.toNat_natCast]
      have := refGetUint_l s hs a 9 0 0 1 (by omega) (by omega) (by decide) (fun _ => rfl)
      refine Ev.step (fun k => ?_) this
      show entrepotref21_GetUint.f (k + 1) s a = _; unfold entrepotref21_GetUint.f; rw [if_neg h0]; simp only [entrepotref21_GetUint.j0]; rw [if_neg (by simpa using h1)]; rfl
def t3i (x : Int × Nat × Nat) : Int × Int × Int := (x.1, (x.2.1 : Int), (x.2.2 : Int))
theorem getInt (s : ByteArray) (n : Int) (hs : s.size ≤ 140737488351232) : pack_GetInt.f s n = some (t3i (Pk.getI s.data.toList n)) := by
  unfold pack_GetInt.f
  rw [getUint s n hs, Option.bind_some]
  have hx := (getU_lt s.data.toList n).1
  show some (Go.bits .xor .i64 (((Pk.getU s.data.toList n).1 : Int) / 2) (wrap64 (-(Go.bits .and .i64 ((Pk.getU s.data.toList n).1 : Int) 1))), _, _) = some (Pk.zag (Pk.getU s.data.toList n).1, _, _)
  generalize (Pk.getU s.data.toList n).1 = x at *
  have e : Go.bits .xor .i64 ((x : Int) / 2) (wrap64 (-(Go.bits .and .i64 (x : Int) 1))) = Pk.zag x := by
    rw [and1_i64 x (by omega)]
    unfold Pk.zag
    by_cases h : x % 2 = 1
    · rw [if_pos h, h, w64 _ (by omega) (by omega), show (-((1 : Nat) : Int)) = -1 by rfl, xor_m1 _ (by omega)]; omega
    · rw [if_neg h, show x % 2 = 0 by omega, w64 _ (by omega) (by omega), show (-((0 : Nat) : Int)) = 0 by rfl, xor_0 _ (by omega)]; omega
  rw [e]; rfl
theorem refGetInt (s : ByteArray) (n : Int) (hs : s.size ≤ 140737488351232) : Ev (fun k => entrepotref21_GetInt.f k s n) (t3i (Pk.getI s.data.toList n)) := by
  refine Ev.bind (refGetUint s n hs) ?_
  have hx := getU_lt s.data.toList n
  refine ⟨0, fun k _ => ?_⟩
  by_cases h : (Pk.getU s.data.toList n).2.2 = 0
  · rw [if_pos (show (t3 (Pk.getU s.data.toList n)).2.2 = 0 by show ((Pk.getU s.data.toList n).2.2 : Int) = 0; omega)]
    show _ = some (Pk.zag (Pk.getU s.data.toList n).1, ((Pk.getU s.data.toList n).2.1 : Int), ((Pk.getU s.data.toList n).2.2 : Int))
    rw [h]
    have e1 : (t3 (Pk.getU s.data.toList n)).1 = ((Pk.getU s.data.toList n).1 : Int) := rfl
    have e2 : (t3 (Pk.getU s.data.toList n)).2.1 = ((Pk.getU s.data.toList n).2.1 : Int) := rfl
    rw [e1, e2]
    generalize (Pk.getU s.data.toList n).1 = x at *
    rw [Int.tmod_eq_emod_of_nonneg (by omega), Int.tdiv_eq_ediv_of_nonneg (by omega)]
    unfold Pk.zag
    by_cases h2 : x % 2 = 1
    · rw [if_pos (by omega), if_pos h2, w64 ((x : Int) / 2) (by omega) (by omega), w64 _ (by omega) (by omega)]; rfl
    · rw [if_neg (by omega), if_neg h2, w64 ((x : Int) / 2) (by omega) (by omega)]; rfl
  · rw [if_neg (show ¬ (t3 (Pk.getU s.data.toList n)).2.2 = 0 by show ¬ ((Pk.getU s.data.toList n).2.2 : Int) = 0; omega)]
    show some (0, 0, ((Pk.getU s.data.toList n).2.2 : Int)) = some (Pk.zag (Pk.getU s.data.toList n).1, ((Pk.getU s.data.toList n).2.1 : Int), ((Pk.getU s.data.toList n).2.2 : Int))
    rw [(hx.2.2.1 h).1, (hx.2.2.1 h).2]; rfl
end Go.Proofs.YtbcahalbjegjgaaDoor.Evs
