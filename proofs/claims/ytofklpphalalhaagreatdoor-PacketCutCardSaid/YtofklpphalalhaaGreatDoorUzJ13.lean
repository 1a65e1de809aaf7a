/- Texts of this claim, joined: Evs, GivenQ. Each as it was, cut to what the claim uses. Conditions: each theorem's own. -/
import Derived.Test.YtofklpphalalhaaGreatDoorUzPAllx8
import Derived.Test.YtofklpphalalhaaGreatDoorUzPAllx9
import Derived.Test.YtofklpphalalhaaGreatDoorUzJ12
import Derived.Test.YtofklpphalalhaaGreatDoorUzJ11
section
namespace Go.Proofs.YtofklpphalalhaaGreatDoor.Evs
open Go.RowKit Go.Proofs.YtofklpphalalhaaGreatDoor.PAll Go.Proofs.YtofklpphalalhaaGreatDoorW.PrintWords Go.Proofs.YtofklpphalalhaaGreatDoorW.PrintLast
/-! Texts and lists of bytes. -/
def S (l : List UInt8) : ByteArray := ⟨l.toArray⟩
theorem S_data (l : List UInt8) : (S l).data.toList = l := by simp [S]
theorem S_of (s : ByteArray) : S s.data.toList = s := by simp [S]
theorem S_size (l : List UInt8) : (S l).size = l.length := by simp [S, ByteArray.size]
theorem S_toList (l : List UInt8) : (S l).toList = l := by rw [ByteArray.toList_eq, S_data]
theorem S_ext {a b : ByteArray} (h : a.data.toList = b.data.toList) : a = b := by rw [← S_of a, ← S_of b, h]
theorem S_append (a b : List UInt8) : S a ++ S b = S (a ++ b) := S_ext (by rw [S_data, ByteArray.data_append]; simp [S])
theorem S_extract (l : List UInt8) (a b : Nat) : (S l).extract a b = S ((l.drop a).take (b - a)) := S_ext (by
  rw [S_data, ByteArray.data_extract, Array.toList_extract]; simp [S, List.extract])
theorem size_len (s : ByteArray) : s.data.toList.length = s.size := rfl
def nats (l : List UInt8) : List Int := l.map fun b => (b.toNat : Int)
theorem str_nats (l : List UInt8) : strOfNums (nats l) = S l := by
  unfold strOfNums nats S
  rw [List.map_map]
  congr 2
  refine (List.map_congr_left fun b _ => ?_).trans (List.map_id _)
  simp
theorem nats_append (a b : List UInt8) : nats (a ++ b) = nats a ++ nats b := List.map_append
theorem nats_cons (n : Nat) (h : n < 256) (l : List UInt8) : nats (UInt8.ofNat n :: l) = (n : Int) :: nats l := by
  simp only [nats, List.map_cons, Pk.toNat_ofNat h]
theorem nats_len (l : List UInt8) : (nats l).length = l.length := List.length_map _
theorem bt_get (s : ByteArray) (n : Nat) : bt s (n : Int) = ((s.data.toList.getD n 0).toNat : Int) := by
  rw [← rd_bytesOf]; unfold rd bytesOf
  rw [Int.toNat_natCast, List.getD_eq_getElem?_getD, List.getD_eq_getElem?_getD, List.getElem?_map]
  cases s.data.toList[n]? <;> simp
theorem or128 : ∀ a, a < 256 → a ||| 128 = a % 128 + 128 := by decide +kernel
theorem or128_int (x : Nat) : Go.bits .or .u8 ((x : Int) % 256) 128 = ((x % 128 + 128 : Nat) : Int) := by
  rw [show (x : Int) % 256 = ((x % 256 : Nat) : Int) by omega]
  have := (bits_nat .u8 8 (by decide) wraps_u8 (x % 256) 128 (by omega) (by decide)).2
  refine this.trans ?_
  rw [or128 _ (by omega)]; omega
/-! Numbers as bytes. -/
theorem putUint_l (n : Nat) : ∀ xs : List UInt8, xs.length + (Pk.putU n).length ≤ 140737488355328 →
    Ev (fun k => pack_PutUint.l0 k (n : Int) (nats xs)) (S (xs ++ Pk.putU n)) := by
  induction n using Nat.strongRecOn with
  | _ n ih =>
    intro xs h
    by_cases hn : n < 128
    · rw [Pk.putU_lt hn] at h ⊢
      refine ⟨1, fun k hk => ?_⟩
      obtain ⟨m, rfl⟩ : ∃ m, k = m + 1 := ⟨k - 1, by omega⟩
      simp only [pack_PutUint.l0]
      rw [if_neg (by omega), nats_len, if_pos (by simp at h; omega)]
      rw [← str_nats, nats_append, nats_cons n (by omega), show (n : Int) % 256 = n by omega]; rfl
    · rw [Pk.putU_ge hn] at h ⊢
      simp only [List.length_cons] at h
      have := ih (n / 128) (by omega) (xs ++ [UInt8.ofNat (n % 128 + 128)]) (by simp; omega)
      rw [show xs ++ UInt8.ofNat (n % 128 + 128) :: Pk.putU (n / 128) = xs ++ [UInt8.ofNat (n % 128 + 128)] ++ Pk.putU (n / 128) by simp]
      refine Ev.step (fun k => ?_) this
      simp only [pack_PutUint.l0]
      rw [if_pos (by omega), nats_len, if_pos (by omega), or128_int, nats_append, nats_cons _ (by omega), show (n : Int) / 128 = ((n / 128 : Nat) : Int) by omega]; rfl
theorem putU_len9 (n : Nat) (h : n < 9223372036854775808) : (Pk.putU n).length ≤ 9 := Pk.putU_len 8 n (by rw [Pk.pow9]; exact h)
theorem putUint (n : Int) (h : n < 9223372036854775808) : Ev (fun k => pack_PutUint.f k n) (S (Pk.putUI n)) := by
  unfold Pk.putUI
  by_cases hn : n < 0
  · rw [if_pos hn]
    exact ⟨0, fun k _ => by show pack_PutUint.f k n = _; unfold pack_PutUint.f; rw [if_pos hn]; rfl⟩
  · rw [if_neg hn]
    obtain ⟨m, rfl⟩ := Int.eq_ofNat_of_zero_le (show 0 ≤ n by omega)
    rw [Int.toNat_natCast]
    have h9 := putU_len9 m (by omega)
    have := putUint_l m [] (by simp; omega)
    refine Ev.congr (fun k => ?_) this
    unfold pack_PutUint.f
    rw [if_neg hn]; rfl
/-! With a sign. -/
theorem ofInt_nat (x : Int) : ((BitVec.ofInt 64 x).toNat : Int) = x % 18446744073709551616 := by
  rw [BitVec.toNat_ofInt]
  simp only [Nat.reducePow]
  omega
theorem xor_m1 (x : Int) (h : -9223372036854775808 ≤ x ∧ x < 9223372036854775808) : Go.bits .xor .i64 x (-1) = -x - 1 := by
  show IntKind.i64.wrap ((BitVec.ofInt 64 x ^^^ BitVec.ofInt 64 (-1)).toNat : Int) = _
  have e : BitVec.ofInt 64 (-1) = BitVec.allOnes 64 := by decide +kernel
  have hx := ofInt_nat x
  rw [e, BitVec.xor_allOnes, BitVec.toNat_not, IntKind.wrap_i64]
  generalize (BitVec.ofInt 64 x).toNat = y at *
  simp only [Nat.reducePow]
  omega
theorem xor_0 (x : Int) (h : -9223372036854775808 ≤ x ∧ x < 9223372036854775808) : Go.bits .xor .i64 x 0 = x := by
  show IntKind.i64.wrap ((BitVec.ofInt 64 x ^^^ BitVec.ofInt 64 0).toNat : Int) = _
  have hx := ofInt_nat x
  rw [show BitVec.ofInt 64 0 = 0#64 by decide +kernel, BitVec.xor_zero, IntKind.wrap_i64]
  omega
theorem and1_i64 (x : Nat) (h : x < 9223372036854775808) : Go.bits .and .i64 (x : Int) 1 = ((x % 2 : Nat) : Int) := by
  have := bits_mask .i64 63 (by decide) wraps_i64 1 (by decide) (x : Int) (by omega) (by rw [show (2 : Int) ^ 63 = 9223372036854775808 by decide +kernel]; omega)
  simpa using this
theorem putUI_of (n : Nat) : Pk.putUI (n : Int) = Pk.putU n := by unfold Pk.putUI; rw [if_neg (by omega), Int.toNat_natCast]
theorem zig_lt (n : Int) (h1 : -2305843009213693952 ≤ n) (h2 : n ≤ 2305843009213693951) : Pk.zig n < 4611686018427387904 := by unfold Pk.zig; split <;> omega
theorem putInt (n : Int) : Ev (fun k => pack_PutInt.f k n) (S (Pk.putI n)) := by
  unfold Pk.putI
  by_cases h1 : n > 2305843009213693951
  · rw [if_pos (by omega)]
    exact ⟨0, fun k _ => by show pack_PutInt.f k n = _; unfold pack_PutInt.f; rw [if_pos h1]; rfl⟩
  · by_cases h2 : n < -2305843009213693952
    · rw [if_pos (by omega)]
      exact ⟨0, fun k _ => by show pack_PutInt.f k n = _; unfold pack_PutInt.f; rw [if_neg h1, if_pos h2]; rfl⟩
    · rw [if_neg (by omega)]
      have hz := zig_lt n (by omega) (by omega)
      have := putUint (Pk.zig n : Int) (by omega)
      rw [putUI_of] at this
      refine Ev.congr (fun k => ?_) this
      show pack_PutInt.f k n = pack_PutUint.f k (Pk.zig n : Int)
      unfold pack_PutInt.f
      rw [if_neg h1, if_neg h2]
      have e : Go.bits .xor .i64 (wrap64 (n * 2)) (n / 9223372036854775808) = (Pk.zig n : Int) := by
        have e2 : wrap64 (n * 2) = n * 2 := by unfold wrap64; omega
        rw [e2]
        by_cases h3 : n < 0
        · rw [show n / 9223372036854775808 = -1 by omega, xor_m1 _ (by omega)]
          unfold Pk.zig; rw [if_pos h3]; omega
        · rw [show n / 9223372036854775808 = 0 by omega, xor_0 _ (by omega)]
          unfold Pk.zig; rw [if_neg h3]; omega
      rw [e]
      cases pack_PutUint.f k (Pk.zig n : Int) <;> rfl
/-! The number at a place. -/
theorem gA_lt (l : List UInt8) (n : Nat) (j : Nat) : ∀ i acc, i + j = 9 → acc < 128 ^ i → (Pk.gA l n i acc).1 < 9223372036854775808 ∧ (Pk.gA l n i acc).2.1 ≤ n + 9 ∧ ((Pk.gA l n i acc).2.2 ≠ 0 → (Pk.gA l n i acc).1 = 0 ∧ (Pk.gA l n i acc).2.1 = 0) ∧ ((Pk.gA l n i acc).2.1 ≤ l.length) := by
  induction j with
  | zero => intro i acc hi _; rw [Pk.gA, if_pos (by omega)]; simp
  | succ j ih =>
    intro i acc hi ha
    by_cases hl : n + i < l.length
    · rw [gA_step l n i acc _ rfl hl (by omega)]
      have hc := acc_step acc i ((l.getD (n + i) 0).toNat : Int) ha
      have hm : 128 ^ (i + 1) ≤ 128 ^ 9 := Nat.pow_le_pow_right (by decide) (by omega)
      rw [show (128 : Nat) ^ 9 = 9223372036854775808 from Pk.pow9] at hm
      split
      · exact ih (i + 1) _ (by omega) hc
      · split
        · simp
        · exact ⟨by show _ + _ < _; omega, by show n + i + 1 ≤ n + 9; omega, fun h => absurd rfl h, by show n + i + 1 ≤ l.length; omega⟩
    · rw [Pk.gA, if_neg (by omega), List.getElem?_eq_none (by omega)]; simp
theorem getU_lt (l : List UInt8) (n : Int) : (Pk.getU l n).1 < 9223372036854775808 ∧ (Pk.getU l n).2.1 ≤ n.toNat + 9 ∧ ((Pk.getU l n).2.2 ≠ 0 → (Pk.getU l n).1 = 0 ∧ (Pk.getU l n).2.1 = 0) ∧ (Pk.getU l n).2.1 ≤ l.length := by
  unfold Pk.getU
  split
  · simp
  · exact gA_lt l n.toNat 9 0 0 (by omega) (by decide)
def t3 (x : Nat × Nat × Nat) : Int × Int × Int := ((x.1 : Int), (x.2.1 : Int), (x.2.2 : Int))
theorem getUint (s : ByteArray) (n : Int) (hs : s.size ≤ 140737488351232) : pack_GetUint.f s n = some (t3 (Pk.getU s.data.toList n)) := by
  unfold pack_GetUint.f; rw [if_pos hs]; rfl
theorem w64 (n : Int) (h0 : -9223372036854775808 ≤ n) (h1 : n ≤ 9223372036854775807) : wrap64 n = n := IntWalk.wrap64_in n ⟨h0, h1⟩
def t3i (x : Int × Nat × Nat) : Int × Int × Int := (x.1, (x.2.1 : Int), (x.2.2 : Int))
theorem getInt (s : ByteArray) (n : Int) (hs : s.size ≤ 140737488351232) : pack_GetInt.f s n = some (t3i (Pk.getI s.data.toList n)) := by
  unfold pack_GetInt.f
  rw [getUint s n hs, Option.bind_some]
  have hx := (getU_lt s.data.toList n).1
  show some (Go.bits .xor .i64 (((Pk.getU s.data.toList n).1 : Int) / 2) (wrap64 (-(Go.bits .and .i64 ((Pk.getU s.data.toList n).1 : Int) 1))), _, _) = some (Pk.zag (Pk.getU s.data.toList n).1, _, _)
  generalize (Pk.getU s.data.toList n).1 = x at *
  have e : Go.bits .xor .i64 ((x : Int) / 2) (wrap64 (-(Go.bits .and .i64 (x : Int) 1))) = Pk.zag x := by
    rw [and1_i64 x (by omega)]
    unfold Pk.zag
    by_cases h : x % 2 = 1
    · rw [if_pos h, h, w64 _ (by omega) (by omega), show (-((1 : Nat) : Int)) = -1 by rfl, xor_m1 _ (by omega)]; omega
    · rw [if_neg h, show x % 2 = 0 by omega, w64 _ (by omega) (by omega), show (-((0 : Nat) : Int)) = 0 by rfl, xor_0 _ (by omega)]; omega
  rw [e]; rfl
def t3t (x : List UInt8 × Nat × Nat) : ByteArray × Int × Int := (S x.1, (x.2.1 : Int), (x.2.2 : Int))
theorem ext_S (s : ByteArray) (a b : Nat) : s.extract a b = S ((s.data.toList.drop a).take (b - a)) := by rw [← S_extract, S_of]
theorem getText (s : ByteArray) (n : Int) (hs : s.size ≤ 140737488351232) : pack_GetText.f s n = some (t3t (Pk.getT s.data.toList n)) := by
  unfold pack_GetText.f
  rw [getUint s n hs, Option.bind_some]
  have hx := getU_lt s.data.toList n
  rw [size_len] at hx
  unfold Pk.getT
  have e1 : (t3 (Pk.getU s.data.toList n)).1 = ((Pk.getU s.data.toList n).1 : Int) := rfl
  have e2 : (t3 (Pk.getU s.data.toList n)).2.1 = ((Pk.getU s.data.toList n).2.1 : Int) := rfl
  have e3 : (t3 (Pk.getU s.data.toList n)).2.2 = ((Pk.getU s.data.toList n).2.2 : Int) := rfl
  rw [e1, e2, e3, size_len]
  generalize (Pk.getU s.data.toList n).1 = x at *
  generalize (Pk.getU s.data.toList n).2.1 = y at *
  generalize (Pk.getU s.data.toList n).2.2 = z at *
  by_cases h : z = 0
  · have w1 : wrap64 ((s.size : Int) - (y : Int)) = (s.size : Int) - (y : Int) := w64 _ (by omega) (by omega)
    rw [w1, if_pos (show (z : Int) = 0 by omega), if_neg (show ¬ z ≠ 0 by omega)]
    by_cases h2 : s.size < y + x
    · rw [if_pos (show (s.size : Int) - (y : Int) < (x : Int) by omega), if_pos h2]; rfl
    · have w2 : wrap64 ((y : Int) + (x : Int)) = (y : Int) + (x : Int) := w64 _ (by omega) (by omega)
      rw [if_neg (show ¬ (s.size : Int) - (y : Int) < (x : Int) by omega), if_neg h2, w2, if_pos (show (0 : Int) ≤ (y : Int) by omega), if_pos (show (y : Int) ≤ (y : Int) + (x : Int) by omega), if_pos (show (y : Int) + (x : Int) ≤ (s.size : Int) by omega)]
      rw [show ((y : Int) + (x : Int)).toNat = y + x by omega, Int.toNat_natCast, ext_S, show y + x - y = x by omega]; rfl
  · rw [if_neg (show ¬ (z : Int) = 0 by omega), if_pos h]; rfl
theorem putText_of {g : Nat → Option ByteArray} (s : ByteArray) (hs : s.size ≤ 140737488351232) (h : Ev g (S (Pk.putUI (s.size : Int)))) :
    Ev (fun k => (g k).bind fun t => if t.size + s.size ≤ 9223372036854775807 then some (t ++ s) else none) (S (Pk.putT s.data.toList)) := by
  refine Ev.bind h ⟨0, fun k _ => ?_⟩
  rw [putUI_of, S_size]
  have := putU_len9 s.size (by omega)
  rw [if_pos (by omega), ← S_of s, S_append, S_of, Pk.putT, size_len]
theorem putText (s : ByteArray) (hs : s.size ≤ 140737488351232) : Ev (fun k => pack_PutText.f k s) (S (Pk.putT s.data.toList)) :=
  putText_of s hs (putUint _ (by omega))
/-! The sum. -/
theorem sum_ (s : ByteArray) (hs : s.size ≤ 140737488351232) : pack_Sum.f s = some ((Pk.sum s.data.toList : Nat) : Int) := by
  unfold pack_Sum.f; rw [if_pos hs]
def crcN : Nat → Nat → Nat
  | 0, r => r
  | n + 1, r => crcN n (Pk.crc1 r)
theorem refSum_bits (s : ByteArray) (i : Int) (res : Int) (j : Nat) : ∀ (b r : Nat), b + j = 8 → r < 4294967296 → Ev (fun k => entrepotref21_Sum.l0 k s (crcN j r : Nat) (wrap64 (i + 1))) res →
    Ev (fun k => entrepotref21_Sum.l1 k s (r : Int) i (b : Int)) res := by
  induction j with
  | zero =>
    intro b r hb hr h
    refine Ev.step (fun k => ?_) h
    simp only [entrepotref21_Sum.l1]
    rw [if_neg (by omega)]; rfl
  | succ j ih =>
    intro b r hb hr h
    refine Ev.step (fun k => ?_) (ih (b + 1) (Pk.crc1 r) (by omega) (Pk.crc1_lt hr) h)
    simp only [entrepotref21_Sum.l1]
    rw [if_pos (by omega), Int.tmod_eq_emod_of_nonneg (by omega), Int.tdiv_eq_ediv_of_nonneg (by omega), w64 _ (by omega) (by omega)]
    have e : (r : Int) / 2 % 4294967296 = ((r / 2 : Nat) : Int) := by omega
    rw [e]
    unfold Pk.crc1
    by_cases h2 : r % 2 = 1
    · rw [if_pos (by omega), if_pos h2]
      have := xor_u32 (r / 2) 3988292384 (by omega) (by decide)
      rw [← this]; rfl
    · rw [if_neg (by omega), if_neg h2]; rfl
theorem crcN_8 (r : Nat) : crcN 8 r = Pk.crc4 (Pk.crc4 r) := rfl
theorem refSum_l (s : ByteArray) (hs : s.size ≤ 140737488351232) (j : Nat) : ∀ (i r : Nat), i + j = s.size → r < 4294967296 → Pk.run 4294967295 (s.data.toList.take i) = r →
    Ev (fun k => entrepotref21_Sum.l0 k s (r : Int) (i : Int)) ((Pk.sum s.data.toList : Nat) : Int) := by
  induction j with
  | zero =>
    intro i r hi hr h
    refine ⟨1, fun k hk => ?_⟩
    obtain ⟨m, rfl⟩ : ∃ m, k = m + 1 := ⟨k - 1, by omega⟩
    simp only [entrepotref21_Sum.l0]
    rw [if_neg (by omega)]
    rw [List.take_of_length_le (by rw [size_len]; omega)] at h
    unfold Pk.sum; rw [h]
    congr 1; omega
  | succ j ih =>
    intro i r hi hr h
    have hb := bt_get s i
    have hc := (s.data.toList.getD i 0).toNat_lt
    have hx : r ^^^ (s.data.toList.getD i 0).toNat < 4294967296 := Pk.xor_byte_lt hr _
    have hrun : Pk.run 4294967295 (s.data.toList.take (i + 1)) = Pk.crcB r (s.data.toList.getD i 0).toNat := by
      rw [List.take_succ_eq_append_getElem (by rw [size_len]; omega)]
      unfold Pk.run at h ⊢
      rw [List.foldl_append, h, List.getD_eq_getElem?_getD, List.getElem?_eq_getElem (by rw [size_len]; omega)]; rfl
    have := ih (i + 1) (Pk.crcB r (s.data.toList.getD i 0).toNat) (by omega) (Pk.crcB_lt hr _) hrun
    refine Ev.step (fun k => ?_) (refSum_bits s (i : Int) _ 8 0 (r ^^^ (s.data.toList.getD i 0).toNat) (by omega) hx (by rw [crcN_8, w64 _ (by omega) (by omega)]; exact this))
    simp only [entrepotref21_Sum.l0]
    rw [if_pos (by omega), if_pos (by omega), hb, show ((s.data.toList.getD i 0).toNat : Int) % 4294967296 = ((s.data.toList.getD i 0).toNat : Int) by omega, xor_u32 r _ hr (by omega)]; rfl
theorem refSum (s : ByteArray) (hs : s.size ≤ 140737488351232) : Ev (fun k => entrepotref21_Sum.f k s) ((Pk.sum s.data.toList : Nat) : Int) :=
  refSum_l s hs s.size 0 4294967295 (by omega) (by omega) rfl
/-! What is sealed, and opened. -/
theorem le4_nats (n : Nat) : nats (Pk.le4 n) = [((n % 256 : Nat) : Int), ((n / 256 % 256 : Nat) : Int), ((n / 65536 % 256 : Nat) : Int), ((n / 16777216 % 256 : Nat) : Int)] := by
  unfold Pk.le4
  rw [nats_cons _ (by omega), nats_cons _ (by omega), nats_cons _ (by omega), nats_cons _ (by omega)]; rfl
theorem sealed (s : ByteArray) (hs : s.size ≤ 140737488351232) : pack_Seal.f s = some (S (Pk.shut s.data.toList)) := by
  unfold pack_Seal.f
  rw [sum_ s hs, Option.bind_some, Option.bind_some]
  have e : ([((Pk.sum s.data.toList : Nat) : Int) % 256, ((Pk.sum s.data.toList : Nat) : Int) / 256 % 256, ((Pk.sum s.data.toList : Nat) : Int) / 65536 % 256, ((Pk.sum s.data.toList : Nat) : Int) / 16777216 % 256] : List Int) = nats (Pk.le4 (Pk.sum s.data.toList)) := by
    rw [le4_nats]; simp
  rw [e, str_nats, S_size]
  rw [if_pos (by simp [Pk.le4]; omega), ← S_of s, S_append, S_of]; rfl
theorem refSeal_l (s : ByteArray) (hs : s.size ≤ 140737488351232) (n : Nat) (hn : n < 4294967296) : Ev (fun k => entrepotref21_Seal.l0 k s (n : Int) ([] : List Int) 0) (S (s.data.toList ++ Pk.le4 n)) := by
  refine ⟨5, fun k hk => ?_⟩
  obtain ⟨m, rfl⟩ : ∃ m, k = m + 5 := ⟨k - 5, by omega⟩
  have d : ∀ x : Nat, x < 4294967296 → Int.tdiv (x : Int) 256 % 4294967296 = ((x / 256 : Nat) : Int) := fun x h => by
    rw [Int.tdiv_eq_ediv_of_nonneg (by omega)]; omega
  have r : ∀ x : Nat, Int.tmod (x : Int) 256 % 256 = ((x % 256 : Nat) : Int) := fun x => by
    rw [Int.tmod_eq_emod_of_nonneg (by omega)]; omega
  have w0 : wrap64 ((0 : Int) + 1) = 1 := w64 _ (by omega) (by omega)
  have w1 : wrap64 ((1 : Int) + 1) = 2 := w64 _ (by omega) (by omega)
  have w2 : wrap64 ((2 : Int) + 1) = 3 := w64 _ (by omega) (by omega)
  have w3 : wrap64 ((3 : Int) + 1) = 4 := w64 _ (by omega) (by omega)
  simp only [entrepotref21_Seal.l0]
  rw [if_pos (by decide), if_pos (by simp), r, d n hn, w0, if_pos (by decide), if_pos (by simp), r, d _ (by omega), w1, if_pos (by decide), if_pos (by simp), r, d _ (by omega), w2, if_pos (by decide), if_pos (by simp), r, d _ (by omega), w3, if_neg (by decide)]
  have e : ([] ++ [((n % 256 : Nat) : Int)] ++ [((n / 256 % 256 : Nat) : Int)] ++ [((n / 256 / 256 % 256 : Nat) : Int)] ++ [((n / 256 / 256 / 256 % 256 : Nat) : Int)]) = nats (Pk.le4 n) := by
    rw [le4_nats, show n / 256 / 256 = n / 65536 by omega, show n / 65536 / 256 = n / 16777216 by omega]; rfl
  rw [e, str_nats, S_size, if_pos (by simp [Pk.le4]; omega), ← S_of s, S_append, S_of]
theorem refSealed (s : ByteArray) (hs : s.size ≤ 140737488351232) : Ev (fun k => entrepotref21_Seal.f k s) (S (Pk.shut s.data.toList)) :=
  Ev.bind (refSum s hs) (refSeal_l s hs _ (Pk.sum_lt _))
def t2t (x : List UInt8 × Nat) : ByteArray × Int := (S x.1, (x.2 : Int))
theorem take_ext (s : ByteArray) : s.extract 0 (s.size - 4) = S (s.data.toList.take (s.size - 4)) := by rw [ext_S]; simp
theorem opened (s : ByteArray) (hs : s.size ≤ 140737488351232) : pack_Open.f s = some (t2t (Pk.opn s.data.toList)) := by
  unfold pack_Open.f Pk.opn
  rw [w64 _ (by omega) (by omega), size_len]
  by_cases h : s.size < 4
  · rw [if_pos (by omega), if_pos h]; rfl
  · rw [if_neg (by omega), if_neg h, if_pos (by omega), if_pos (by omega), show ((s.size : Int) - 4).toNat = s.size - 4 by omega, take_ext s]
    rw [sealed _ (by rw [S_size, List.length_take]; omega), Option.bind_some, S_data, S_toList, ByteArray.toList_eq]
    by_cases e : Pk.shut (s.data.toList.take (s.size - 4)) = s.data.toList
    · rw [if_pos e, if_neg (by simpa using e)]; rfl
    · rw [if_neg e, if_pos e]; rfl
/-! The small case that must go well. -/
end Go.Proofs.YtofklpphalalhaaGreatDoor.Evs
end
section
namespace Go.Proofs.YtofklpphalalhaaGreatDoor
set_option linter.unusedVariables false
set_option linter.unusedSimpArgs false
open Go.RowKit Go.Proofs.YtofklpphalalhaaGreatDoor.PAll Go.Proofs.YtofklpphalalhaaGreatDoorW.PrintWords Go.Proofs.YtofklpphalalhaaGreatDoorW.PrintLast Go.Proofs.YtofklpphalalhaaGreatDoorW.PrintMore
theorem putInt_calls (n : Int) (w : World) : Calls Tryz.prog 119 #[.int .i64 n] w fun e w' => e = .returned (.string (Evs.S (Pk.putI n))) ∧ Below w.heap.size w w' := by
  obtain ⟨k, hk⟩ := (Evs.putInt n).rounds
  exact pack_PutInt.calls k n _ w hk
theorem putUint_calls (n : Int) (h : n < 9223372036854775808) (w : World) : Calls Tryz.prog 77 #[.int .i64 n] w fun e w' => e = .returned (.string (Evs.S (Pk.putUI n))) ∧ Below w.heap.size w w' := by
  obtain ⟨k, hk⟩ := (Evs.putUint n h).rounds
  exact pack_PutUint.calls k n _ w hk
theorem putText_calls (s : ByteArray) (h : s.size ≤ 140737488351232) (w : World) : Calls Tryz.prog 75 #[.string s] w fun e w' => e = .returned (.string (Evs.S (Pk.putT s.data.toList))) ∧ Below w.heap.size w w' := by
  obtain ⟨k, hk⟩ := (Evs.putText s h).rounds
  exact pack_PutText.calls k s _ w hk
namespace Pp
def ints (l : List Int) : List UInt8 := l.flatMap Pk.putI
def list (l : List Int) : List UInt8 := Pk.putUI l.length ++ ints l
theorem putI_len (n : Int) : (Pk.putI n).length ≤ 9 := by
  unfold Pk.putI
  split
  · simp
  · rename_i h
    refine Evs.putU_len9 _ (Nat.lt_of_lt_of_le (Evs.zig_lt n ?_ ?_) (by omega)) <;> omega
theorem putUI_len (n : Int) (h : n < 9223372036854775808) : (Pk.putUI n).length ≤ 9 := by
  unfold Pk.putUI
  split
  · simp
  · exact Evs.putU_len9 _ (by omega)
theorem ints_len (l : List Int) : (ints l).length ≤ 9 * l.length := by
  induction l with
  | nil => simp [ints]
  | cons x l ih =>
    have := putI_len x
    unfold ints at ih ⊢
    rw [List.flatMap_cons, List.length_append, List.length_cons]; omega
theorem ints_take (l : List Int) (k : Nat) (hk : k < l.length) : ints (l.take (k + 1)) = ints (l.take k) ++ Pk.putI (l.getD k 0) := by
  unfold ints
  rw [List.take_succ_eq_append_getElem hk, List.flatMap_append, List.getD_eq_getElem?_getD, List.getElem?_eq_getElem hk]
  simp
end Pp
/-- A writer: a builder that holds bytes. -/
def Wr (base b : Nat) (l : List UInt8) (w : World) : Prop := Bld 124 [] base b (Lib.byteCells l) w
section
variable {base b : Nat} {l : List UInt8} {w w' : World}
theorem Wr.below (h : Wr base b l w) (hb : Below w.heap.size w w') : Wr base b l w' := by
  obtain ⟨h1, p, v, hp, hk, ho⟩ := h
  exact ⟨h1, p, v, hp, (hb.block b (Array.getElem?_eq_some_iff.1 hk).1).trans hk, pw_own_below ho hb⟩
theorem Wr.drew (h : Wr base b l w) : Wr base b l w.drew := h
theorem Wr.base_le (h : Wr base b l w) : base ≤ w.heap.size := Bld.base_le h
end
theorem wr_write {base b : Nat} {l : List UInt8} {w : World} (h : Wr base b l w) (s : ByteArray) (hlen : (Lib.byteCells l).length + s.size ≤ 140737488355328) : Calls Tryz.prog 74 #[.pointer (some ⟨b, 0, none⟩), .string s] w fun e w' => e = .returned (.tuple #[.int .i64 s.size, .nilIface]) ∧ Bld 124 [] base b (Lib.byteCells l ++ Lib.strCells s) w' ∧ Below base w w' ∧ Kp b w w' := writeString_calls (T := 124) (rest := []) begins124 h s hlen
theorem Kp.of_below {b : Nat} {w w' : World} (h : Below w.heap.size w w') : Kp b w w' := fun k o hk _ _ => (h.block k (Array.getElem?_eq_some_iff.1 hk).1).trans hk
theorem below_size' {B : Nat} {w W : World} (h : Below B w W) (hb : B ≤ w.heap.size) : B ≤ W.heap.size := Nat.le_trans hb h.size
set_option maxRecDepth 100000 in
set_option maxHeartbeats 4000000 in
theorem ints_walk (base b : Nat) (l : List UInt8) (A : Option Addr) (c : Nat) (xs : List Int) (w : World) (hW : Wr base b l w) (hl : l.length + 9 * xs.length ≤ 70368744177664)
    (hC : ∀ w', Below base w w' → Kp b w w' → Kd.C (Kd.int .i64) w' A xs.length xs) :
    Calls Tryz.prog 76 #[.pointer (some ⟨b, 0, none⟩), .slice A xs.length c] w fun e w' => e = .returned (.tuple #[]) ∧ Wr base b (l ++ Pp.ints xs) w' ∧ Below base w w' ∧ Kp b w w' := by
  have HC := Aside0.mk hC
  have HW0 := Aside0.mk hW
  have HBS := Aside0.mk hW.base_le
  clear hC hW
  go_enter Tryz.func76, Tryz.ntmps76
  go_wp2_with fail
  go_loopw [8] (fun v wr => ∃ k : Nat, k ≤ xs.length ∧ v = .int .i64 k ∧ Wr base b (l ++ Pp.ints (xs.take k)) wr ∧ Below base w wr ∧ Kp b w wr) (fun v _ => xs.length - (intOf v).toNat)
  case atStart => exact ⟨0, Nat.zero_le _, rfl, by simpa [Pp.ints] using HW0.out, Below.refl _ _, Kp.refl _ _⟩
  case round =>
    obtain ⟨k, hk, rfl, hw, hb, hkp⟩ := hrel
    have HWR := Aside0.mk hw
    have HB := Aside0.mk hb
    have HK := Aside0.mk hkp
    clear hw hb hkp
    by_cases hlt : k < xs.length
    · have hdl : (k : Int) < (xs.length : Int) := by omega
      obtain ⟨ad, e, x0⟩ := int_cell (HC.out _ HB.out HK.out) k hlt
      subst e
      have hnx := Pp.ints_take xs k hlt
      obtain ⟨x, hx⟩ : ∃ x, xs.getD k 0 = x := ⟨_, rfl⟩
      rw [hx] at x0 hnx
      have HNX := Aside0.mk hnx
      have hlw : Aside0 ((Lib.byteCells (l ++ Pp.ints (xs.take k))).length + (Evs.S (Pk.putI x)).size ≤ 140737488355328) := ⟨by
        rw [Lib.byteCells_length, List.length_append, Evs.S_size]
        have h1 := Pp.ints_len (xs.take k)
        have h2 := Pp.putI_len x
        rw [List.length_take] at h1
        omega⟩
      clear hx hnx
      go_wp2_with fail
      refine start_ (n := 6) (S := fun w' => True) (ds := []) #[false, false, false, false, false, false] (by kernel_rfl) rfl rfl trivial (fun hHeld => ?_)
      refine pure_ (i := 0) (N := some 12) (v := ?_) (a' := ?_) #[true, false, false, false, false, false] rfl rfl (by kernel_rfl) (fun _ _ _ h => h) (Or.inl ⟨by rfl, ?_⟩) ?_ ?_
      rotate_left
      · intro w'
        go_simp
        with_reducible rfl
      rotate_left
      · simp only [Act.put, List.setIfInBounds_toArray, List.set_cons_zero, List.set_cons_succ, i64_w, i32_w]
        rfl
      refine pure_ (i := 1) (N := some 13) (v := ?_) (a' := ?_) #[true, true, false, false, false, false] rfl rfl (by kernel_rfl) (fun _ _ _ h => h) (Or.inl ⟨by rfl, ?_⟩) ?_ ?_
      rotate_left
      · intro w'
        go_simp
        with_reducible rfl
      rotate_left
      · simp only [Act.put, List.setIfInBounds_toArray, List.set_cons_zero, List.set_cons_succ, i64_w, i32_w]
        rfl
      refine pure_ (i := 2) (N := some 14) (v := ?_) (a' := ?_) #[true, true, true, false, false, false] rfl rfl (by kernel_rfl) (fun _ _ _ h => h) (Or.inl ⟨by rfl, ?_⟩) ?_ ?_
      rotate_left
      · intro w'
        go_simp
        with_reducible rfl
      rotate_left
      · simp only [Act.put, List.setIfInBounds_toArray, List.set_cons_zero, List.set_cons_succ, i64_w, i32_w]
        rfl
      refine pure_ (i := 3) (N := some 15) (v := ?_) (a' := ?_) #[true, true, true, true, false, false] rfl rfl (by kernel_rfl) (fun _ _ _ h => h) (Or.inl ⟨by rfl, ?_⟩) ?_ ?_
      rotate_left
      · intro w'
        go_simp
        with_reducible rfl
      rotate_left
      · simp only [Act.put, List.setIfInBounds_toArray, List.set_cons_zero, List.set_cons_succ, i64_w, i32_w]
        rfl
      refine one_ (i := 4) (N := some 16) #[true, true, true, true, true, false] rfl rfl (by kernel_rfl) (by decide) (fun K hK => ?_)
      refine goes_ Tryz.func119 (by kernel_rfl) rfl #[.int .i64 x] (by rfl) rfl rfl (by simp only [List.map_toArray, List.map_cons, List.map_nil]; rfl) ?_
      with_reducible refine ((putInt_calls x _)).mono ?_
      rintro e W1 ⟨rfl, hb1⟩
      refine ⟨_, rfl, ?_⟩
      have HC1 : Aside0 (Wr base b (l ++ Pp.ints (xs.take k)) W1) := ⟨HWR.out.drew.below hb1⟩
      have HB1 : Aside0 (Below base w W1) := ⟨HB.out.drew.trans (hb1.mono (Nat.le_trans HBS.out HB.out.size))⟩
      have HK1 : Aside0 (Kp b w W1) := ⟨HK.out.drew.trans (Kp.of_below hb1)⟩
      clear hb1
      refine hK.out _ _ trivial (fun hHeld => ?_)
      clear hK K
      refine norm_ (a' := ?_) ?_ ?_
      rotate_left
      · show Act.put _ (some 16) _ = _
        simp only [Act.put, List.setIfInBounds_toArray, List.set_cons_zero, List.set_cons_succ, i64_w, i32_w]
        rfl
      refine one_ (i := 5) (N := some 17) #[true, true, true, true, true, true] rfl rfl (by kernel_rfl) (by decide) (fun K hK => ?_)
      refine goes_ Tryz.func74 (by kernel_rfl) rfl #[.pointer (some ⟨b, 0, none⟩), .string (Evs.S (Pk.putI x))] (by rfl) rfl rfl (by simp only [List.map_toArray, List.map_cons, List.map_nil]; rfl) ?_
      with_reducible refine ((wr_write HC1.out (Evs.S (Pk.putI x)) hlw.out)).mono ?_
      rintro e W2 ⟨rfl, hw, hb2, hk2⟩
      refine ⟨_, rfl, ?_⟩
      have HW2 := Aside0.mk hw
      have HB2 := Aside0.mk hb2
      have HK2 := Aside0.mk hk2
      clear hw hb2 hk2
      refine hK.out _ _ trivial (fun hHeld => ?_)
      clear hK K
      refine norm_ (a' := ?_) ?_ ?_
      rotate_left
      · show Act.put _ (some 17) _ = _
        simp only [Act.put, List.setIfInBounds_toArray, List.set_cons_zero, List.set_cons_succ, i64_w, i32_w]
        rfl
      refine done_ (by kernel_rfl) ?_
      have HW3 : Aside0 (Wr base b (l ++ Pp.ints (xs.take (k + 1))) W2) := ⟨by
        rw [HNX.out, ← List.append_assoc]
        have := HW2.out
        rw [Lib.strCells_eq, Evs.S_data, ← Lib.byteCells_append] at this
        exact this⟩
      have HB3 : Aside0 (Below base w W2) := ⟨HB1.out.trans HB2.out⟩
      have HK3 : Aside0 (Kp b w W2) := ⟨HK1.out.trans HK2.out⟩
      clear HW2 HB1 HB2 HK1 HK2 HC1 HNX hlw HWR HB HK
      go_wp2_with fail
      go_roundw
      case rel => exact ⟨k + 1, by omega, by go_num, HW3.out, HB3.out, HK3.out⟩
      case measure => simp [intOf]; omega
    · have hdl : ¬ ((k : Int) < (xs.length : Int)) := by omega
      have hke : xs.take k = xs := List.take_of_length_le (by omega)
      rw [hke] at HWR
      have HF := Aside0.mk (And.intro HWR.out (And.intro HB.out HK.out))
      clear HWR HB HK hke
      go_wp2_with fail
      go_end0
      exact ⟨rfl, HF.out⟩
set_option maxRecDepth 100000 in
set_option maxHeartbeats 4000000 in
theorem list_walk (base b : Nat) (l : List UInt8) (A : Option Addr) (c : Nat) (xs : List Int) (w : World) (hW : Wr base b l w) (hl : l.length + 9 * xs.length + 9 ≤ 70368744177664)
    (hC : ∀ w', Below base w w' → Kp b w w' → Kd.C (Kd.int .i64) w' A xs.length xs) :
    Calls Tryz.prog 78 #[.pointer (some ⟨b, 0, none⟩), .slice A xs.length c] w fun e w' => e = .returned (.tuple #[]) ∧ Wr base b (l ++ Pp.list xs) w' ∧ Below base w w' ∧ Kp b w w' := by
  have HC := Aside0.mk hC
  have HWR := Aside0.mk hW
  have HBS := Aside0.mk hW.base_le
  have hlw : Aside0 ((Lib.byteCells l).length + (Evs.S (Pk.putUI xs.length)).size ≤ 140737488355328) := ⟨by
    rw [Lib.byteCells_length, Evs.S_size]
    have h2 := Pp.putUI_len xs.length (by omega)
    omega⟩
  clear hC hW
  go_enter Tryz.func78, Tryz.ntmps78
  go_wp2_with fail
  refine start_ (n := 7) (S := fun w' => True) (ds := []) #[false, false, false, false, false, false, false] (by kernel_rfl) rfl rfl trivial (fun hHeld => ?_)
  refine pure_ (i := 0) (N := some 4) (v := ?_) (a' := ?_) #[true, false, false, false, false, false, false] rfl rfl (by kernel_rfl) (fun _ _ _ h => h) (Or.inl ⟨by rfl, ?_⟩) ?_ ?_
  rotate_left
  · intro w'
    go_simp
    with_reducible rfl
  rotate_left
  · simp only [Act.put, List.setIfInBounds_toArray, List.set_cons_zero, List.set_cons_succ, i64_w, i32_w]
    rfl
  refine pure_ (i := 1) (N := some 5) (v := ?_) (a' := ?_) #[true, true, false, false, false, false, false] rfl rfl (by kernel_rfl) (fun _ _ _ h => h) (Or.inl ⟨by rfl, ?_⟩) ?_ ?_
  rotate_left
  · intro w'
    go_simp
    with_reducible rfl
  rotate_left
  · simp only [Act.put, List.setIfInBounds_toArray, List.set_cons_zero, List.set_cons_succ, i64_w, i32_w]
    rfl
  refine pure_ (i := 2) (N := some 6) (v := ?_) (a' := ?_) #[true, true, true, false, false, false, false] rfl rfl (by kernel_rfl) (fun _ _ _ h => h) (Or.inl ⟨by rfl, ?_⟩) ?_ ?_
  rotate_left
  · intro w'
    go_simp
    with_reducible rfl
  rotate_left
  · simp only [Act.put, List.setIfInBounds_toArray, List.set_cons_zero, List.set_cons_succ, i64_w, i32_w]
    rfl
  refine pure_ (i := 3) (N := some 7) (v := ?_) (a' := ?_) #[true, true, true, true, false, false, false] rfl rfl (by kernel_rfl) (fun _ _ _ h => h) (Or.inl ⟨by rfl, ?_⟩) ?_ ?_
  rotate_left
  · intro w'
    go_simp
    with_reducible rfl
  rotate_left
  · simp only [Act.put, List.setIfInBounds_toArray, List.set_cons_zero, List.set_cons_succ, i64_w, i32_w]
    rfl
  refine pure_ (i := 4) (N := some 8) (v := ?_) (a' := ?_) #[true, true, true, true, true, false, false] rfl rfl (by kernel_rfl) (fun _ _ _ h => h) (Or.inl ⟨by rfl, ?_⟩) ?_ ?_
  rotate_left
  · intro w'
    go_simp
    with_reducible rfl
  rotate_left
  · simp only [Act.put, List.setIfInBounds_toArray, List.set_cons_zero, List.set_cons_succ, i64_w, i32_w]
    rfl
  refine one_ (i := 5) (N := some 9) #[true, true, true, true, true, true, false] rfl rfl (by kernel_rfl) (by decide) (fun K hK => ?_)
  refine goes_ Tryz.func77 (by kernel_rfl) rfl #[.int .i64 xs.length] (by rfl) rfl rfl (by simp only [List.map_toArray, List.map_cons, List.map_nil]; rfl) ?_
  with_reducible refine ((putUint_calls xs.length (by omega) _)).mono ?_
  rintro e W1 ⟨rfl, hb1⟩
  refine ⟨_, rfl, ?_⟩
  have HC1 : Aside0 (Wr base b l W1) := ⟨HWR.out.drew.below hb1⟩
  have HB1 : Aside0 (Below base w W1) := ⟨((Below.refl base w).drew).trans (hb1.mono HBS.out)⟩
  have HK1 : Aside0 (Kp b w W1) := ⟨(Kp.refl b w).drew.trans (Kp.of_below hb1)⟩
  clear hb1
  refine hK.out _ _ trivial (fun hHeld => ?_)
  clear hK K
  refine norm_ (a' := ?_) ?_ ?_
  rotate_left
  · show Act.put _ (some 9) _ = _
    simp only [Act.put, List.setIfInBounds_toArray, List.set_cons_zero, List.set_cons_succ, i64_w, i32_w]
    rfl
  refine one_ (i := 6) (N := some 10) #[true, true, true, true, true, true, true] rfl rfl (by kernel_rfl) (by decide) (fun K hK => ?_)
  refine goes_ Tryz.func74 (by kernel_rfl) rfl #[.pointer (some ⟨b, 0, none⟩), .string (Evs.S (Pk.putUI xs.length))] (by rfl) rfl rfl (by simp only [List.map_toArray, List.map_cons, List.map_nil]; rfl) ?_
  with_reducible refine ((wr_write HC1.out (Evs.S (Pk.putUI xs.length)) hlw.out)).mono ?_
  rintro e W2 ⟨rfl, hw, hb2, hk2⟩
  refine ⟨_, rfl, ?_⟩
  have HW2 := Aside0.mk hw
  have HB2 := Aside0.mk hb2
  have HK2 := Aside0.mk hk2
  clear hw hb2 hk2
  refine hK.out _ _ trivial (fun hHeld => ?_)
  clear hK K
  refine norm_ (a' := ?_) ?_ ?_
  rotate_left
  · show Act.put _ (some 10) _ = _
    simp only [Act.put, List.setIfInBounds_toArray, List.set_cons_zero, List.set_cons_succ, i64_w, i32_w]
    rfl
  refine done_ (by kernel_rfl) ?_
  have HW3 : Aside0 (Wr base b (l ++ Pk.putUI xs.length) W2) := ⟨by
    have := HW2.out
    rw [Lib.strCells_eq, Evs.S_data, ← Lib.byteCells_append] at this
    exact this⟩
  have HB3 : Aside0 (Below base w W2) := ⟨HB1.out.trans HB2.out⟩
  have HK3 : Aside0 (Kp b w W2) := ⟨HK1.out.trans HK2.out⟩
  have hin := ints_walk base b (l ++ Pk.putUI xs.length) A c xs W2 HW3.out (by
    have h2 := Pp.putUI_len xs.length (by omega)
    rw [List.length_append]; omega) (fun w' h1 h2 => HC.out w' (HB3.out.trans h1) (HK3.out.trans h2))
  have HIN := Aside0.mk hin
  clear hin HW2 HB1 HB2 HK1 HK2 HC1 hlw HWR
  go_wp2_with fail
  refine HIN.out.mono ?_
  rintro e w' ⟨rfl, hw, hb, hk⟩
  have HF := Aside0.mk (And.intro hw (And.intro (HB3.out.trans hb) (HK3.out.trans hk)))
  clear hw hb hk
  go_wp2_with fail
  go_end0
  exact ⟨rfl, by unfold Pp.list; rw [← List.append_assoc]; exact HF.out.1, HF.out.2⟩
set_option maxRecDepth 100000 in
set_option maxHeartbeats 4000000 in
theorem begun_walk (kind : UInt8) (w : World) : Calls Tryz.prog 73 #[.int .u8 kind.toNat] w fun e w' => e = .returned (.pointer (some ⟨w.heap.size, 0, none⟩)) ∧ Wr w.heap.size w.heap.size [69, 80, 84, kind] w' ∧ Below w.heap.size w w' := by
  have h0 : Wr w.heap.size w.heap.size [] (w.alloc (.cells #[.pointer none, .slice none 0 0] 124)) := ⟨Nat.le_refl _, _, _, .inl rfl, Array.getElem?_push_size, World.ownsRow_nil _ _ _ _⟩
  have HS := Aside0.mk (writeString_calls begins124 h0 ⟨#[69, 80, 84]⟩ (by decide))
  clear h0
  go_enter Tryz.func73, Tryz.ntmps73
  go_wp2_with fail
  refine HS.out.mono ?_
  rintro e W1 ⟨rfl, hw1, hb1, hk1⟩
  have HB1 : Aside0 (Below w.heap.size w W1) := ⟨(below_one w _).trans hb1⟩
  have hwb := writeByte_calls begins124 hw1 (by decide) kind.toNat
  have HWB := Aside0.mk hwb
  clear hwb hw1 hb1 hk1 HS
  go_wp2_with fail
  refine HWB.out.mono ?_
  rintro e W2 ⟨rfl, hw2, hb2, hk2⟩
  have HF := Aside0.mk (And.intro hw2 (HB1.out.trans hb2))
  clear hw2 hb2 hk2 HWB HB1
  go_wp2_with fail
  go_ret
  exact ⟨rfl, HF.out.1, HF.out.2⟩
set_option maxRecDepth 100000 in
set_option maxHeartbeats 4000000 in
theorem sealed_walk (base b : Nat) (l : List UInt8) (w : World) (hW : Wr base b l w) (h0 : l ≠ []) (hl : l.length ≤ 70368744177664) (HT : ∀ w', Below base w w' → Tab w') :
    Calls Tryz.prog 79 #[.pointer (some ⟨b, 0, none⟩)] w fun e w' => e = .returned (.string (Evs.S (Pk.shut l))) ∧ Below base w w' := by
  have HS := Aside0.mk (string_calls begins124 hW h0)
  have HBS := Aside0.mk hW.base_le
  clear hW
  go_enter Tryz.func79, Tryz.ntmps79
  go_wp2_with fail
  refine HS.out.mono ?_
  rintro e W1 ⟨rfl, hb1, hk1⟩
  have hsl := pack_Seal.calls ⟨l.toArray⟩ (Evs.S (Pk.shut l)) W1 (HT W1 hb1) (by
    have := Evs.sealed ⟨l.toArray⟩ (by have e : (⟨l.toArray⟩ : ByteArray).size = l.length := Evs.S_size l; omega)
    exact this)
  have HSL := Aside0.mk hsl
  have HB1 := Aside0.mk hb1
  clear hsl hb1 hk1 HS
  go_wp2_with fail
  refine HSL.out.mono ?_
  rintro e W2 ⟨rfl, hb2⟩
  have HF := Aside0.mk (HB1.out.trans (hb2.mono (below_size' HB1.out HBS.out)))
  clear hb2 HSL HB1
  go_wp2_with fail
  go_ret
  exact ⟨rfl, HF.out⟩
end Go.Proofs.YtofklpphalalhaaGreatDoor
end
