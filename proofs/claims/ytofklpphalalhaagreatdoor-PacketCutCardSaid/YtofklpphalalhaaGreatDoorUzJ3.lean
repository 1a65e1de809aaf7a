/- Texts of this claim, joined: Pk, GivenP. Each as it was, cut to what the claim uses. Conditions: each theorem's own. -/
import Derived.Test.YtofklpphalalhaaGreatDoorProg
import Derived.Test.YtofklpphalalhaaGreatDoorUzJ0
import Derived.WalkKit
import Derived.KernelRfl
import Derived.Lib.ConvBytes
import Derived.Laws.Slices
section
namespace Pk
/-- The bytes of a number. -/
def putU (n : Nat) : List UInt8 := if n < 128 then [UInt8.ofNat n] else UInt8.ofNat (n % 128 + 128) :: putU (n / 128)
termination_by n
decreasing_by omega
theorem putU_lt {n : Nat} (h : n < 128) : putU n = [UInt8.ofNat n] := by rw [putU, if_pos h]
theorem putU_ge {n : Nat} (h : ¬ n < 128) : putU n = UInt8.ofNat (n % 128 + 128) :: putU (n / 128) := by rw [putU, if_neg h]
/-- The number at a place: value, place behind, error. -/
def gA (s : List UInt8) (at_ : Nat) (i acc : Nat) : Nat × Nat × Nat :=
  if 9 ≤ i then (0, 0, 212) else
  match s[at_ + i]? with
  | none => (0, 0, 211)
  | some b => if 128 ≤ b.toNat then gA s at_ (i + 1) (acc + (b.toNat - 128) * 128 ^ i) else
    if b.toNat = 0 ∧ 0 < i then (0, 0, 212) else (acc + b.toNat * 128 ^ i, at_ + i + 1, 0)
termination_by 9 - i
decreasing_by omega
def getU (s : List UInt8) (at_ : Int) : Nat × Nat × Nat :=
  if at_ < 0 ∨ (s.length : Int) < at_ then (0, 0, 211) else gA s at_.toNat 0 0
theorem putU_len_pos (n : Nat) : 0 < (putU n).length := by
  rw [putU]; split <;> simp
theorem putU_len (k : Nat) : ∀ n, n < 128 ^ (k + 1) → (putU n).length ≤ k + 1 := by
  induction k with
  | zero => intro n h; rw [putU_lt (by simpa using h)]; simp
  | succ k ih =>
    intro n h
    by_cases h1 : n < 128
    · rw [putU_lt h1]; simp
    · rw [putU_ge h1]
      have : n / 128 < 128 ^ (k + 1) := by
        rw [Nat.div_lt_iff_lt_mul (by omega)]
        rw [Nat.pow_succ] at h; exact h
      have := ih _ this
      simp; omega
theorem toNat_ofNat {n : Nat} (h : n < 256) : (UInt8.ofNat n).toNat = n := by
  simp [UInt8.toNat_ofNat']; omega
/-- What is put is got, anywhere: from digit i on. -/
theorem gA_put (k : Nat) : ∀ (n i acc : Nat) (a b : List UInt8), n < 128 ^ (k + 1) → i + k < 9 → (0 < i → 0 < n) → ∀ p, p + i = a.length →
    gA (a ++ putU n ++ b) p i acc = (acc + n * 128 ^ i, a.length + (putU n).length, 0) := by
  induction k with
  | zero =>
    intro n i acc a b hn hi h0 p hp
    have hn' : n < 128 := by simpa using hn
    rw [putU_lt hn', gA, if_neg (by omega)]
    rw [show (a ++ [UInt8.ofNat n] ++ b)[p + i]? = some (UInt8.ofNat n) by
      rw [hp, List.append_assoc, List.getElem?_append_right (by omega)]; simp]
    simp only [toNat_ofNat (show n < 256 by omega)]
    rw [if_neg (by omega), if_neg (by omega)]
    simp; omega
  | succ k ih =>
    intro n i acc a b hn hi h0 p hp
    by_cases h1 : n < 128
    · rw [putU_lt h1, gA, if_neg (by omega)]
      rw [show (a ++ [UInt8.ofNat n] ++ b)[p + i]? = some (UInt8.ofNat n) by
        rw [hp, List.append_assoc, List.getElem?_append_right (by omega)]; simp]
      simp only [toNat_ofNat (show n < 256 by omega)]
      rw [if_neg (by omega), if_neg (by omega)]
      simp; omega
    · rw [putU_ge h1, gA, if_neg (by omega)]
      rw [show (a ++ UInt8.ofNat (n % 128 + 128) :: putU (n / 128) ++ b)[p + i]? = some (UInt8.ofNat (n % 128 + 128)) by
        rw [hp, List.append_assoc, List.getElem?_append_right (by omega)]; simp]
      simp only [toNat_ofNat (show n % 128 + 128 < 256 by omega)]
      rw [if_pos (by omega)]
      have hd : n / 128 < 128 ^ (k + 1) := by
        rw [Nat.div_lt_iff_lt_mul (by omega)]
        rw [Nat.pow_succ] at hn; exact hn
      have := ih (n / 128) (i + 1) (acc + (n % 128 + 128 - 128) * 128 ^ i) (a ++ [UInt8.ofNat (n % 128 + 128)]) b hd (by omega) (by omega) p (by simp; omega)
      rw [show a ++ UInt8.ofNat (n % 128 + 128) :: putU (n / 128) ++ b = a ++ [UInt8.ofNat (n % 128 + 128)] ++ putU (n / 128) ++ b by simp]
      rw [this]
      simp only [List.length_append, List.length_cons, List.length_nil]
      refine Prod.ext ?_ (Prod.ext ?_ rfl)
      · show acc + (n % 128 + 128 - 128) * 128 ^ i + n / 128 * 128 ^ (i + 1) = acc + n * 128 ^ i
        rw [Nat.pow_succ, Nat.mul_comm (128 ^ i) 128, ← Nat.mul_assoc, Nat.add_assoc, ← Nat.add_mul]
        rw [show n % 128 + 128 - 128 + n / 128 * 128 = n by omega]
      · show a.length + (0 + 1) + (putU (n / 128)).length = a.length + ((putU (n / 128)).length + 1); omega
theorem pow9 : (128 : Nat) ^ (8 + 1) = 9223372036854775808 := by decide +kernel
theorem getU_put (n : Nat) (a b : List UInt8) (h : n < 9223372036854775808) :
    getU (a ++ putU n ++ b) (a.length : Int) = (n, a.length + (putU n).length, 0) := by
  unfold getU
  rw [if_neg (by simp; omega)]
  have := gA_put 8 n 0 0 a b (by rw [pow9]; exact h) (by omega) (by omega) a.length (by omega)
  simpa using this
/-- Zigzag. -/
def zig (n : Int) : Nat := if n < 0 then (-1 - 2 * n).toNat else (2 * n).toNat
def zag (n : Nat) : Int := if n % 2 = 1 then -1 - (n / 2 : Nat) else (n / 2 : Nat)
theorem zag_zig (n : Int) : zag (zig n) = n := by unfold zag zig; split <;> split <;> omega
def putI (n : Int) : List UInt8 := if n < -2305843009213693952 ∨ 2305843009213693951 < n then [] else putU (zig n)
def putUI (n : Int) : List UInt8 := if n < 0 then [] else putU n.toNat
def getI (s : List UInt8) (at_ : Int) : Int × Nat × Nat := (zag (getU s at_).1, (getU s at_).2.1, (getU s at_).2.2)
def putT (t : List UInt8) : List UInt8 := putU t.length ++ t
def getT (s : List UInt8) (at_ : Int) : List UInt8 × Nat × Nat :=
  if (getU s at_).2.2 ≠ 0 then ([], 0, (getU s at_).2.2) else
  if s.length < (getU s at_).2.1 + (getU s at_).1 then ([], 0, 211) else
  ((s.drop (getU s at_).2.1).take (getU s at_).1, (getU s at_).2.1 + (getU s at_).1, 0)
/-- One bit, and one byte, of the sum. -/
def crc1 (r : Nat) : Nat := if r % 2 = 1 then (r / 2) ^^^ 3988292384 else r / 2
def crc4 (r : Nat) : Nat := crc1 (crc1 (crc1 (crc1 r)))
def crcB (r c : Nat) : Nat := crc4 (crc4 (r ^^^ c))
def run (r : Nat) (l : List UInt8) : Nat := l.foldl (fun r c => crcB r c.toNat) r
def sum (l : List UInt8) : Nat := 4294967295 - run 4294967295 l
def le4 (n : Nat) : List UInt8 := [UInt8.ofNat (n % 256), UInt8.ofNat (n / 256 % 256), UInt8.ofNat (n / 65536 % 256), UInt8.ofNat (n / 16777216 % 256)]
def shut (l : List UInt8) : List UInt8 := l ++ le4 (sum l)
def opn (s : List UInt8) : List UInt8 × Nat :=
  if s.length < 4 then ([], 211) else if shut (s.take (s.length - 4)) ≠ s then ([], 210) else (s.take (s.length - 4), 0)
theorem xor_half (a b : Nat) : (a ^^^ b) / 2 = a / 2 ^^^ b / 2 := by
  have := Nat.shiftRight_xor_distrib (a := a) (b := b) (i := 1)
  simpa [Nat.shiftRight_succ] using this
theorem xor_mod2 (a b : Nat) : (a ^^^ b) % 2 = (a % 2 + b % 2) % 2 := by
  have h : ((a ^^^ b) % 2 = 1) ↔ ¬ ((a % 2 = 1) ↔ (b % 2 = 1)) := by
    have := Nat.testBit_xor a b 0
    simp only [Nat.testBit_zero] at this
    have e1 : decide ((a ^^^ b) % 2 = 1) = ((decide (a % 2 = 1)) ^^ decide (b % 2 = 1)) := this
    by_cases x : a % 2 = 1 <;> by_cases y : b % 2 = 1 <;> simp_all
  omega
theorem crc1_xor (a b : Nat) : crc1 (a ^^^ b) = crc1 a ^^^ crc1 b := by
  unfold crc1
  rw [xor_half, xor_mod2]
  by_cases x : a % 2 = 1 <;> by_cases y : b % 2 = 1
  · rw [if_neg (by omega), if_pos x, if_pos y]
    rw [show (a / 2 ^^^ 3988292384) ^^^ (b / 2 ^^^ 3988292384) = (a / 2 ^^^ b / 2) ^^^ (3988292384 ^^^ 3988292384) by ac_rfl]
    simp
  · rw [if_pos (by omega), if_pos x, if_neg y]; ac_rfl
  · rw [if_pos (by omega), if_neg x, if_pos y]; ac_rfl
  · rw [if_neg (by omega), if_neg x, if_neg y]
theorem crc4_xor (a b : Nat) : crc4 (a ^^^ b) = crc4 a ^^^ crc4 b := by unfold crc4; simp only [crc1_xor]
theorem crc1_even (h : Nat) : crc1 (2 * h) = h := by unfold crc1; rw [if_neg (by omega)]; omega
theorem crc4_16 (h : Nat) : crc4 (16 * h) = h := by
  unfold crc4
  rw [show 16 * h = 2 * (2 * (2 * (2 * h))) by omega]
  simp only [crc1_even]
theorem split16 (r : Nat) : r = 16 * (r / 16) ^^^ r % 16 := by
  apply Nat.eq_of_testBit_eq
  intro i
  rw [Nat.testBit_xor]
  have h2 : (r % 16).testBit i = (decide (i < 4) && r.testBit i) := by
    have := Nat.testBit_mod_two_pow r 4 i
    simpa using this
  have h1 : (16 * (r / 16)).testBit i = (decide (4 ≤ i) && r.testBit i) := by
    have e : 16 * (r / 16) = (r >>> 4) <<< 4 := by
      rw [Nat.shiftLeft_eq, Nat.shiftRight_eq_div_pow]; omega
    rw [e, Nat.testBit_shiftLeft, Nat.testBit_shiftRight]
    by_cases h : 4 ≤ i
    · simp [h]
    · simp [h]
  rw [h1, h2]
  by_cases h : i < 4
  · have : ¬ 4 ≤ i := by omega
    simp [h, this]
  · have : 4 ≤ i := by omega
    simp [h, this]
/-- The table's step is four steps of a bit. -/
theorem crc4_table (r : Nat) : crc4 r = r / 16 ^^^ crc4 (r % 16) := by
  rw [show crc4 r = crc4 (16 * (r / 16) ^^^ r % 16) by rw [← split16], crc4_xor, crc4_16]
theorem crc1_lt {r : Nat} (h : r < 4294967296) : crc1 r < 4294967296 := by
  unfold crc1
  split
  · exact Nat.xor_lt_two_pow (n := 32) (by omega) (by omega)
  · omega
theorem crc4_lt {r : Nat} (h : r < 4294967296) : crc4 r < 4294967296 := crc1_lt (crc1_lt (crc1_lt (crc1_lt h)))
theorem xor_byte_lt {r : Nat} (h : r < 4294967296) (c : UInt8) : r ^^^ c.toNat < 4294967296 := by
  have := c.toNat_lt
  exact Nat.xor_lt_two_pow (n := 32) (by omega) (by omega)
theorem crcB_lt {r : Nat} (h : r < 4294967296) (c : UInt8) : crcB r c.toNat < 4294967296 := crc4_lt (crc4_lt (xor_byte_lt h c))
theorem run_lt (l : List UInt8) : ∀ r, r < 4294967296 → run r l < 4294967296 := by
  induction l with
  | nil => intro r h; exact h
  | cons c l ih => intro r h; exact ih _ (crcB_lt h c)
theorem crc1_zero {d : Nat} (hd : d < 4294967296) (h : crc1 d = 0) : d = 0 := by
  unfold crc1 at h
  split at h
  · have : d / 2 = 3988292384 := by
      have := congrArg (· ^^^ 3988292384) h
      simpa [Nat.xor_assoc] using this
    omega
  · omega
theorem xor_eq_zero {a b : Nat} (h : a ^^^ b = 0) : a = b := by
  have := congrArg (· ^^^ b) h
  simpa [Nat.xor_assoc] using this
theorem crc4_inj {a b : Nat} (ha : a < 4294967296) (hb : b < 4294967296) (h : crc4 a = crc4 b) : a = b := by
  apply xor_eq_zero
  have hd : a ^^^ b < 4294967296 := Nat.xor_lt_two_pow (n := 32) (by omega) (by omega)
  have : crc4 (a ^^^ b) = 0 := by rw [crc4_xor, h]; simp
  unfold crc4 at this
  exact crc1_zero hd (crc1_zero (crc1_lt hd) (crc1_zero (crc1_lt (crc1_lt hd)) (crc1_zero (crc1_lt (crc1_lt (crc1_lt hd))) this)))
theorem crcB_inj {a b : Nat} {c d : UInt8} (ha : a < 4294967296) (hb : b < 4294967296) (h : crcB a c.toNat = crcB b d.toNat) : a ^^^ c.toNat = b ^^^ d.toNat :=
  crc4_inj (xor_byte_lt ha c) (xor_byte_lt hb d) (crc4_inj (crc4_lt (xor_byte_lt ha c)) (crc4_lt (xor_byte_lt hb d)) h)
theorem xor_left_inj {a b c : Nat} (h : c ^^^ a = c ^^^ b) : a = b := by
  have := congrArg (c ^^^ ·) h
  simpa [← Nat.xor_assoc] using this
theorem xor_right_inj {a b c : Nat} (h : a ^^^ c = b ^^^ c) : a = b := by
  have := congrArg (· ^^^ c) h
  simpa [Nat.xor_assoc] using this
theorem run_inj (l : List UInt8) : ∀ a b, a < 4294967296 → b < 4294967296 → run a l = run b l → a = b := by
  induction l with
  | nil => intro a b _ _ h; exact h
  | cons c l ih =>
    intro a b ha hb h
    exact xor_right_inj (crcB_inj ha hb (ih _ _ (crcB_lt ha c) (crcB_lt hb c) h))
/-- One byte turned: another sum. -/
theorem run_turned (a : List UInt8) (c d : UInt8) (b : List UInt8) (r : Nat) (hr : r < 4294967296) (h : run r (a ++ c :: b) = run r (a ++ d :: b)) : c = d := by
  unfold run at h
  rw [List.foldl_append, List.foldl_append] at h
  have hq := run_lt a r hr
  unfold run at hq
  have := crcB_inj hq hq (run_inj b _ _ (crcB_lt hq c) (crcB_lt hq d) h)
  exact UInt8.toNat_inj.1 (xor_left_inj this)
theorem sum_lt (l : List UInt8) : sum l < 4294967296 := by unfold sum; omega
theorem sum_turned (a : List UInt8) (c d : UInt8) (b : List UInt8) (h : sum (a ++ c :: b) = sum (a ++ d :: b)) : c = d := by
  have h1 := run_lt (a ++ c :: b) 4294967295 (by omega)
  have h2 := run_lt (a ++ d :: b) 4294967295 (by omega)
  unfold sum at h
  exact run_turned a c d b 4294967295 (by omega) (by omega)
theorem le4_inj {m n : Nat} (hm : m < 4294967296) (hn : n < 4294967296) (h : le4 m = le4 n) : m = n := by
  simp only [le4, List.cons.injEq, and_true] at h
  have f : ∀ {a b : Nat}, a < 256 → b < 256 → UInt8.ofNat a = UInt8.ofNat b → a = b := fun ha hb h => by
    rw [← toNat_ofNat ha, ← toNat_ofNat hb, h]
  obtain ⟨h1, h2, h3, h4⟩ := h
  have h1 := f (by omega) (by omega) h1
  have h2 := f (by omega) (by omega) h2
  have h3 := f (by omega) (by omega) h3
  have h4 := f (by omega) (by omega) h4
  omega
theorem shut_len (l : List UInt8) : (shut l).length = l.length + 4 := by simp [shut, le4]
theorem opn_shut (l : List UInt8) : opn (shut l) = (l, 0) := by
  unfold opn
  rw [if_neg (by rw [shut_len]; omega), shut_len, show l.length + 4 - 4 = l.length by omega]
  rw [show (shut l).take l.length = l by simp [shut], if_neg (by simp)]
/-- One byte of what was sealed is turned: it does not open. -/
theorem opn_turned (l : List UInt8) (k : Nat) (hk : k < l.length + 4) (x : UInt8) (hx : (shut l)[k]? ≠ some x) : opn ((shut l).set k x) = ([], 210) := by
  unfold opn
  have hl : ((shut l).set k x).length = l.length + 4 := by rw [List.length_set, shut_len]
  rw [if_neg (by omega), hl, show l.length + 4 - 4 = l.length by omega, if_pos]
  intro h
  by_cases hkl : k < l.length
  · have e1 : (shut l).set k x = l.set k x ++ le4 (sum l) := by
      unfold shut; rw [List.set_append_left _ _ hkl]
    rw [e1] at h
    rw [show (l.set k x ++ le4 (sum l)).take l.length = l.set k x by
      rw [List.take_append_of_le_length (by rw [List.length_set]; exact Nat.le_refl _), List.take_of_length_le (by rw [List.length_set]; exact Nat.le_refl _)]] at h
    unfold shut at h
    have h := List.append_cancel_left h
    have h := le4_inj (sum_lt _) (sum_lt _) h
    have e2 : l.set k x = l.take k ++ x :: l.drop (k + 1) := by
      rw [List.set_eq_take_append_cons_drop, if_pos hkl]
    have e3 : l = l.take k ++ l[k] :: l.drop (k + 1) := by
      simp
    have h : sum (l.take k ++ x :: l.drop (k + 1)) = sum (l.take k ++ l[k] :: l.drop (k + 1)) := by
      rw [← e2, ← e3]; exact h
    have := sum_turned _ _ _ _ h
    apply hx
    unfold shut
    rw [List.getElem?_append_left hkl, List.getElem?_eq_getElem hkl, this]
  · have e1 : (shut l).set k x = l ++ (le4 (sum l)).set (k - l.length) x := by
      unfold shut; rw [List.set_append_right _ _ (by omega)]
    rw [e1, List.take_left] at h
    apply hx
    rw [show (shut l)[k]? = (l ++ (le4 (sum l)).set (k - l.length) x)[k]? by rw [← h]]
    rw [List.getElem?_append_right (by omega), List.getElem?_set_self (by simp [le4]; omega)]
end Pk
end
section
namespace Go.Proofs.YtofklpphalalhaaGreatDoor
open Go.RowKit Go.Proofs.YtofklpphalalhaaGreatDoorW.PrintWords Go.Proofs.YtofklpphalalhaaGreatDoorW.PrintLast Go.Proofs.YtofklpphalalhaaGreatDoorW.PrintMore
attribute [local go_sem] min2_int min_two
theorem bytes_cell (w : World) (s : ByteArray) (a b : Nat) (hb : b ≤ s.size) (k : Nat) (hk : a + k < b) :
    (Lib.bytesWorld w 5 (s.extract a b)).cell? ⟨w.heap.size, k, none⟩ = some (.int .u8 (s.data.toList.getD (a + k) 0).toNat) := by
  rw [Lib.bytesWorld_cell _ _ _ _ (by rw [ByteArray.size_extract]; omega)]
  have h1 : a + k < s.data.size := by show _ < s.size; omega
  have e : (s.extract a b).data.toList.getD k 0 = s.data.toList.getD (a + k) 0 := by
    simp only [ByteArray.data_extract, List.getD_eq_getElem?_getD, Array.getElem?_toList]
    rw [Array.getElem?_extract]
    have : k < min b s.data.size - a := by have : s.data.size = s.size := rfl; omega
    rw [if_pos this]
  rw [e]
theorem below_bytes (w : World) (s : ByteArray) : Below w.heap.size w (Lib.bytesWorld w 5 s) :=
  ⟨rfl, rfl, rfl, by rw [Lib.bytesWorld_size]; omega, fun k hk => Lib.bytesWorld_at_old w 5 s k hk⟩
theorem wraps_i64 (n : Int) (h0 : 0 ≤ n) (h1 : n < 2 ^ 63) : IntKind.i64.wrap n = n := by rw [IntKind.wrap_i64]; omega
theorem pow63 : (2 : Nat) ^ 63 = 9223372036854775808 := by decide +kernel
theorem pow8 : (128 : Nat) ^ 8 = 72057594037927936 := by decide +kernel
theorem or_join (acc m k : Nat) (ha : acc < 128 ^ k) : acc ||| m * 128 ^ k = acc + m * 128 ^ k := by
  have ep : (2 : Nat) ^ (7 * k) = 128 ^ k := by rw [Nat.pow_mul]
  rw [Nat.or_comm, Nat.mul_comm, ← ep, ← Nat.two_pow_add_eq_or_of_lt (by rw [ep]; exact ha), Nat.add_comm]
theorem shifted (m k : Nat) (hk : k < 9) (hm : m < 128) : m * 128 ^ k ≤ 9151314442816847872 := by
  have hkp : 128 ^ k ≤ 128 ^ 8 := Nat.pow_le_pow_right (by decide) (by omega)
  rw [pow8] at hkp
  exact Nat.le_trans (Nat.mul_le_mul (show m ≤ 127 by omega) hkp) (by decide)
theorem acc_lt (acc k : Nat) (hk : k < 9) (ha : acc < 128 ^ k) : acc < 72057594037927936 := by
  have hkp : 128 ^ k ≤ 128 ^ 8 := Nat.pow_le_pow_right (by decide) (by omega)
  rw [pow8] at hkp
  exact Nat.lt_of_lt_of_le ha hkp
theorem shl_eq (m k : Nat) (hk : k < 9) (hm : m < 128) : wrap64 (wrap64 (m : Int) * 2 ^ (7 * k)) = ((m * 128 ^ k : Nat) : Int) := by
  have e2 : wrap64 (m : Int) = m := by unfold wrap64; omega
  have ep' : (2 : Int) ^ (7 * k) = ((128 ^ k : Nat) : Int) := by
    rw [show (128 : Nat) ^ k = 2 ^ (7 * k) by rw [Nat.pow_mul]]; exact (Int.natCast_pow 2 _).symm
  have hs := shifted m k hk hm
  rw [e2, ep', ← Int.natCast_mul]
  generalize m * 128 ^ k = x at *
  unfold wrap64; omega
theorem or_nat (a b : Nat) (ha : a < 9223372036854775808) (hb : b < 9223372036854775808) : bits .or .i64 (a : Int) (b : Int) = ((a ||| b : Nat) : Int) :=
  (bits_nat .i64 63 (by decide) wraps_i64 a b (by rw [pow63]; exact ha) (by rw [pow63]; exact hb)).2
theorem or_step (acc k : Nat) (c : Int) (h0 : 0 ≤ c) (h1 : c < 256) (hk : k < 9) (ha : acc < 128 ^ k) :
    bits .or .i64 (acc : Int) (wrap64 (wrap64 (bits .and .u8 c 127) * 2 ^ (7 * k))) = ((acc + (c % 128).toNat * 128 ^ k : Nat) : Int) := by
  have e1 : bits .and .u8 c 127 = c % 128 := bits_mask .u8 8 (by decide) wraps_u8 7 (by decide) c h0 h1
  obtain ⟨m, hm, hm2⟩ : ∃ m : Nat, c % 128 = m ∧ m < 128 := ⟨(c % 128).toNat, by omega, by omega⟩
  have hs := shifted m k hk hm2
  have hb := acc_lt acc k hk ha
  rw [e1, hm, shl_eq m k hk hm2, Int.toNat_natCast, or_nat acc _ (by omega) (by omega), or_join acc m k ha]
theorem gA_step (l : List UInt8) (n k acc : Nat) (c : Int) (hc : ((l.getD (n + k) 0).toNat : Int) = c) (hl : n + k < l.length) (hk : k < 9) :
    Pk.gA l n k acc = if 128 ≤ c then Pk.gA l n (k + 1) (acc + (c % 128).toNat * 128 ^ k) else if c = 0 ∧ 0 < k then (0, 0, 212) else (acc + (c % 128).toNat * 128 ^ k, n + k + 1, 0) := by
  rw [Pk.gA, if_neg (by omega)]
  rw [List.getD_eq_getElem?_getD] at hc
  cases hx : l[n + k]? with
  | none => rw [List.getElem?_eq_none_iff] at hx; omega
  | some y =>
    rw [hx] at hc
    simp only [Option.getD_some] at hc
    have hb := y.toNat_lt
    subst hc
    simp only
    generalize y.toNat = b at *
    by_cases h : 128 ≤ b
    · rw [if_pos h, if_pos (show (128 : Int) ≤ (b : Int) by omega), show ((b : Int) % 128).toNat = b - 128 by omega]
    · rw [if_neg h, if_neg (show ¬ (128 : Int) ≤ (b : Int) by omega), show ((b : Int) % 128).toNat = b by omega]
      by_cases h2 : b = 0 ∧ 0 < k
      · rw [if_pos h2, if_pos (show (b : Int) = 0 ∧ 0 < k by omega)]
      · rw [if_neg h2, if_neg (show ¬ ((b : Int) = 0 ∧ 0 < k) by omega)]
theorem acc_step (acc k : Nat) (c : Int) (ha : acc < 128 ^ k) : acc + (c % 128).toNat * 128 ^ k < 128 ^ (k + 1) := by
  have : (c % 128).toNat * 128 ^ k ≤ 127 * 128 ^ k := Nat.mul_le_mul_right _ (by omega)
  rw [Nat.pow_succ]; omega
theorem tup3 {a b c : Int} {x : Nat × Nat × Nat} (ha : a = (x.1 : Int)) (hb : b = (x.2.1 : Int)) (hc : c = (x.2.2 : Int)) :
    Ending.returned (.tuple #[.int .i64 a, .int .i64 b, .int .i64 c]) = .returned (.tuple #[.int .i64 (x.1 : Int), .int .i64 (x.2.1 : Int), .int .i64 (x.2.2 : Int)]) := by rw [ha, hb, hc]
set_option maxHeartbeats 1000000 in
theorem getUint_walk (s : ByteArray) (n m : Nat) (w : World) (hs : s.size ≤ 140737488351232) (hn : n ≤ s.size) (hmin : n + 9 ≤ s.size ∧ m = n + 9 ∨ s.size < n + 9 ∧ m = s.size) :
    Calls Tryz.prog 179 #[.string s, .int .i64 n] w fun e w' => e = .returned (.tuple #[.int .i64 (Pk.gA s.data.toList n 0 0).1, .int .i64 (Pk.gA s.data.toList n 0 0).2.1, .int .i64 (Pk.gA s.data.toList n 0 0).2.2]) ∧ Below w.heap.size w w' := by
  have hcv := fun (w : World) (s : ByteArray) => Lib.run_convert_string_bytes (P := Tryz.prog) w 9 59 5 s Tryz.underlying9 Tryz.underlying59 Tryz.underlying5
  have hl : s.data.toList.length = s.size := rfl
  rcases hmin with ⟨h, rfl⟩ | ⟨h, rfl⟩
  · have h1 : ((n : Int) ≤ (n : Int) + 9) = True := eq_true (by omega)
    have h2 : ((n : Int) + 9 ≤ (s.size : Int)) = True := eq_true (by omega)
    have hl := Aside0.mk hl
    go_enter Tryz.func179, Tryz.ntmps179
    go_wp2
    go_loop [4, 27] (fun a i => ∃ k acc : Nat, k ≤ 9 ∧ i = .int .i64 k ∧ a = .int .i64 acc ∧ acc < 128 ^ k ∧ Hid (Pk.gA s.data.toList n 0 0 = Pk.gA s.data.toList n k acc)) (fun _ i => 9 - (intOf i).toNat)
    case atStart => exact ⟨0, 0, by omega, rfl, rfl, by decide, rfl⟩
    case round =>
      obtain ⟨k, acc, hk, rfl, rfl, hacc, hg⟩ := hrel
      by_cases hlt : k < 9
      · have hc := bytes_cell w s n (n + 9) (by omega) k (by omega)
        obtain ⟨c, hcc, hc0, hc1⟩ : ∃ c : Int, (s.data.toList.getD (n + k) 0).toNat = c ∧ 0 ≤ c ∧ c < 256 := ⟨_, rfl, by omega, by have := (s.data.toList.getD (n + k) 0).toNat_lt; omega⟩
        rw [hcc] at hc
        have hst := Aside0.mk (gA_step s.data.toList n k acc c hcc (by rw [hl.out]; omega) hlt)
        have hor := Aside0.mk (or_step acc k c hc0 hc1 hlt hacc)
        have hac := acc_step acc k c hacc
        clear hcc
        go_wp2
        · go_round
          case rel => exact ⟨k + 1, _, by omega, by go_num, congrArg _ hor.out, hac, by have := hg.out; rw [hst.out, if_pos (by assumption)] at this; exact this⟩
          case measure => simp [intOf]; omega
        · go_ret3
          exact ⟨by rw [hg.out, hst.out, if_neg (by omega), if_pos (by omega)]; rfl, below_bytes _ _⟩
        · have hz : c = 0 := by assumption
          subst hz
          go_ret3
          exact ⟨by rw [hg.out, hst.out, if_neg (by omega), if_neg (by omega)]; exact tup3 hor.out (by simp) rfl, below_bytes _ _⟩
        · go_ret3
          exact ⟨by rw [hg.out, hst.out, if_neg (by omega), if_neg (by omega)]; exact tup3 hor.out (by simp) rfl, below_bytes _ _⟩
      · have hk9 : ¬ ((k : Int) < 9) := by omega
        go_wp2
        go_ret3
        exact ⟨by rw [hg.out, Pk.gA, if_pos (by omega)]; rfl, below_bytes _ _⟩
  · have hl := Aside0.mk hl
    have h3 : ¬ ((n : Int) + 9 ≤ (s.size : Int)) := by omega
    have h1 : ((n : Int) ≤ (s.size : Int)) = True := eq_true (by omega)
    go_enter Tryz.func179, Tryz.ntmps179
    go_wp2
    go_loop [4, 27] (fun a i => ∃ k acc : Nat, k ≤ s.size - n ∧ i = .int .i64 k ∧ a = .int .i64 acc ∧ acc < 128 ^ k ∧ Hid (Pk.gA s.data.toList n 0 0 = Pk.gA s.data.toList n k acc)) (fun _ i => 9 - (intOf i).toNat)
    case atStart => exact ⟨0, 0, by omega, rfl, rfl, by decide, rfl⟩
    case round =>
      obtain ⟨k, acc, hk, rfl, rfl, hacc, hg⟩ := hrel
      by_cases hlt : k < s.size - n
      · have hc := bytes_cell w s n s.size (by omega) k (by omega)
        obtain ⟨c, hcc, hc0, hc1⟩ : ∃ c : Int, (s.data.toList.getD (n + k) 0).toNat = c ∧ 0 ≤ c ∧ c < 256 := ⟨_, rfl, by omega, by have := (s.data.toList.getD (n + k) 0).toNat_lt; omega⟩
        rw [hcc] at hc
        have hk9 : k < 9 := by omega
        have hst := Aside0.mk (gA_step s.data.toList n k acc c hcc (by rw [hl.out]; omega) hk9)
        have hor := Aside0.mk (or_step acc k c hc0 hc1 hk9 hacc)
        have hac := acc_step acc k c hacc
        clear hcc
        go_wp2
        · go_round
          case rel => exact ⟨k + 1, _, by omega, by go_num, congrArg _ hor.out, hac, by have := hg.out; rw [hst.out, if_pos (by assumption)] at this; exact this⟩
          case measure => simp [intOf]; omega
        · go_ret3
          exact ⟨by rw [hg.out, hst.out, if_neg (by omega), if_pos (by omega)]; rfl, below_bytes _ _⟩
        · have hz : c = 0 := by assumption
          subst hz
          go_ret3
          exact ⟨by rw [hg.out, hst.out, if_neg (by omega), if_neg (by omega)]; exact tup3 hor.out (by simp) rfl, below_bytes _ _⟩
        · go_ret3
          exact ⟨by rw [hg.out, hst.out, if_neg (by omega), if_neg (by omega)]; exact tup3 hor.out (by simp) rfl, below_bytes _ _⟩
      · have hke : k = s.size - n := by omega
        have hkn : ¬ ((k : Int) < ((s.size - n : Nat) : Int)) := by omega
        have hend : Pk.gA s.data.toList n k acc = (0, 0, 211) := by
          rw [Pk.gA, if_neg (by omega)]
          rw [List.getElem?_eq_none (by rw [hl.out]; omega)]
        have hend := Aside0.mk hend
        have hke := Aside0.mk hke
        go_wp2
        go_ret3
        exact ⟨by rw [hg.out, hend.out]; rfl, below_bytes _ _⟩
/-- The number at a place of a text: what GetUint tells. -/
def pack_GetUint.f (a0 : ByteArray) (a1 : Int) : Option (Int × Int × Int) :=
  if a0.size ≤ 140737488351232 then some ((Pk.getU a0.data.toList a1).1, (Pk.getU a0.data.toList a1).2.1, (Pk.getU a0.data.toList a1).2.2) else none
theorem pack_GetUint.calls (a0 : ByteArray) (a1 : Int) (r1 : Int) (r2 : Int) (r3 : Int) (w : World) (h : pack_GetUint.f a0 a1 = some (r1, r2, r3)) :
    Calls Tryz.prog 179 #[.string a0, .int .i64 a1] w fun e w' => e = .returned (.tuple #[.int .i64 r1, .int .i64 r2, .int .i64 r3]) ∧ Below w.heap.size w w' := by
  unfold pack_GetUint.f at h
  split at h
  · rename_i hs
    simp only [Option.some.injEq, Prod.mk.injEq] at h
    obtain ⟨rfl, rfl, rfl⟩ := h
    have hl : a0.data.toList.length = a0.size := rfl
    by_cases hn : a1 < 0 ∨ (a0.size : Int) < a1
    · unfold Pk.getU
      rw [hl, if_pos hn]
      rcases hn with hn | hn
      · have hl := Aside0.mk hl
        go_enter Tryz.func179, Tryz.ntmps179
        go_wp2
        go_ret3
        exact ⟨rfl, Below.refl _ _⟩
      · have hl := Aside0.mk hl
        have hn0 : ¬ a1 < 0 := by omega
        go_enter Tryz.func179, Tryz.ntmps179
        go_wp2
        go_ret3
        exact ⟨rfl, Below.refl _ _⟩
    · obtain ⟨n, rfl⟩ := Int.eq_ofNat_of_zero_le (show 0 ≤ a1 by omega)
      unfold Pk.getU
      rw [hl, if_neg hn, Int.toNat_natCast]
      by_cases hm : n + 9 ≤ a0.size
      · exact getUint_walk a0 n (n + 9) w hs (by omega) (.inl ⟨hm, rfl⟩)
      · exact getUint_walk a0 n a0.size w hs (by omega) (.inr ⟨by omega, rfl⟩)
  · exact absurd h (by simp)
def tabN : List Int := [0, 498536548, 997073096, 651767980, 1994146192, 1802195444, 1303535960, 1342533948, 3988292384, 4027552580, 3604390888, 3412177804, 2607071920, 2262029012, 2685067896, 3183342108]
def Tab (w : World) : Prop := ∀ i, i < 16 → w.cell? ⟨0, i, none⟩ = some (.int .u32 (tabN.getD i 0))
theorem Tab.below {w w' : World} (h : Tab w) (hb : Below w.heap.size w w') : Tab w' := fun i hi => by
  have := h i hi
  rw [hb.cell (p := ⟨0, i, none⟩) (World.block_lt_of_cell? w _ this)]; exact this
theorem xor_u32 (a b : Nat) (ha : a < 4294967296) (hb : b < 4294967296) : bits .xor .u32 (a : Int) (b : Int) = ((a ^^^ b : Nat) : Int) := by
  have hx : a ^^^ b < 2 ^ 32 := Nat.xor_lt_two_pow (by omega) (by omega)
  have h1 : (BitVec.ofInt 32 (a : Int)).toNat = a := by
    rw [BitVec.ofInt_natCast, BitVec.toNat_ofNat]; exact Nat.mod_eq_of_lt (by omega)
  have h2 : (BitVec.ofInt 32 (b : Int)).toNat = b := by
    rw [BitVec.ofInt_natCast, BitVec.toNat_ofNat]; exact Nat.mod_eq_of_lt (by omega)
  show IntKind.u32.wrap ((BitVec.ofInt 32 (a : Int) ^^^ BitVec.ofInt 32 (b : Int)).toNat : Int) = _
  rw [BitVec.toNat_xor, h1, h2, IntKind.wrap_u32]
  omega
theorem wraps_u32 (n : Int) (h0 : 0 ≤ n) (h1 : n < 2 ^ 32) : IntKind.u32.wrap n = n := by rw [IntKind.wrap_u32]; omega
theorem and15_u32 (a : Nat) (ha : a < 4294967296) : bits .and .u32 (a : Int) 15 = ((a % 16 : Nat) : Int) := by
  have := bits_mask .u32 32 (by decide) wraps_u32 4 (by decide) (a : Int) (by omega) (by omega)
  simpa using this
theorem tab_crc : ∀ i, i < 16 → tabN.getD i 0 = ((Pk.crc4 i : Nat) : Int) := by decide +kernel
theorem tab_step (x : Nat) (hx : x < 4294967296) : bits .xor .u32 ((x : Int) / 16) (tabN.getD (x % 16) 0) = ((Pk.crc4 x : Nat) : Int) := by
  rw [tab_crc _ (Nat.mod_lt _ (by decide)), show (x : Int) / 16 = ((x / 16 : Nat) : Int) by omega,
    xor_u32 _ _ (by omega) (Pk.crc4_lt (by omega)), ← Pk.crc4_table]
theorem not_u32 (r : Nat) (hr : r < 4294967296) : bits .xor .u32 IntKind.u32.max (r : Int) = ((4294967295 - r : Nat) : Int) := by
  rw [show IntKind.u32.max = ((4294967295 : Nat) : Int) by decide +kernel, xor_u32 _ _ (by decide) hr]
  congr 1
  apply Nat.eq_of_testBit_eq
  intro i
  have h1 : (4294967295 : Nat).testBit i = decide (i < 32) := Nat.testBit_two_pow_sub_one 32 i
  have h2 : (4294967295 - r).testBit i = (decide (i < 32) && !r.testBit i) := by
    have := Nat.testBit_two_pow_sub_succ (x := r) (n := 32) (by omega) i
    rw [show 4294967295 - r = 2 ^ 32 - (r + 1) by omega]; exact this
  rw [Nat.testBit_xor, h1, h2]
  by_cases hi : i < 32
  · simp [hi]
  · have : r.testBit i = false := Nat.testBit_lt_two_pow (Nat.lt_of_lt_of_le (show r < 2 ^ 32 by omega) (Nat.pow_le_pow_right (by decide) (by omega)))
    simp [hi, this]
set_option maxHeartbeats 1000000 in
theorem sum_walk (s : ByteArray) (w : World) (HT : Tab w) (hs : s.size ≤ 140737488351232) :
    Calls Tryz.prog 172 #[.string s] w fun e w' => e = .returned (.int .u32 (Pk.sum s.data.toList : Nat)) ∧ Below w.heap.size w w' := by
  have hcv := fun (w : World) (s : ByteArray) => Lib.run_convert_string_bytes (P := Tryz.prog) w 9 59 5 s Tryz.underlying9 Tryz.underlying59 Tryz.underlying5
  have hl : Aside0 (s.data.toList.length = s.size) := ⟨rfl⟩
  have HT' := Aside0.mk (HT.below (below_bytes w s))
  clear HT
  go_enter Tryz.func172, Tryz.ntmps172
  go_wp2
  go_loop [3, 9] (fun a i => ∃ k r : Nat, k ≤ s.size ∧ i = .int .i64 k ∧ a = .int .u32 r ∧ r < 4294967296 ∧ Hid (Pk.run 4294967295 (s.data.toList.take k) = r)) (fun _ i => s.size - (intOf i).toNat)
  case atStart => exact ⟨0, 4294967295, by omega, rfl, rfl, by omega, rfl⟩
  case round =>
    obtain ⟨k, r, hk, rfl, rfl, hr, hg⟩ := hrel
    by_cases hlt : k < s.size
    · have hc := Lib.bytesWorld_cell w 5 s k hlt
      obtain ⟨c, hcc, hc1⟩ : ∃ c : Nat, (s.data.toList.getD k 0).toNat = c ∧ c < 256 := ⟨_, rfl, by have := (s.data.toList.getD k 0).toNat_lt; omega⟩
      rw [hcc] at hc
      have hcc := Aside0.mk hcc
      obtain ⟨x, hx⟩ : ∃ x, r ^^^ c = x := ⟨_, rfl⟩
      have hx1 : x < 4294967296 := by rw [← hx]; exact Nat.xor_lt_two_pow (n := 32) (by omega) (by omega)
      have e1 : bits .xor .u32 (r : Int) (c : Int) = (x : Int) := by rw [xor_u32 r c hr (by omega), hx]
      obtain ⟨m, hm⟩ : ∃ m, x % 16 = m := ⟨_, rfl⟩
      have hm1 : m < 16 := by omega
      have e2 : bits .and .u32 (x : Int) 15 = (m : Int) := by rw [and15_u32 x hx1, hm]
      have d2 := HT'.out m hm1
      obtain ⟨y, hy⟩ : ∃ y, Pk.crc4 x = y := ⟨_, rfl⟩
      have hy1 : y < 4294967296 := by rw [← hy]; exact Pk.crc4_lt hx1
      have e3 : bits .xor .u32 ((x : Int) / 16) (tabN.getD m 0) = (y : Int) := by rw [← hm, tab_step x hx1, hy]
      generalize tabN.getD m 0 = T at d2 e3
      obtain ⟨m', hm'⟩ : ∃ m, y % 16 = m := ⟨_, rfl⟩
      have hm1' : m' < 16 := by omega
      have e4 : bits .and .u32 (y : Int) 15 = (m' : Int) := by rw [and15_u32 y hy1, hm']
      have d4 := HT'.out m' hm1'
      obtain ⟨z, hz⟩ : ∃ z, Pk.crc4 y = z := ⟨_, rfl⟩
      have hz1 : z < 4294967296 := by rw [← hz]; exact Pk.crc4_lt hy1
      have e5 : bits .xor .u32 ((y : Int) / 16) (tabN.getD m' 0) = (z : Int) := by rw [← hm', tab_step y hy1, hz]
      generalize tabN.getD m' 0 = T' at d4 e5
      have hf : Aside0 (Pk.run 4294967295 (s.data.toList.take (k + 1)) = z) := ⟨by
        rw [← hz, ← hy, ← hx, ← hcc.out]
        rw [List.take_succ_eq_append_getElem (by rw [hl.out]; exact hlt)]
        have := hg.out
        unfold Pk.run at this ⊢
        rw [List.foldl_append, this]
        simp only [List.foldl_cons, List.foldl_nil, Pk.crcB]
        rw [List.getD_eq_getElem?_getD, List.getElem?_eq_getElem (by rw [hl.out]; exact hlt)]; rfl⟩
      clear hx hm hy hm' hz
      go_wp2
      go_round
      case rel => exact ⟨k + 1, z, by omega, by go_num, rfl, hz1, hf.out⟩
      case measure => simp [intOf]; omega
    · have hk9 : ¬ ((k : Int) < (s.size : Int)) := by omega
      have hke : Aside0 (k = s.size) := ⟨by omega⟩
      have e6 := not_u32 r hr
      go_wp2
      go_ret
      refine ⟨?_, below_bytes _ _⟩
      unfold Pk.sum
      have := hg.out
      rw [hke.out, List.take_of_length_le (by rw [hl.out]; exact Nat.le_refl _)] at this
      rw [this]; rfl
/-- The sum: what Sum tells. -/
def pack_Sum.f (a0 : ByteArray) : Option Int := if a0.size ≤ 140737488351232 then some (Pk.sum a0.data.toList : Nat) else none
theorem pack_Sum.calls (a0 : ByteArray) (r : Int) (w : World) (HT : Tab w) (h : pack_Sum.f a0 = some r) :
    Calls Tryz.prog 172 #[.string a0] w fun e w' => e = .returned (.int .u32 r) ∧ Below w.heap.size w w' := by
  unfold pack_Sum.f at h
  split at h
  · rename_i hs
    obtain rfl := Option.some.inj h
    exact sum_walk a0 w HT hs
  · exact absurd h (by simp)
end Go.Proofs.YtofklpphalalhaaGreatDoor
end
