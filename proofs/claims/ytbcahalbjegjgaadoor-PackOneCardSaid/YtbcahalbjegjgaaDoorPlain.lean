/- The plain law of layer 21: numbers as bytes, and the sum. Conditions: none. -/
namespace Pk

/-- The bytes of a number. -/
def putU (n : Nat) : List UInt8 := if n < 128 then [UInt8.ofNat n] else UInt8.ofNat (n % 128 + 128) :: putU (n / 128)
termination_by n
decreasing_by omega

theorem putU_lt {n : Nat} (h : n < 128) : putU n = [UInt8.ofNat n] := by rw [putU, if_pos h]
theorem putU_ge {n : Nat} (h : ¬ n < 128) : putU n = UInt8.ofNat (n % 128 + 128) :: putU (n / 128) := by rw [putU, if_neg h]

/-- The number at a place: value, place behind, error. -/
def gA (s : List UInt8) (at_ : Nat) (i acc : Nat) : Nat × Nat × Nat :=
  if 9 ≤ i then (0, 0, 212) else
  match s[at_ + i]? with
  | none => (0, 0, 211)
  | some b => if 128 ≤ b.toNat then gA s at_ (i + 1) (acc + (b.toNat - 128) * 128 ^ i) else
    if b.toNat = 0 ∧ 0 < i then (0, 0, 212) else (acc + b.toNat * 128 ^ i, at_ + i + 1, 0)
termination_by 9 - i
decreasing_by omega

def getU (s : List UInt8) (at_ : Int) : Nat × Nat × Nat :=
  if at_ < 0 ∨ (s.length : Int) < at_ then (0, 0, 211) else gA s at_.toNat 0 0

theorem putU_len_pos (n : Nat) : 0 < (putU n).length := by
  rw [putU]; split <;> simp

theorem putU_len (k : Nat) : ∀ n, n < 128 ^ (k + 1) → (putU n).length ≤ k + 1 := by
  induction k with
  | zero => intro n h; rw [putU_lt (by simpa using h)]; simp
  | succ k ih =>
    intro n h
    by_cases h1 : n < 128
    · rw [putU_lt h1]; simp
    · rw [putU_ge h1]
      have : n / 128 < 128 ^ (k + 1) := by
        rw [Nat.div_lt_iff_lt_mul (by omega)]
        rw [Nat.pow_succ] at h; exact h
      have := ih _ this
      simp; omega

theorem putU_mono (a : Nat) : ∀ b, a ≤ b → (putU a).length ≤ (putU b).length := by
  induction a using Nat.strongRecOn with
  | _ a ih =>
    intro b h
    by_cases h1 : a < 128
    · rw [putU_lt h1]; exact putU_len_pos b
    · rw [putU_ge h1, putU_ge (n := b) (by omega)]
      simp only [List.length_cons]
      have := ih (a / 128) (by omega) (b / 128) (by omega)
      omega

theorem toNat_ofNat {n : Nat} (h : n < 256) : (UInt8.ofNat n).toNat = n := by
  simp [UInt8.toNat_ofNat']; omega

/-- What is put is got, anywhere: from digit i on. -/
theorem gA_put (k : Nat) : ∀ (n i acc : Nat) (a b : List UInt8), n < 128 ^ (k + 1) → i + k < 9 → (0 < i → 0 < n) → ∀ p, p + i = a.length →
    gA (a ++ putU n ++ b) p i acc = (acc + n * 128 ^ i, a.length + (putU n).length, 0) := by
  induction k with
  | zero =>
    intro n i acc a b hn hi h0 p hp
    have hn' : n < 128 := by simpa using hn
    rw [putU_lt hn', gA, if_neg (by omega)]
    rw [show (a ++ [UInt8.ofNat n] ++ b)[p + i]? = some (UInt8.ofNat n) by
      rw [hp, List.append_assoc, List.getElem?_append_right (by omega)]; simp]
    simp only [toNat_ofNat (show n < 256 by omega)]
    rw [if_neg (by omega), if_neg (by omega)]
    simp; omega
  | succ k ih =>
    intro n i acc a b hn hi h0 p hp
    by_cases h1 : n < 128
    · rw [putU_lt h1, gA, if_neg (by omega)]
      rw [show (a ++ [UInt8.ofNat n] ++ b)[p + i]? = some (UInt8.ofNat n) by
        rw [hp, List.append_assoc, List.getElem?_append_right (by omega)]; simp]
      simp only [toNat_ofNat (show n < 256 by omega)]
      rw [if_neg (by omega), if_neg (by omega)]
      simp; omega
    · rw [putU_ge h1, gA, if_neg (by omega)]
      rw [show (a ++ UInt8.ofNat (n % 128 + 128) :: putU (n / 128) ++ b)[p + i]? = some (UInt8.ofNat (n % 128 + 128)) by
        rw [hp, List.append_assoc, List.getElem?_append_right (by omega)]; simp]
      simp only [toNat_ofNat (show n % 128 + 128 < 256 by omega)]
      rw [if_pos (by omega)]
      have hd : n / 128 < 128 ^ (k + 1) := by
        rw [Nat.div_lt_iff_lt_mul (by omega)]
        rw [Nat.pow_succ] at hn; exact hn
      have := ih (n / 128) (i + 1) (acc + (n % 128 + 128 - 128) * 128 ^ i) (a ++ [UInt8.ofNat (n % 128 + 128)]) b hd (by omega) (by omega) p (by simp; omega)
      rw [show a ++ UInt8.ofNat (n % 128 + 128) :: putU (n / 128) ++ b = a ++ [UInt8.ofNat (n % 128 + 128)] ++ putU (n / 128) ++ b by simp]
      rw [this]
      simp only [List.length_append, List.length_cons, List.length_nil]
      refine Prod.ext ?_ (Prod.ext ?_ rfl)
      · show acc + (n % 128 + 128 - 128) * 128 ^ i + n / 128 * 128 ^ (i + 1) = acc + n * 128 ^ i
        rw [Nat.pow_succ, Nat.mul_comm (128 ^ i) 128, ← Nat.mul_assoc, Nat.add_assoc, ← Nat.add_mul]
        rw [show n % 128 + 128 - 128 + n / 128 * 128 = n by omega]
      · show a.length + (0 + 1) + (putU (n / 128)).length = a.length + ((putU (n / 128)).length + 1); omega

theorem pow9 : (128 : Nat) ^ (8 + 1) = 9223372036854775808 := by decide +kernel

theorem getU_put (n : Nat) (a b : List UInt8) (h : n < 9223372036854775808) :
    getU (a ++ putU n ++ b) (a.length : Int) = (n, a.length + (putU n).length, 0) := by
  unfold getU
  rw [if_neg (by simp; omega)]
  have := gA_put 8 n 0 0 a b (by rw [pow9]; exact h) (by omega) (by omega) a.length (by omega)
  simpa using this

/-- Cut off: too short. -/
theorem gA_cut (k : Nat) : ∀ (n i acc m : Nat) (a : List UInt8), n < 128 ^ (k + 1) → i + k < 9 → m < (putU n).length → ∀ p, p + i = a.length →
    gA (a ++ (putU n).take m) p i acc = (0, 0, 211) := by
  induction k with
  | zero =>
    intro n i acc m a hn hi hm p hp
    have hn' : n < 128 := by simpa using hn
    rw [putU_lt hn'] at hm ⊢
    obtain rfl : m = 0 := by simpa using hm
    rw [gA, if_neg (by omega)]
    rw [show (a ++ [UInt8.ofNat n].take 0)[p + i]? = none by simp; omega]
  | succ k ih =>
    intro n i acc m a hn hi hm p hp
    by_cases h1 : n < 128
    · rw [putU_lt h1] at hm ⊢
      obtain rfl : m = 0 := by simpa using hm
      rw [gA, if_neg (by omega)]
      rw [show (a ++ [UInt8.ofNat n].take 0)[p + i]? = none by simp; omega]
    · rw [putU_ge h1] at hm ⊢
      cases m with
      | zero =>
        rw [gA, if_neg (by omega)]
        rw [show (a ++ (UInt8.ofNat (n % 128 + 128) :: putU (n / 128)).take 0)[p + i]? = none by simp; omega]
      | succ m =>
        rw [gA, if_neg (by omega)]
        rw [List.take_succ_cons]
        rw [show (a ++ UInt8.ofNat (n % 128 + 128) :: (putU (n / 128)).take m)[p + i]? = some (UInt8.ofNat (n % 128 + 128)) by
          rw [hp, List.getElem?_append_right (by omega)]; simp]
        simp only [toNat_ofNat (show n % 128 + 128 < 256 by omega)]
        rw [if_pos (by omega)]
        have hd : n / 128 < 128 ^ (k + 1) := by
          rw [Nat.div_lt_iff_lt_mul (by omega)]
          rw [Nat.pow_succ] at hn; exact hn
        have := ih (n / 128) (i + 1) (acc + (n % 128 + 128 - 128) * 128 ^ i) m (a ++ [UInt8.ofNat (n % 128 + 128)]) hd (by omega) (by simpa using hm) p (by simp; omega)
        rw [show a ++ UInt8.ofNat (n % 128 + 128) :: (putU (n / 128)).take m = a ++ [UInt8.ofNat (n % 128 + 128)] ++ (putU (n / 128)).take m by simp]
        exact this

theorem getU_cut (n m : Nat) (h : n < 9223372036854775808) (hm : m < (putU n).length) : getU ((putU n).take m) 0 = (0, 0, 211) := by
  unfold getU
  rw [if_neg (by simp)]
  have := gA_cut 8 n 0 0 m [] (by rw [pow9]; exact h) (by omega) hm 0 (by simp)
  simpa using this

/-- Zigzag. -/
def zig (n : Int) : Nat := if n < 0 then (-1 - 2 * n).toNat else (2 * n).toNat
def zag (n : Nat) : Int := if n % 2 = 1 then -1 - (n / 2 : Nat) else (n / 2 : Nat)
theorem zag_zig (n : Int) : zag (zig n) = n := by unfold zag zig; split <;> split <;> omega

def putI (n : Int) : List UInt8 := if n < -2305843009213693952 ∨ 2305843009213693951 < n then [] else putU (zig n)
def putUI (n : Int) : List UInt8 := if n < 0 then [] else putU n.toNat
def getI (s : List UInt8) (at_ : Int) : Int × Nat × Nat := (zag (getU s at_).1, (getU s at_).2.1, (getU s at_).2.2)

def putT (t : List UInt8) : List UInt8 := putU t.length ++ t
def getT (s : List UInt8) (at_ : Int) : List UInt8 × Nat × Nat :=
  if (getU s at_).2.2 ≠ 0 then ([], 0, (getU s at_).2.2) else
  if s.length < (getU s at_).2.1 + (getU s at_).1 then ([], 0, 211) else
  ((s.drop (getU s at_).2.1).take (getU s at_).1, (getU s at_).2.1 + (getU s at_).1, 0)

/-- One bit, and one byte, of the sum. -/
def crc1 (r : Nat) : Nat := if r % 2 = 1 then (r / 2) ^^^ 3988292384 else r / 2
def crc4 (r : Nat) : Nat := crc1 (crc1 (crc1 (crc1 r)))
def crcB (r c : Nat) : Nat := crc4 (crc4 (r ^^^ c))
def run (r : Nat) (l : List UInt8) : Nat := l.foldl (fun r c => crcB r c.toNat) r
def sum (l : List UInt8) : Nat := 4294967295 - run 4294967295 l
def le4 (n : Nat) : List UInt8 := [UInt8.ofNat (n % 256), UInt8.ofNat (n / 256 % 256), UInt8.ofNat (n / 65536 % 256), UInt8.ofNat (n / 16777216 % 256)]
def shut (l : List UInt8) : List UInt8 := l ++ le4 (sum l)
def opn (s : List UInt8) : List UInt8 × Nat :=
  if s.length < 4 then ([], 211) else if shut (s.take (s.length - 4)) ≠ s then ([], 210) else (s.take (s.length - 4), 0)

theorem xor_half (a b : Nat) : (a ^^^ b) / 2 = a / 2 ^^^ b / 2 := by
  have := Nat.shiftRight_xor_distrib (a := a) (b := b) (i := 1)
  simpa [Nat.shiftRight_succ] using this

theorem xor_mod2 (a b : Nat) : (a ^^^ b) % 2 = (a % 2 + b % 2) % 2 := by
  have h : ((a ^^^ b) % 2 = 1) ↔ ¬ ((a % 2 = 1) ↔ (b % 2 = 1)) := by
    have := Nat.testBit_xor a b 0
    simp only [Nat.testBit_zero] at this
    have e1 : decide ((a ^^^ b) % 2 = 1) = ((decide (a % 2 = 1)) ^^ decide (b % 2 = 1)) := this
    by_cases x : a % 2 = 1 <;> by_cases y : b % 2 = 1 <;> simp_all
  omega

theorem crc1_xor (a b : Nat) : crc1 (a ^^^ b) = crc1 a ^^^ crc1 b := by
  unfold crc1
  rw [xor_half, xor_mod2]
  by_cases x : a % 2 = 1 <;> by_cases y : b % 2 = 1
  · rw [if_neg (by omega), if_pos x, if_pos y]
    rw [show (a / 2 ^^^ 3988292384) ^^^ (b / 2 ^^^ 3988292384) = (a / 2 ^^^ b / 2) ^^^ (3988292384 ^^^ 3988292384) by ac_rfl]
    simp
  · rw [if_pos (by omega), if_pos x, if_neg y]; ac_rfl
  · rw [if_pos (by omega), if_neg x, if_pos y]; ac_rfl
  · rw [if_neg (by omega), if_neg x, if_neg y]

theorem crc4_xor (a b : Nat) : crc4 (a ^^^ b) = crc4 a ^^^ crc4 b := by unfold crc4; simp only [crc1_xor]

theorem crc1_even (h : Nat) : crc1 (2 * h) = h := by unfold crc1; rw [if_neg (by omega)]; omega
theorem crc4_16 (h : Nat) : crc4 (16 * h) = h := by
  unfold crc4
  rw [show 16 * h = 2 * (2 * (2 * (2 * h))) by omega]
  simp only [crc1_even]

theorem split16 (r : Nat) : r = 16 * (r / 16) ^^^ r % 16 := by
  apply Nat.eq_of_testBit_eq
  intro i
  rw [Nat.testBit_xor]
  have h2 : (r % 16).testBit i = (decide (i < 4) && r.testBit i) := by
    have := Nat.testBit_mod_two_pow r 4 i
    simpa using this
  have h1 : (16 * (r / 16)).testBit i = (decide (4 ≤ i) && r.testBit i) := by
    have e : 16 * (r / 16) = (r >>> 4) <<< 4 := by
      rw [Nat.shiftLeft_eq, Nat.shiftRight_eq_div_pow]; omega
    rw [e, Nat.testBit_shiftLeft, Nat.testBit_shiftRight]
    by_cases h : 4 ≤ i
    · simp [h]
    · simp [h]
  rw [h1, h2]
  by_cases h : i < 4
  · have : ¬ 4 ≤ i := by omega
    simp [h, this]
  · have : 4 ≤ i := by omega
    simp [h, this]

/-- The table's step is four steps of a bit. -/
theorem crc4_table (r : Nat) : crc4 r = r / 16 ^^^ crc4 (r % 16) := by
  rw [show crc4 r = crc4 (16 * (r / 16) ^^^ r % 16) by rw [← split16], crc4_xor, crc4_16]

theorem crc1_lt {r : Nat} (h : r < 4294967296) : crc1 r < 4294967296 := by
  unfold crc1
  split
  · exact Nat.xor_lt_two_pow (n := 32) (by omega) (by omega)
  · omega
theorem crc4_lt {r : Nat} (h : r < 4294967296) : crc4 r < 4294967296 := crc1_lt (crc1_lt (crc1_lt (crc1_lt h)))
theorem xor_byte_lt {r : Nat} (h : r < 4294967296) (c : UInt8) : r ^^^ c.toNat < 4294967296 := by
  have := c.toNat_lt
  exact Nat.xor_lt_two_pow (n := 32) (by omega) (by omega)
theorem crcB_lt {r : Nat} (h : r < 4294967296) (c : UInt8) : crcB r c.toNat < 4294967296 := crc4_lt (crc4_lt (xor_byte_lt h c))
theorem run_lt (l : List UInt8) : ∀ r, r < 4294967296 → run r l < 4294967296 := by
  induction l with
  | nil => intro r h; exact h
  | cons c l ih => intro r h; exact ih _ (crcB_lt h c)

theorem crc1_zero {d : Nat} (hd : d < 4294967296) (h : crc1 d = 0) : d = 0 := by
  unfold crc1 at h
  split at h
  · have : d / 2 = 3988292384 := by
      have := congrArg (· ^^^ 3988292384) h
      simpa [Nat.xor_assoc] using this
    omega
  · omega
theorem xor_eq_zero {a b : Nat} (h : a ^^^ b = 0) : a = b := by
  have := congrArg (· ^^^ b) h
  simpa [Nat.xor_assoc] using this
theorem crc4_inj {a b : Nat} (ha : a < 4294967296) (hb : b < 4294967296) (h : crc4 a = crc4 b) : a = b := by
  apply xor_eq_zero
  have hd : a ^^^ b < 4294967296 := Nat.xor_lt_two_pow (n := 32) (by omega) (by omega)
  have : crc4 (a ^^^ b) = 0 := by rw [crc4_xor, h]; simp
  unfold crc4 at this
  exact crc1_zero hd (crc1_zero (crc1_lt hd) (crc1_zero (crc1_lt (crc1_lt hd)) (crc1_zero (crc1_lt (crc1_lt (crc1_lt hd))) this)))
theorem crcB_inj {a b : Nat} {c d : UInt8} (ha : a < 4294967296) (hb : b < 4294967296) (h : crcB a c.toNat = crcB b d.toNat) : a ^^^ c.toNat = b ^^^ d.toNat :=
  crc4_inj (xor_byte_lt ha c) (xor_byte_lt hb d) (crc4_inj (crc4_lt (xor_byte_lt ha c)) (crc4_lt (xor_byte_lt hb d)) h)
theorem xor_left_inj {a b c : Nat} (h : c ^^^ a = c ^^^ b) : a = b := by
  have := congrArg (c ^^^ ·) h
  simpa [← Nat.xor_assoc] using this
theorem xor_right_inj {a b c : Nat} (h : a ^^^ c = b ^^^ c) : a = b := by
  have := congrArg (· ^^^ c) h
  simpa [Nat.xor_assoc] using this
theorem run_inj (l : List UInt8) : ∀ a b, a < 4294967296 → b < 4294967296 → run a l = run b l → a = b := by
  induction l with
  | nil => intro a b _ _ h; exact h
  | cons c l ih =>
    intro a b ha hb h
    exact xor_right_inj (crcB_inj ha hb (ih _ _ (crcB_lt ha c) (crcB_lt hb c) h))
/-- One byte turned: another sum. -/
theorem run_turned (a : List UInt8) (c d : UInt8) (b : List UInt8) (r : Nat) (hr : r < 4294967296) (h : run r (a ++ c :: b) = run r (a ++ d :: b)) : c = d := by
  unfold run at h
  rw [List.foldl_append, List.foldl_append] at h
  have hq := run_lt a r hr
  unfold run at hq
  have := crcB_inj hq hq (run_inj b _ _ (crcB_lt hq c) (crcB_lt hq d) h)
  exact UInt8.toNat_inj.1 (xor_left_inj this)
theorem sum_lt (l : List UInt8) : sum l < 4294967296 := by unfold sum; omega
theorem sum_turned (a : List UInt8) (c d : UInt8) (b : List UInt8) (h : sum (a ++ c :: b) = sum (a ++ d :: b)) : c = d := by
  have h1 := run_lt (a ++ c :: b) 4294967295 (by omega)
  have h2 := run_lt (a ++ d :: b) 4294967295 (by omega)
  unfold sum at h
  exact run_turned a c d b 4294967295 (by omega) (by omega)
theorem le4_inj {m n : Nat} (hm : m < 4294967296) (hn : n < 4294967296) (h : le4 m = le4 n) : m = n := by
  simp only [le4, List.cons.injEq, and_true] at h
  have f : ∀ {a b : Nat}, a < 256 → b < 256 → UInt8.ofNat a = UInt8.ofNat b → a = b := fun ha hb h => by
    rw [← toNat_ofNat ha, ← toNat_ofNat hb, h]
  obtain ⟨h1, h2, h3, h4⟩ := h
  have h1 := f (by omega) (by omega) h1
  have h2 := f (by omega) (by omega) h2
  have h3 := f (by omega) (by omega) h3
  have h4 := f (by omega) (by omega) h4
  omega
theorem shut_len (l : List UInt8) : (shut l).length = l.length + 4 := by simp [shut, le4]
theorem opn_shut (l : List UInt8) : opn (shut l) = (l, 0) := by
  unfold opn
  rw [if_neg (by rw [shut_len]; omega), shut_len, show l.length + 4 - 4 = l.length by omega]
  rw [show (shut l).take l.length = l by simp [shut], if_neg (by simp)]

/-- One byte of what was sealed is turned: it does not open. -/
theorem opn_turned (l : List UInt8) (k : Nat) (hk : k < l.length + 4) (x : UInt8) (hx : (shut l)[k]? ≠ some x) : opn ((shut l).set k x) = ([], 210) := by
  unfold opn
  have hl : ((shut l).set k x).length = l.length + 4 := by rw [List.length_set, shut_len]
  rw [if_neg (by omega), hl, show l.length + 4 - 4 = l.length by omega, if_pos]
  intro h
  by_cases hkl : k < l.length
  · have e1 : (shut l).set k x = l.set k x ++ le4 (sum l) := by
      unfold shut; rw [List.set_append_left _ _ hkl]
    rw [e1] at h
    rw [show (l.set k x ++ le4 (sum l)).take l.length = l.set k x by
      rw [List.take_append_of_le_length (by rw [List.length_set]; exact Nat.le_refl _), List.take_of_length_le (by rw [List.length_set]; exact Nat.le_refl _)]] at h
    unfold shut at h
    have h := List.append_cancel_left h
    have h := le4_inj (sum_lt _) (sum_lt _) h
    have e2 : l.set k x = l.take k ++ x :: l.drop (k + 1) := by
      rw [List.set_eq_take_append_cons_drop, if_pos hkl]
    have e3 : l = l.take k ++ l[k] :: l.drop (k + 1) := by
      simp
    have h : sum (l.take k ++ x :: l.drop (k + 1)) = sum (l.take k ++ l[k] :: l.drop (k + 1)) := by
      rw [← e2, ← e3]; exact h
    have := sum_turned _ _ _ _ h
    apply hx
    unfold shut
    rw [List.getElem?_append_left hkl, List.getElem?_eq_getElem hkl, this]
  · have e1 : (shut l).set k x = l ++ (le4 (sum l)).set (k - l.length) x := by
      unfold shut; rw [List.set_append_right _ _ (by omega)]
    rw [e1, List.take_left] at h
    apply hx
    rw [show (shut l)[k]? = (l ++ (le4 (sum l)).set (k - l.length) x)[k]? by rw [← h]]
    rw [List.getElem?_append_right (by omega), List.getElem?_set_self (by simp [le4]; omega)]

end Pk
