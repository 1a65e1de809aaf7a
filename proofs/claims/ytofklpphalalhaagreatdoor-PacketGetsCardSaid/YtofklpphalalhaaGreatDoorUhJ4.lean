/- Texts of this claim, joined: GivenP, GivenW. Each as it was, cut to what the claim uses. Conditions: each theorem's own. -/
import Derived.Test.YtofklpphalalhaaGreatDoorProg
import Derived.Test.YtofklpphalalhaaGreatDoorUhJ3
import Derived.Test.YtofklpphalalhaaGreatDoorUhJ0
import Derived.WalkKit
import Derived.KernelRfl
import Derived.Lib.ConvBytes
import Derived.Laws.Slices
import Derived.Test.YtofklpphalalhaaGreatDoorUhJ1
import Derived.Laws.RangeAny
import Derived.Lib.RuneCount
section
namespace Go.Proofs.YtofklpphalalhaaGreatDoor
open Go.RowKit Go.Proofs.YtofklpphalalhaaGreatDoorW.PrintWords Go.Proofs.YtofklpphalalhaaGreatDoorW.PrintLast Go.Proofs.YtofklpphalalhaaGreatDoorW.PrintMore
attribute [local go_sem] min2_int min_two
theorem bytes_cell (w : World) (s : ByteArray) (a b : Nat) (hb : b ≤ s.size) (k : Nat) (hk : a + k < b) :
  (Lib.bytesWorld w 5 (s.extract a b)).cell? ⟨w.heap.size, k, none⟩ = some (.int .u8 (s.data.toList.getD (a + k) 0).toNat) := by
 rw [Lib.bytesWorld_cell _ _ _ _ (by rw [ByteArray.size_extract]; omega)]
 have h1 : a + k < s.data.size := by show _ < s.size; omega
 have e : (s.extract a b).data.toList.getD k 0 = s.data.toList.getD (a + k) 0 := by
  simp only [ByteArray.data_extract, List.getD_eq_getElem?_getD, Array.getElem?_toList]
  rw [Array.getElem?_extract]
  have : k < min b s.data.size - a := by have : s.data.size = s.size := rfl; omega
  rw [if_pos this]
 rw [e]
theorem below_bytes (w : World) (s : ByteArray) : Below w.heap.size w (Lib.bytesWorld w 5 s) :=
 ⟨rfl, rfl, rfl, by rw [Lib.bytesWorld_size]; omega, fun k hk => Lib.bytesWorld_at_old w 5 s k hk⟩
theorem wraps_i64 (n : Int) (h0 : 0 ≤ n) (h1 : n < 2 ^ 63) : IntKind.i64.wrap n = n := by rw [IntKind.wrap_i64]; omega
theorem pow63 : (2 : Nat) ^ 63 = 9223372036854775808 := by decide +kernel
theorem pow8 : (128 : Nat) ^ 8 = 72057594037927936 := by decide +kernel
theorem or_join (acc m k : Nat) (ha : acc < 128 ^ k) : acc ||| m * 128 ^ k = acc + m * 128 ^ k := by
 have ep : (2 : Nat) ^ (7 * k) = 128 ^ k := by rw [Nat.pow_mul]
 rw [Nat.or_comm, Nat.mul_comm, ← ep, ← Nat.two_pow_add_eq_or_of_lt (by rw [ep]; exact ha), Nat.add_comm]
theorem shifted (m k : Nat) (hk : k < 9) (hm : m < 128) : m * 128 ^ k ≤ 9151314442816847872 := by
 have hkp : 128 ^ k ≤ 128 ^ 8 := Nat.pow_le_pow_right (by decide) (by omega)
 rw [pow8] at hkp
 exact Nat.le_trans (Nat.mul_le_mul (show m ≤ 127 by omega) hkp) (by decide)
theorem acc_lt (acc k : Nat) (hk : k < 9) (ha : acc < 128 ^ k) : acc < 72057594037927936 := by
 have hkp : 128 ^ k ≤ 128 ^ 8 := Nat.pow_le_pow_right (by decide) (by omega)
 rw [pow8] at hkp
 exact Nat.lt_of_lt_of_le ha hkp
theorem shl_eq (m k : Nat) (hk : k < 9) (hm : m < 128) : wrap64 (wrap64 (m : Int) * 2 ^ (7 * k)) = ((m * 128 ^ k : Nat) : Int) := by
 have e2 : wrap64 (m : Int) = m := by unfold wrap64; omega
 have ep' : (2 : Int) ^ (7 * k) = ((128 ^ k : Nat) : Int) := by
  rw [show (128 : Nat) ^ k = 2 ^ (7 * k) by rw [Nat.pow_mul]]; exact (Int.natCast_pow 2 _).symm
 have hs := shifted m k hk hm
 rw [e2, ep', ← Int.natCast_mul]
 generalize m * 128 ^ k = x at *
 unfold wrap64; omega
theorem or_nat (a b : Nat) (ha : a < 9223372036854775808) (hb : b < 9223372036854775808) : bits .or .i64 (a : Int) (b : Int) = ((a ||| b : Nat) : Int) :=
 (bits_nat .i64 63 (by decide) wraps_i64 a b (by rw [pow63]; exact ha) (by rw [pow63]; exact hb)).2
theorem or_step (acc k : Nat) (c : Int) (h0 : 0 ≤ c) (h1 : c < 256) (hk : k < 9) (ha : acc < 128 ^ k) :
  bits .or .i64 (acc : Int) (wrap64 (wrap64 (bits .and .u8 c 127) * 2 ^ (7 * k))) = ((acc + (c % 128).toNat * 128 ^ k : Nat) : Int) := by
 have e1 : bits .and .u8 c 127 = c % 128 := bits_mask .u8 8 (by decide) wraps_u8 7 (by decide) c h0 h1
 obtain ⟨m, hm, hm2⟩ : ∃ m : Nat, c % 128 = m ∧ m < 128 := ⟨(c % 128).toNat, by omega, by omega⟩
 have hs := shifted m k hk hm2
 have hb := acc_lt acc k hk ha
 rw [e1, hm, shl_eq m k hk hm2, Int.toNat_natCast, or_nat acc _ (by omega) (by omega), or_join acc m k ha]
theorem gA_step (l : List UInt8) (n k acc : Nat) (c : Int) (hc : ((l.getD (n + k) 0).toNat : Int) = c) (hl : n + k < l.length) (hk : k < 9) :
    Pk.gA l n k acc = if 128 ≤ c then Pk.gA l n (k + 1) (acc + (c % 128).toNat * 128 ^ k) else if c = 0 ∧ 0 < k then (0, 0, 212) else (acc + (c % 128).toNat * 128 ^ k, n + k + 1, 0) := by
  rw [Pk.gA, if_neg (by omega)]
  rw [List.getD_eq_getElem?_getD] at hc
  cases hx : l[n + k]? with
  | none => rw [List.getElem?_eq_none_iff] at hx; omega
  | some y =>
    rw [hx] at hc
    simp only [Option.getD_some] at hc
    have hb := y.toNat_lt
    subst hc
    simp only
    generalize y.toNat = b at *
    by_cases h : 128 ≤ b
    · rw [if_pos h, if_pos (show (128 : Int) ≤ (b : Int) by omega), show ((b : Int) % 128).toNat = b - 128 by omega]
    · rw [if_neg h, if_neg (show ¬ (128 : Int) ≤ (b : Int) by omega), show ((b : Int) % 128).toNat = b by omega]
      by_cases h2 : b = 0 ∧ 0 < k
      · rw [if_pos h2, if_pos (show (b : Int) = 0 ∧ 0 < k by omega)]
      · rw [if_neg h2, if_neg (show ¬ ((b : Int) = 0 ∧ 0 < k) by omega)]
theorem acc_step (acc k : Nat) (c : Int) (ha : acc < 128 ^ k) : acc + (c % 128).toNat * 128 ^ k < 128 ^ (k + 1) := by
 have : (c % 128).toNat * 128 ^ k ≤ 127 * 128 ^ k := Nat.mul_le_mul_right _ (by omega)
 rw [Nat.pow_succ]; omega
theorem tup3 {a b c : Int} {x : Nat × Nat × Nat} (ha : a = (x.1 : Int)) (hb : b = (x.2.1 : Int)) (hc : c = (x.2.2 : Int)) :
  Ending.returned (.tuple #[.int .i64 a, .int .i64 b, .int .i64 c]) = .returned (.tuple #[.int .i64 (x.1 : Int), .int .i64 (x.2.1 : Int), .int .i64 (x.2.2 : Int)]) := by rw [ha, hb, hc]
set_option maxHeartbeats 1000000 in
theorem getUint_walk (s : ByteArray) (n m : Nat) (w : World) (hs : s.size ≤ 140737488351232) (hn : n ≤ s.size) (hmin : n + 9 ≤ s.size ∧ m = n + 9 ∨ s.size < n + 9 ∧ m = s.size) :
  Calls Tryz.prog 179 #[.string s, .int .i64 n] w fun e w' => e = .returned (.tuple #[.int .i64 (Pk.gA s.data.toList n 0 0).1, .int .i64 (Pk.gA s.data.toList n 0 0).2.1, .int .i64 (Pk.gA s.data.toList n 0 0).2.2]) ∧ Below w.heap.size w w' := by
 have hcv := fun (w : World) (s : ByteArray) => Lib.run_convert_string_bytes (P := Tryz.prog) w 9 59 5 s Tryz.underlying9 Tryz.underlying59 Tryz.underlying5
 have hl : s.data.toList.length = s.size := rfl
 rcases hmin with ⟨h, rfl⟩ | ⟨h, rfl⟩
 ·have h1 : ((n : Int) ≤ (n : Int) + 9) = True := eq_true (by omega)
  have h2 : ((n : Int) + 9 ≤ (s.size : Int)) = True := eq_true (by omega)
  have hl := Aside0.mk hl
  go_enter Tryz.func179, Tryz.ntmps179
  go_wp2
  go_loop [4, 27] (fun a i => ∃ k acc : Nat, k ≤ 9 ∧ i = .int .i64 k ∧ a = .int .i64 acc ∧ acc < 128 ^ k ∧ Hid (Pk.gA s.data.toList n 0 0 = Pk.gA s.data.toList n k acc)) (fun _ i => 9 - (intOf i).toNat)
  case atStart => exact ⟨0, 0, by omega, rfl, rfl, by decide, rfl⟩
  case round =>
   obtain ⟨k, acc, hk, rfl, rfl, hacc, hg⟩ := hrel
   by_cases hlt : k < 9
   ·have hc := bytes_cell w s n (n + 9) (by omega) k (by omega)
    obtain ⟨c, hcc, hc0, hc1⟩ : ∃ c : Int, (s.data.toList.getD (n + k) 0).toNat = c ∧ 0 ≤ c ∧ c < 256 := ⟨_, rfl, by omega, by have := (s.data.toList.getD (n + k) 0).toNat_lt; omega⟩
    rw [hcc] at hc
    have hst := Aside0.mk (gA_step s.data.toList n k acc c hcc (by rw [hl.out]; omega) hlt)
    have hor := Aside0.mk (or_step acc k c hc0 hc1 hlt hacc)
    have hac := acc_step acc k c hacc
    clear hcc
    go_wp2
    ·go_round
     case rel => exact ⟨k + 1, _, by omega, by go_num, congrArg _ hor.out, hac, by have := hg.out; rw [hst.out, if_pos (by assumption)] at this; exact this⟩
     case measure => simp [intOf]; omega
    ·go_ret3
     exact ⟨by rw [hg.out, hst.out, if_neg (by omega), if_pos (by omega)]; rfl, below_bytes _ _⟩
    ·have hz : c = 0 := by assumption
     subst hz
     go_ret3
     exact ⟨by rw [hg.out, hst.out, if_neg (by omega), if_neg (by omega)]; exact tup3 hor.out (by simp) rfl, below_bytes _ _⟩
    ·go_ret3
     exact ⟨by rw [hg.out, hst.out, if_neg (by omega), if_neg (by omega)]; exact tup3 hor.out (by simp) rfl, below_bytes _ _⟩
   ·have hk9 : ¬ ((k : Int) < 9) := by omega
    go_wp2
    go_ret3
    exact ⟨by rw [hg.out, Pk.gA, if_pos (by omega)]; rfl, below_bytes _ _⟩
 ·have hl := Aside0.mk hl
  have h3 : ¬ ((n : Int) + 9 ≤ (s.size : Int)) := by omega
  have h1 : ((n : Int) ≤ (s.size : Int)) = True := eq_true (by omega)
  go_enter Tryz.func179, Tryz.ntmps179
  go_wp2
  go_loop [4, 27] (fun a i => ∃ k acc : Nat, k ≤ s.size - n ∧ i = .int .i64 k ∧ a = .int .i64 acc ∧ acc < 128 ^ k ∧ Hid (Pk.gA s.data.toList n 0 0 = Pk.gA s.data.toList n k acc)) (fun _ i => 9 - (intOf i).toNat)
  case atStart => exact ⟨0, 0, by omega, rfl, rfl, by decide, rfl⟩
  case round =>
   obtain ⟨k, acc, hk, rfl, rfl, hacc, hg⟩ := hrel
   by_cases hlt : k < s.size - n
   ·have hc := bytes_cell w s n s.size (by omega) k (by omega)
    obtain ⟨c, hcc, hc0, hc1⟩ : ∃ c : Int, (s.data.toList.getD (n + k) 0).toNat = c ∧ 0 ≤ c ∧ c < 256 := ⟨_, rfl, by omega, by have := (s.data.toList.getD (n + k) 0).toNat_lt; omega⟩
    rw [hcc] at hc
    have hk9 : k < 9 := by omega
    have hst := Aside0.mk (gA_step s.data.toList n k acc c hcc (by rw [hl.out]; omega) hk9)
    have hor := Aside0.mk (or_step acc k c hc0 hc1 hk9 hacc)
    have hac := acc_step acc k c hacc
    clear hcc
    go_wp2
    ·go_round
     case rel => exact ⟨k + 1, _, by omega, by go_num, congrArg _ hor.out, hac, by have := hg.out; rw [hst.out, if_pos (by assumption)] at this; exact this⟩
     case measure => simp [intOf]; omega
    ·go_ret3
     exact ⟨by rw [hg.out, hst.out, if_neg (by omega), if_pos (by omega)]; rfl, below_bytes _ _⟩
    ·have hz : c = 0 := by assumption
     subst hz
     go_ret3
     exact ⟨by rw [hg.out, hst.out, if_neg (by omega), if_neg (by omega)]; exact tup3 hor.out (by simp) rfl, below_bytes _ _⟩
    ·go_ret3
     exact ⟨by rw [hg.out, hst.out, if_neg (by omega), if_neg (by omega)]; exact tup3 hor.out (by simp) rfl, below_bytes _ _⟩
   ·have hke : k = s.size - n := by omega
    have hkn : ¬ ((k : Int) < ((s.size - n : Nat) : Int)) := by omega
    have hend : Pk.gA s.data.toList n k acc = (0, 0, 211) := by
     rw [Pk.gA, if_neg (by omega)]
     rw [List.getElem?_eq_none (by rw [hl.out]; omega)]
    have hend := Aside0.mk hend
    have hke := Aside0.mk hke
    go_wp2
    go_ret3
    exact ⟨by rw [hg.out, hend.out]; rfl, below_bytes _ _⟩
/-- The number at a place of a text: what GetUint tells. -/
def pack_GetUint.f (a0 : ByteArray) (a1 : Int) : Option (Int × Int × Int) :=
 if a0.size ≤ 140737488351232 then some ((Pk.getU a0.data.toList a1).1, (Pk.getU a0.data.toList a1).2.1, (Pk.getU a0.data.toList a1).2.2) else none
theorem pack_GetUint.calls (a0 : ByteArray) (a1 : Int) (r1 : Int) (r2 : Int) (r3 : Int) (w : World) (h : pack_GetUint.f a0 a1 = some (r1, r2, r3)) :
  Calls Tryz.prog 179 #[.string a0, .int .i64 a1] w fun e w' => e = .returned (.tuple #[.int .i64 r1, .int .i64 r2, .int .i64 r3]) ∧ Below w.heap.size w w' := by
 unfold pack_GetUint.f at h
 split at h
 ·rename_i hs
  simp only [Option.some.injEq, Prod.mk.injEq] at h
  obtain ⟨rfl, rfl, rfl⟩ := h
  have hl : a0.data.toList.length = a0.size := rfl
  by_cases hn : a1 < 0 ∨ (a0.size : Int) < a1
  ·unfold Pk.getU
   rw [hl, if_pos hn]
   rcases hn with hn | hn
   ·have hl := Aside0.mk hl
    go_enter Tryz.func179, Tryz.ntmps179
    go_wp2
    go_ret3
    exact ⟨rfl, Below.refl _ _⟩
   ·have hl := Aside0.mk hl
    have hn0 : ¬ a1 < 0 := by omega
    go_enter Tryz.func179, Tryz.ntmps179
    go_wp2
    go_ret3
    exact ⟨rfl, Below.refl _ _⟩
  ·obtain ⟨n, rfl⟩ := Int.eq_ofNat_of_zero_le (show 0 ≤ a1 by omega)
   unfold Pk.getU
   rw [hl, if_neg hn, Int.toNat_natCast]
   by_cases hm : n + 9 ≤ a0.size
   ·exact getUint_walk a0 n (n + 9) w hs (by omega) (.inl ⟨hm, rfl⟩)
   ·exact getUint_walk a0 n a0.size w hs (by omega) (.inr ⟨by omega, rfl⟩)
 ·exact absurd h (by simp)
def tabN : List Int := [0, 498536548, 997073096, 651767980, 1994146192, 1802195444, 1303535960, 1342533948, 3988292384, 4027552580, 3604390888, 3412177804, 2607071920, 2262029012, 2685067896, 3183342108]
def Tab (w : World) : Prop := ∀ i, i < 16 → w.cell? ⟨0, i, none⟩ = some (.int .u32 (tabN.getD i 0))
theorem Tab.below {w w' : World} (h : Tab w) (hb : Below w.heap.size w w') : Tab w' := fun i hi => by
 have := h i hi
 rw [hb.cell (p := ⟨0, i, none⟩) (World.block_lt_of_cell? w _ this)]; exact this
theorem xor_u32 (a b : Nat) (ha : a < 4294967296) (hb : b < 4294967296) : bits .xor .u32 (a : Int) (b : Int) = ((a ^^^ b : Nat) : Int) := by
 have hx : a ^^^ b < 2 ^ 32 := Nat.xor_lt_two_pow (by omega) (by omega)
 have h1 : (BitVec.ofInt 32 (a : Int)).toNat = a := by
  rw [BitVec.ofInt_natCast, BitVec.toNat_ofNat]; exact Nat.mod_eq_of_lt (by omega)
 have h2 : (BitVec.ofInt 32 (b : Int)).toNat = b := by
  rw [BitVec.ofInt_natCast, BitVec.toNat_ofNat]; exact Nat.mod_eq_of_lt (by omega)
 show IntKind.u32.wrap ((BitVec.ofInt 32 (a : Int) ^^^ BitVec.ofInt 32 (b : Int)).toNat : Int) = _
 rw [BitVec.toNat_xor, h1, h2, IntKind.wrap_u32]
 omega
theorem wraps_u32 (n : Int) (h0 : 0 ≤ n) (h1 : n < 2 ^ 32) : IntKind.u32.wrap n = n := by rw [IntKind.wrap_u32]; omega
theorem and15_u32 (a : Nat) (ha : a < 4294967296) : bits .and .u32 (a : Int) 15 = ((a % 16 : Nat) : Int) := by
 have := bits_mask .u32 32 (by decide) wraps_u32 4 (by decide) (a : Int) (by omega) (by omega)
 simpa using this
theorem tab_crc : ∀ i, i < 16 → tabN.getD i 0 = ((Pk.crc4 i : Nat) : Int) := by decide +kernel
theorem tab_step (x : Nat) (hx : x < 4294967296) : bits .xor .u32 ((x : Int) / 16) (tabN.getD (x % 16) 0) = ((Pk.crc4 x : Nat) : Int) := by
 rw [tab_crc _ (Nat.mod_lt _ (by decide)), show (x : Int) / 16 = ((x / 16 : Nat) : Int) by omega,
  xor_u32 _ _ (by omega) (Pk.crc4_lt (by omega)), ← Pk.crc4_table]
theorem not_u32 (r : Nat) (hr : r < 4294967296) : bits .xor .u32 IntKind.u32.max (r : Int) = ((4294967295 - r : Nat) : Int) := by
 rw [show IntKind.u32.max = ((4294967295 : Nat) : Int) by decide +kernel, xor_u32 _ _ (by decide) hr]
 congr 1
 apply Nat.eq_of_testBit_eq
 intro i
 have h1 : (4294967295 : Nat).testBit i = decide (i < 32) := Nat.testBit_two_pow_sub_one 32 i
 have h2 : (4294967295 - r).testBit i = (decide (i < 32) && !r.testBit i) := by
  have := Nat.testBit_two_pow_sub_succ (x := r) (n := 32) (by omega) i
  rw [show 4294967295 - r = 2 ^ 32 - (r + 1) by omega]; exact this
 rw [Nat.testBit_xor, h1, h2]
 by_cases hi : i < 32
 ·simp [hi]
 ·have : r.testBit i = false := Nat.testBit_lt_two_pow (Nat.lt_of_lt_of_le (show r < 2 ^ 32 by omega) (Nat.pow_le_pow_right (by decide) (by omega)))
  simp [hi, this]
set_option maxHeartbeats 1000000 in
theorem sum_walk (s : ByteArray) (w : World) (HT : Tab w) (hs : s.size ≤ 140737488351232) :
  Calls Tryz.prog 172 #[.string s] w fun e w' => e = .returned (.int .u32 (Pk.sum s.data.toList : Nat)) ∧ Below w.heap.size w w' := by
 have hcv := fun (w : World) (s : ByteArray) => Lib.run_convert_string_bytes (P := Tryz.prog) w 9 59 5 s Tryz.underlying9 Tryz.underlying59 Tryz.underlying5
 have hl : Aside0 (s.data.toList.length = s.size) := ⟨rfl⟩
 have HT' := Aside0.mk (HT.below (below_bytes w s))
 clear HT
 go_enter Tryz.func172, Tryz.ntmps172
 go_wp2
 go_loop [3, 9] (fun a i => ∃ k r : Nat, k ≤ s.size ∧ i = .int .i64 k ∧ a = .int .u32 r ∧ r < 4294967296 ∧ Hid (Pk.run 4294967295 (s.data.toList.take k) = r)) (fun _ i => s.size - (intOf i).toNat)
 case atStart => exact ⟨0, 4294967295, by omega, rfl, rfl, by omega, rfl⟩
 case round =>
  obtain ⟨k, r, hk, rfl, rfl, hr, hg⟩ := hrel
  by_cases hlt : k < s.size
  ·have hc := Lib.bytesWorld_cell w 5 s k hlt
   obtain ⟨c, hcc, hc1⟩ : ∃ c : Nat, (s.data.toList.getD k 0).toNat = c ∧ c < 256 := ⟨_, rfl, by have := (s.data.toList.getD k 0).toNat_lt; omega⟩
   rw [hcc] at hc
   have hcc := Aside0.mk hcc
   obtain ⟨x, hx⟩ : ∃ x, r ^^^ c = x := ⟨_, rfl⟩
   have hx1 : x < 4294967296 := by rw [← hx]; exact Nat.xor_lt_two_pow (n := 32) (by omega) (by omega)
   have e1 : bits .xor .u32 (r : Int) (c : Int) = (x : Int) := by rw [xor_u32 r c hr (by omega), hx]
   obtain ⟨m, hm⟩ : ∃ m, x % 16 = m := ⟨_, rfl⟩
   have hm1 : m < 16 := by omega
   have e2 : bits .and .u32 (x : Int) 15 = (m : Int) := by rw [and15_u32 x hx1, hm]
   have d2 := HT'.out m hm1
   obtain ⟨y, hy⟩ : ∃ y, Pk.crc4 x = y := ⟨_, rfl⟩
   have hy1 : y < 4294967296 := by rw [← hy]; exact Pk.crc4_lt hx1
   have e3 : bits .xor .u32 ((x : Int) / 16) (tabN.getD m 0) = (y : Int) := by rw [← hm, tab_step x hx1, hy]
   generalize tabN.getD m 0 = T at d2 e3
   obtain ⟨m', hm'⟩ : ∃ m, y % 16 = m := ⟨_, rfl⟩
   have hm1' : m' < 16 := by omega
   have e4 : bits .and .u32 (y : Int) 15 = (m' : Int) := by rw [and15_u32 y hy1, hm']
   have d4 := HT'.out m' hm1'
   obtain ⟨z, hz⟩ : ∃ z, Pk.crc4 y = z := ⟨_, rfl⟩
   have hz1 : z < 4294967296 := by rw [← hz]; exact Pk.crc4_lt hy1
   have e5 : bits .xor .u32 ((y : Int) / 16) (tabN.getD m' 0) = (z : Int) := by rw [← hm', tab_step y hy1, hz]
   generalize tabN.getD m' 0 = T' at d4 e5
   have hf : Aside0 (Pk.run 4294967295 (s.data.toList.take (k + 1)) = z) := ⟨by
    rw [← hz, ← hy, ← hx, ← hcc.out]
    rw [List.take_succ_eq_append_getElem (by rw [hl.out]; exact hlt)]
    have := hg.out
    unfold Pk.run at this ⊢
    rw [List.foldl_append, this]
    simp only [List.foldl_cons, List.foldl_nil, Pk.crcB]
    rw [List.getD_eq_getElem?_getD, List.getElem?_eq_getElem (by rw [hl.out]; exact hlt)]; rfl⟩
   clear hx hm hy hm' hz
   go_wp2
   go_round
   case rel => exact ⟨k + 1, z, by omega, by go_num, rfl, hz1, hf.out⟩
   case measure => simp [intOf]; omega
  ·have hk9 : ¬ ((k : Int) < (s.size : Int)) := by omega
   have hke : Aside0 (k = s.size) := ⟨by omega⟩
   have e6 := not_u32 r hr
   go_wp2
   go_ret
   refine ⟨?_, below_bytes _ _⟩
   unfold Pk.sum
   have := hg.out
   rw [hke.out, List.take_of_length_le (by rw [hl.out]; exact Nat.le_refl _)] at this
   rw [this]; rfl
/-- The sum: what Sum tells. -/
def pack_Sum.f (a0 : ByteArray) : Option Int := if a0.size ≤ 140737488351232 then some (Pk.sum a0.data.toList : Nat) else none
theorem pack_Sum.calls (a0 : ByteArray) (r : Int) (w : World) (HT : Tab w) (h : pack_Sum.f a0 = some r) :
  Calls Tryz.prog 172 #[.string a0] w fun e w' => e = .returned (.int .u32 r) ∧ Below w.heap.size w w' := by
 unfold pack_Sum.f at h
 split at h
 ·rename_i hs
  obtain rfl := Option.some.inj h
  exact sum_walk a0 w HT hs
 ·exact absurd h (by simp)
end Go.Proofs.YtofklpphalalhaaGreatDoor
end
section
namespace Go.Proofs.YtofklpphalalhaaGreatDoor
set_option linter.unusedVariables false
set_option linter.unusedSimpArgs false
open Go.RowKit Go.Proofs.YtofklpphalalhaaGreatDoor.PAll Go.Proofs.YtofklpphalalhaaGreatDoorW.PrintWords Go.Proofs.YtofklpphalalhaaGreatDoorW.PrintLast Go.Proofs.YtofklpphalalhaaGreatDoorW.PrintMore
namespace Wd
def cap (n : Nat) : Bool := (65 ≤ n && n ≤ 90) || (48 ≤ n && n ≤ 57) || n == 95
def nam (n : Nat) : Bool := cap n || (97 ≤ n && n ≤ 122) || n == 46 || n == 45
def allOf (K : Nat → Bool) (l : List UInt8) : Bool := l.all (fun c => K c.toNat)
def okName (K : Nat → Bool) (l : List UInt8) : Bool := allOf K l && !l.isEmpty && decide (l.length ≤ 40)
end Wd
theorem size_len (s : ByteArray) : s.data.toList.length = s.size := rfl
/-! Runes, and bytes. -/
theorem get_data (s : ByteArray) (i : Nat) (h : i < s.size) : s.data.toList[i]? = some (s.get! i) := by
 have : s.get! i = s[i]'h := by
  have := get_at s i h
  rwa [Nat.add_zero] at this
 rw [this, List.getElem?_eq_getElem (by rw [size_len]; exact h)]; rfl
/-- A rune of several bytes: each is beyond ASCII. -/
theorem decode_bytes (s : ByteArray) (pos : Nat) (h : pos < s.size) (h0 : 128 ≤ (s.get! pos).toNat) : 1 ≤ (Utf8.decode s pos).2 ∧ 128 ≤ (Utf8.decode s pos).1 ∧
  ∀ j, j < (Utf8.decode s pos).2 → pos + j < s.size ∧ 128 ≤ (s.get! (pos + j)).toNat := by
 have h1 : s.get! (pos + 0) = s.get! pos := rfl
 have hb : ¬ (s.get! (pos + 0)).toNat < 128 := by rw [h1]; omega
 have ge : s[pos]'h = s.get! pos := by have := get_at s pos h; rw [← this, h1]
 have hh := decode_high s pos h (by rw [ge]; exact h0)
 refine ⟨hh.2, hh.1, ?_⟩
 have one : ∀ j, j < 1 → pos + j < s.size ∧ 128 ≤ (s.get! (pos + j)).toNat := fun j hj => by
  obtain rfl : j = 0 := by omega
  exact ⟨by omega, by rw [h1]; exact h0⟩
 unfold Utf8.decode
 simp only [hb, if_false]
 split
 ·rename_i hc
  simp only [Bool.and_eq_true, decide_eq_true_eq, beq_iff_eq] at hc
  split
  ·intro j hj
   rcases (show j = 0 ∨ j = 1 by simp at hj; omega) with rfl | rfl
   ·exact one 0 (by omega)
   ·exact ⟨hc.2.1, by omega⟩
  ·exact one
 ·split
  ·rename_i hc
   simp only [Bool.and_eq_true, decide_eq_true_eq, beq_iff_eq] at hc
   split
   ·intro j hj
    rcases (show j = 0 ∨ j = 1 ∨ j = 2 by simp at hj; omega) with rfl | rfl | rfl
    ·exact one 0 (by omega)
    ·exact ⟨hc.1.2.1, by omega⟩
    ·exact ⟨hc.2.1, by omega⟩
   ·exact one
  ·split
   ·rename_i hc
    simp only [Bool.and_eq_true, decide_eq_true_eq, beq_iff_eq] at hc
    split
    ·intro j hj
     rcases (show j = 0 ∨ j = 1 ∨ j = 2 ∨ j = 3 by simp at hj; omega) with rfl | rfl | rfl | rfl
     ·exact one 0 (by omega)
     ·exact ⟨hc.1.1.2.1, by omega⟩
     ·exact ⟨hc.1.2.1, by omega⟩
     ·exact ⟨hc.2.1, by omega⟩
    ·exact one
   ·exact one
/-- One step of a range over a text: a byte of ASCII; or a rune beyond it, whose bytes are all beyond it. -/
theorem rune_step (u : ByteArray) (p : Nat) (hp : p < u.size) :
  (∃ c : UInt8, c.toNat < 128 ∧ u.data.toList[p]? = some c ∧ Utf8.decode u p = (c.toNat, 1)) ∨
  (∃ r w : Nat, Utf8.decode u p = (r, w) ∧ 128 ≤ r ∧ r ≤ 2147483647 ∧ 1 ≤ w ∧ p + w ≤ u.size ∧ ∀ j, j < w → ∃ c : UInt8, u.data.toList[p + j]? = some c ∧ 128 ≤ c.toNat) := by
 have ge : u[p]'hp = u.get! p := by have := get_at u p hp; rw [← this]; rfl
 by_cases hc : (u.get! p).toNat < 128
 ·refine .inl ⟨u.get! p, hc, get_data u p hp, ?_⟩
  have hd := decode_ascii u p hp (by rw [ge]; exact hc)
  rw [ge] at hd
  exact hd
 ·obtain ⟨d1, d2, d3⟩ := decode_bytes u p hp (by omega)
  refine .inr ⟨(Utf8.decode u p).1, (Utf8.decode u p).2, rfl, d2, decode_le u p, d1, ?_, fun j hj => ?_⟩
  ·have := d3 ((Utf8.decode u p).2 - 1) (by omega); omega
  ·have := d3 j hj
   exact ⟨_, get_data u (p + j) this.1, this.2⟩
/-! Classes of runes. -/
set_option maxHeartbeats 1000000 in
theorem within_walk (n a b : Nat) (w : World) : Calls Tryz.prog 222 #[.int .i32 (n : Int), .int .i32 (a : Int), .int .i32 (b : Int)] w fun e w' => e = .returned (.bool (decide (a ≤ n) && decide (n ≤ b))) ∧ w' = w := by
 by_cases h1 : (a : Int) ≤ (n : Int)
 ·have h1' : decide (a ≤ n) = true := decide_eq_true (by omega)
  rw [h1', Bool.true_and]
  go_enter Tryz.func222, Tryz.ntmps222
  go_wp2
  go_ret
  exact ⟨rfl, rfl⟩
 ·have h1' : decide (a ≤ n) = false := decide_eq_false (by omega)
  rw [h1', Bool.false_and]
  have h2 : (n : Int) < (a : Int) := by omega
  go_enter Tryz.func222, Tryz.ntmps222
  go_wp2
  go_ret
  exact ⟨rfl, rfl⟩
theorem eq_nat (a b : Nat) : ((a : Int) == (b : Int)) = (a == b) := by rw [Bool.eq_iff_iff]; simp; omega
set_option maxHeartbeats 1000000 in
theorem capital_walk (n : Nat) (w : World) : Calls Tryz.prog 221 #[.int .i32 (n : Int)] w fun e w' => e = .returned (.bool (Wd.cap n)) ∧ w' = w := by
  have c1 := fun W => within_walk n 65 90 W
  have c2 := fun W => within_walk n 48 57 W
  have c3 := eq_nat n 95
  unfold Wd.cap
  obtain ⟨b1, h1⟩ : ∃ b, (decide (65 ≤ n) && decide (n ≤ 90)) = b := ⟨_, rfl⟩
  obtain ⟨b2, h2⟩ : ∃ b, (decide (48 ≤ n) && decide (n ≤ 57)) = b := ⟨_, rfl⟩
  obtain ⟨b3, h3⟩ : ∃ b, (n == 95) = b := ⟨_, rfl⟩
  rw [h1] at c1
  rw [h2] at c2
  rw [h3] at c3
  rw [h1, h2, h3]
  have c3 : ((n : Int) == 95) = b3 := c3
  clear h1 h2 h3
  replace c1 := Aside0.mk c1
  replace c2 := Aside0.mk c2
  cases b1 with
  | true =>
    go_enter Tryz.func221, Tryz.ntmps221
    go_wp2_with (go_at_call 222; refine (c1.out _).mono ?_; clear c1; rintro e w' ⟨rfl, rfl⟩)
    go_ret
    exact ⟨rfl, rfl⟩
  | false =>
    cases b2 with
    | true =>
      go_enter Tryz.func221, Tryz.ntmps221
      go_wp2_with (go_at_call 222; (first | (refine (c1.out _).mono ?_; clear c1) | (refine (c2.out _).mono ?_; clear c2)); rintro e w' ⟨rfl, rfl⟩)
      go_ret
      exact ⟨rfl, rfl⟩
    | false =>
      go_enter Tryz.func221, Tryz.ntmps221
      go_wp2_with (go_at_call 222; (first | (refine (c1.out _).mono ?_; clear c1) | (refine (c2.out _).mono ?_; clear c2)); rintro e w' ⟨rfl, rfl⟩)
      go_ret
      exact ⟨by cases b3 <;> rfl, rfl⟩
set_option maxHeartbeats 1000000 in
theorem named_walk (n : Nat) (w : World) : Calls Tryz.prog 196 #[.int .i32 (n : Int)] w fun e w' => e = .returned (.bool (Wd.nam n)) ∧ w' = w := by
 have c1 := fun W => capital_walk n W
 have c2 := fun W => within_walk n 97 122 W
 have c3 : ((n : Int) == 46) = (n == 46) := eq_nat n 46
 have c4 : ((n : Int) == 45) = (n == 45) := eq_nat n 45
 unfold Wd.nam
 obtain ⟨b1, h1⟩ : ∃ b, Wd.cap n = b := ⟨_, rfl⟩
 obtain ⟨b2, h2⟩ : ∃ b, (decide (97 ≤ n) && decide (n ≤ 122)) = b := ⟨_, rfl⟩
 obtain ⟨b3, h3⟩ : ∃ b, (n == 46) = b := ⟨_, rfl⟩
 obtain ⟨b4, h4⟩ : ∃ b, (n == 45) = b := ⟨_, rfl⟩
 rw [h1] at c1
 rw [h2] at c2
 rw [h3] at c3
 rw [h4] at c4
 rw [h1, h2, h3, h4]
 clear h1 h2 h3 h4
 replace c1 := Aside0.mk c1
 replace c2 := Aside0.mk c2
 cases b1 <;> cases b2 <;> cases b3
 all_goals
  go_enter Tryz.func196, Tryz.ntmps196
  go_wp2_with (first | (go_at_call 221; refine (c1.out _).mono ?_; rintro e w' ⟨rfl, rfl⟩) | (go_at_call 222; refine (c2.out _).mono ?_; rintro e w' ⟨rfl, rfl⟩))
  go_ret
  exact ⟨by cases b4 <;> rfl, rfl⟩
theorem cap_high (n : Nat) (h : 128 ≤ n) : Wd.cap n = false := by
 unfold Wd.cap; simp; omega
theorem nam_high (n : Nat) (h : 128 ≤ n) : Wd.nam n = false := by
 unfold Wd.nam; rw [cap_high n h]; simp; omega
set_option maxHeartbeats 2000000 in
theorem all_nam (s : ByteArray) (hs : s.size ≤ 140737488351232) (w : World) : Calls Tryz.prog 195 #[.string s, .func (.func 196) #[] #[]] w fun e w' => e = .returned (.bool (Wd.okName Wd.nam s.data.toList)) ∧ Below w.heap.size w w' := by
  have hlen : s.data.toList.length = s.size := rfl
  have hend : Aside0 (∀ p, (∀ j, j < p → ∃ c : UInt8, s.data.toList[j]? = some c ∧ Wd.nam c.toNat = true) → p = s.size → Wd.okName Wd.nam s.data.toList = (!s.data.toList.isEmpty && decide (s.size ≤ 40))) := ⟨fun p h hp => by
    have : Wd.allOf Wd.nam s.data.toList = true := by
      unfold Wd.allOf
      rw [List.all_eq_true]
      intro c hc
      obtain ⟨j, hj, e⟩ := List.getElem_of_mem hc
      obtain ⟨c', h1, h2⟩ := h j (by rw [hp]; exact hj)
      rw [List.getElem?_eq_getElem hj, e] at h1
      rw [Option.some.inj h1]; exact h2
    unfold Wd.okName; rw [this, Bool.true_and, hlen]⟩
  have hbad : Aside0 (∀ (p : Nat) (c : UInt8), s.data.toList[p]? = some c → Wd.nam c.toNat = false → Wd.okName Wd.nam s.data.toList = false) := ⟨fun p c h1 h2 => by
    have : Wd.allOf Wd.nam s.data.toList = false := by
      unfold Wd.allOf
      rw [Bool.eq_false_iff]
      intro h
      rw [List.all_eq_true] at h
      rw [h c (List.mem_of_getElem? h1)] at h2
      cases h2
    unfold Wd.okName; rw [this]; rfl⟩
  have hstep : Aside0 (∀ p, p < s.size → _) := ⟨rune_step s⟩
  have hcall : Aside0 (∀ n W, _) := ⟨named_walk⟩
  go_enter Tryz.func195, Tryz.ntmps195
  go_wp2
  go_loopw [4] (fun v wr => ∃ p : Nat, v = .bool false ∧ p ≤ s.size ∧ wr = w.iter s p ∧ ∀ j, j < p → ∃ c : UInt8, s.data.toList[j]? = some c ∧ Wd.nam c.toNat = true) (fun _ wr => s.size - wr.iterPos w.heap.size)
  case atStart => exact ⟨0, rfl, by omega, rfl, fun j hj => by omega⟩
  case round =>
    obtain ⟨p, rfl, hp, rfl, hA⟩ := hrel
    replace hA := Aside0.mk hA
    by_cases hlt : p < s.size
    · have hnx := fun ty => run_next_any (P := Tryz.prog) w s p ty hlt
      rcases hstep.out p hlt with ⟨c, h1, h2, h3⟩ | ⟨r, wd, h3, h4, h5, h6, h7, h8⟩
      · rw [h3] at hnx
        obtain ⟨b, hb⟩ : ∃ b, Wd.nam c.toNat = b := ⟨_, rfl⟩
        have hc1 := hcall.out c.toNat
        rw [hb] at hc1
        replace hc1 := Aside0.mk hc1
        replace hb := Aside0.mk hb
        replace h2 := Aside0.mk h2
        clear h3
        cases b with
        | true =>
          go_wp2_with (go_at_call 196; refine (hc1.out _).mono ?_; rintro e w' ⟨rfl, rfl⟩)
          go_roundw
          case rel => exact ⟨p + 1, rfl, by omega, rfl, fun j hj => by
            by_cases e : j = p
            · subst e; exact ⟨c, h2.out, hb.out⟩
            · exact hA.out j (by omega)⟩
          case measure => simp; omega
        | false =>
          have hf := Aside0.mk (hbad.out p c h2.out hb.out)
          go_wp2_with (go_at_call 196; refine (hc1.out _).mono ?_; rintro e w' ⟨rfl, rfl⟩)
          go_ret
          exact ⟨by rw [hf.out]; rfl, (Below.refl _ _).alloc (Nat.le_refl _) _⟩
      · rw [h3] at hnx
        have hb : Wd.nam r = false := nam_high r h4
        have hc1 := hcall.out r
        rw [hb] at hc1
        replace hc1 := Aside0.mk hc1
        obtain ⟨c, g1, g2⟩ := h8 0 (by omega)
        have hf := Aside0.mk (hbad.out p c g1 (nam_high _ g2))
        clear h3 h8 hb g1 g2
        go_wp2_with (go_at_call 196; refine (hc1.out _).mono ?_; rintro e w' ⟨rfl, rfl⟩)
        go_ret
        exact ⟨by rw [hf.out]; rfl, (Below.refl _ _).alloc (Nat.le_refl _) _⟩
    · have hpe : Aside0 (p = s.size) := ⟨by omega⟩
      have hf := Aside0.mk (hend.out p hA.out hpe.out)
      have hne := fun ty => run_next_end (P := Tryz.prog) w s p ty (by omega)
      have hB : Below w.heap.size w (w.iter s p) := (Below.refl _ _).alloc (Nat.le_refl _) _
      by_cases he : s.data.toList = []
      · have he2 : s.toList = [] := by rw [ByteArray.toList_eq]; exact he
        go_wp2
        go_ret
        exact ⟨by rw [hf.out, he]; rfl, hB⟩
      · have he2 : (s.toList = []) = False := eq_false (by rw [ByteArray.toList_eq]; exact he)
        have he3 : s.data.toList.isEmpty = false := by rw [List.isEmpty_eq_false_iff]; exact he
        replace he3 := Aside0.mk he3
        go_wp2
        go_ret
        exact ⟨by rw [hf.out]; show Ending.returned (.bool (!s.toList.isEmpty && decide ((s.size : Int) ≤ 40))) = _; rw [ByteArray.toList_eq, show decide ((s.size : Int) ≤ 40) = decide (s.size ≤ 40) by rw [decide_eq_decide]; omega], hB⟩
set_option maxHeartbeats 1000000 in
theorem name_walk (s : ByteArray) (hs : s.size ≤ 140737488351232) (w : World) : Calls Tryz.prog 157 #[.string s] w fun e w' => e = .returned (.bool (Wd.okName Wd.nam s.data.toList)) ∧ Below w.heap.size w w' := by
 obtain ⟨b, hb⟩ : ∃ b, Wd.okName Wd.nam s.data.toList = b := ⟨_, rfl⟩
 have hc := all_nam s hs w
 rw [hb] at hc ⊢
 replace hc := Aside0.mk hc
 clear hb
 go_enter Tryz.func157, Tryz.ntmps157
 go_wp2_with (go_at_call 195; refine hc.out.mono ?_; rintro e w' ⟨rfl, hB⟩)
 go_ret
 exact ⟨rfl, hB⟩
end Go.Proofs.YtofklpphalalhaaGreatDoor
end
