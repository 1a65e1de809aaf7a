/- jsonic's sign, walked by hand; strconv.ParseUint at four hex digits. Conditions: none beyond the texts' lengths. -/
import Derived.Test.YtainnkpoibgkcaaDoorGivenE
import Derived.Lib.Hide
import Derived.Lib.ConvBytes
import Derived.Lib.Walk
import Derived.Lib.Strings
namespace Go.Proofs.YtainnkpoibgkcaaDoor
set_option linter.unusedVariables false
set_option linter.unusedSimpArgs false
open Go.RowKit Go.Proofs.YtainnkpoibgkcaaDoor.PAll Go.Proofs.YtainnkpoibgkcaaDoorW.PrintWords Go.Proofs.YtainnkpoibgkcaaDoorW.PrintLast

namespace Js
def hexs : List UInt8 := [48, 49, 50, 51, 52, 53, 54, 55, 56, 57, 97, 98, 99, 100, 101, 102, 65, 66, 67, 68, 69, 70]
def isHex (c : UInt8) : Bool := hexs.contains c
/-- A hex digit's value. -/
def hexv (c : UInt8) : Nat := if c.toNat ≤ 57 then c.toNat - 48 else if c.toNat ≤ 70 then c.toNat - 55 else c.toNat - 87
def hexN (n : Nat) (l : List UInt8) : Nat := l.foldl (fun n c => 16 * n + hexv c) n
theorem hex_cases {c : UInt8} (h : isHex c = true) : (48 ≤ c.toNat ∧ c.toNat ≤ 57) ∨ (65 ≤ c.toNat ∧ c.toNat ≤ 70) ∨ (97 ≤ c.toNat ∧ c.toNat ≤ 102) := by
  simp only [isHex, hexs, List.contains_eq_mem, List.mem_cons, List.mem_nil_iff, or_false, decide_eq_true_eq] at h
  rcases h with rfl | rfl | rfl | rfl | rfl | rfl | rfl | rfl | rfl | rfl | rfl | rfl | rfl | rfl | rfl | rfl | rfl | rfl | rfl | rfl | rfl | rfl <;> decide
theorem hexv_lt {c : UInt8} (h : isHex c = true) : hexv c < 16 := by
  rcases hex_cases h with h | h | h <;> unfold hexv <;> split <;> (try split) <;> omega
theorem hexN_snoc (n : Nat) (l : List UInt8) (c : UInt8) : hexN n (l ++ [c]) = 16 * hexN n l + hexv c := by simp [hexN]
theorem low_up : ∀ k : Fin 6, Go.bits .or .u8 (65 + (k.val : Int)) 32 = 97 + (k.val : Int) := by decide
theorem low_low : ∀ k : Fin 6, Go.bits .or .u8 (97 + (k.val : Int)) 32 = 97 + (k.val : Int) := by decide
theorem lower_hex {c : UInt8} (h : (65 ≤ c.toNat ∧ c.toNat ≤ 70) ∨ (97 ≤ c.toNat ∧ c.toNat ≤ 102)) : Go.bits .or .u8 (c.toNat : Int) 32 = (hexv c : Int) + 87 := by
  unfold hexv
  rcases h with h | h
  · rw [if_neg (by omega), if_pos h.2]
    have := low_up ⟨c.toNat - 65, by omega⟩
    simp only at this
    rw [show (65 : Int) + ((c.toNat - 65 : Nat) : Int) = (c.toNat : Int) by omega] at this
    rw [this]; omega
  · rw [if_neg (by omega), if_neg (by omega)]
    have := low_low ⟨c.toNat - 97, by omega⟩
    simp only at this
    rw [show (97 : Int) + ((c.toNat - 97 : Nat) : Int) = (c.toNat : Int) by omega] at this
    rw [this]; omega
end Js
theorem lower_calls (c : Int) (w : World) : Calls Tryd.prog 82 #[.int .u8 c] w fun e w' => e = .returned (.int .u8 (Go.bits .or .u8 c 32)) ∧ w' = w := by
  go_enter Tryd.func82, Tryd.ntmps82
  go_wp2
  go_ret
  exact ⟨rfl, rfl⟩
set_option maxHeartbeats 8000000 in
set_option maxRecDepth 100000 in
theorem parse16 (t : ByteArray) (h4 : t.size = 4) (hx : ∀ c ∈ t.data.toList, Js.isHex c = true) (w : World) :
    Calls Tryd.prog 68 #[.string t, .int .i64 16, .int .i64 64] w fun e w' => e = .returned (.tuple #[.int .u64 (Js.hexN 0 t.data.toList : Nat), .nilIface]) ∧ Below w.heap.size w w' := by
  have hemp : t.toList.isEmpty = false := by
    rw [ByteArray.toList_eq, List.isEmpty_eq_false_iff]
    intro h
    have := congrArg List.length h
    rw [size_len, h4] at this; cases this
  have hcv := Lib.run_convert_string_bytes (P := Tryd.prog) w 9 48 5 t (u := .string) Tryd.underlying9 Tryd.underlying48 Tryd.underlying5
  have hB : ∀ j, j < t.size → (Lib.bytesWorld w 5 t).cell? ⟨w.heap.size, j, none⟩ = some (.int .u8 (t.data.toList.getD j 0).toNat) := fun j hj => Lib.bytesWorld_cell w 5 t j hj
  have hbel := Aside0.mk (Lib.bytesWorld_below w 5 t)
  obtain ⟨W1, hW1⟩ : ∃ W1, W1 = Lib.bytesWorld w 5 t := ⟨_, rfl⟩
  rw [← hW1] at hcv hB hbel
  clear hW1
  obtain ⟨bs, hL⟩ : ∃ bs, bs = t.data.toList := ⟨_, rfl⟩
  have hLn : bs.length = t.size := by rw [hL]; rfl
  rw [← hL] at hB hx ⊢
  clear hL
  replace hB := Aside0.mk hB
  replace hx := Aside0.mk hx
  replace hLn := Aside0.mk hLn
  rw [h4] at hcv hLn hB
  have hts : t.size = 4 := h4
  have hmv : IntKind.u64.wrap (IntKind.u64.wrap 18446744073709551616 - 1) = 18446744073709551615 := by
    rw [IntKind.wrap_u64, IntKind.wrap_u64]
    decide
  clear h4
  go_enter Tryd.func68, Tryd.ntmps68
  go_wp2
  go_loop [12, 13, 101] (fun vu vn vi => ∃ (k : Nat) (a : Int), vu = .bool false ∧ vn = .int .u64 a ∧ vi = .int .i64 k ∧ k ≤ 4 ∧ Hid (a = (Js.hexN 0 (bs.take k) : Int) ∧ Js.hexN 0 (bs.take k) < 16 ^ k))
    (fun _ _ vi => 4 - (intOf vi).toNat)
  case atStart => exact ⟨0, 0, rfl, rfl, rfl, by omega, by simp [Js.hexN], by simp [Js.hexN]⟩
  case round =>
    obtain ⟨k, a, rfl, rfl, rfl, hk, hh⟩ := hrel
    by_cases hkn : k < 4
    · have hlk : k < bs.length := by rw [hLn.out]; exact hkn
      have hc := hB.out k hkn
      have hget : bs.getD k 0 = bs[k]'hlk := by simp [List.getD, List.getElem?_eq_getElem hlk]
      rw [hget] at hc
      have hxc := hx.out _ (List.getElem_mem hlk)
      have hsn : Js.hexN 0 (bs.take (k + 1)) = 16 * Js.hexN 0 (bs.take k) + Js.hexv (bs[k]'hlk) := by
        rw [List.take_succ_eq_append_getElem hlk, Js.hexN_snoc]
      have hv16 := Js.hexv_lt hxc
      have h46 : 16 ^ k ≤ 4096 := by
        have : 16 ^ k ≤ 16 ^ 3 := Nat.pow_le_pow_right (by decide) (by omega)
        exact this
      have hp1 : 16 ^ (k + 1) = 16 * 16 ^ k := by rw [Nat.pow_succ, Nat.mul_comm]
      generalize bs[k]'hlk = c at hc hxc hsn hv16
      have ha0 : 0 ≤ a := by have := hh.out.1; omega
      have ha1 : a < 4096 := by have := hh.out; omega
      have HN : Hid (a * 16 + (Js.hexv c : Int) = (Js.hexN 0 (bs.take (k + 1)) : Int) ∧ Js.hexN 0 (bs.take (k + 1)) < 16 ^ (k + 1)) := Lib.hid (by have := hh.out; omega)
      clear hget hsn h46 hp1 hh hlk
      rcases Js.hex_cases hxc with hd | hd
      · have hd0 : (48 : Int) ≤ (c.toNat : Int) := by omega
        have hd1 : (c.toNat : Int) ≤ 57 := by omega
        have hv : (Js.hexv c : Int) = (c.toNat : Int) - 48 := by unfold Js.hexv; rw [if_pos hd.2]; omega
        rw [hv] at HN
        clear hv hxc hv16 hd
        go_wp2
        exact ⟨⟨k + 1, a * 16 + ((c.toNat : Int) - 48), rfl, rfl, by go_num, by omega, HN⟩, by simp [intOf]; omega⟩
      · have hl := Js.lower_hex hd
        obtain ⟨x, hxv⟩ : ∃ x, Js.hexv c = x := ⟨_, rfl⟩
        rw [hxv] at hl HN hv16
        have hx10 : 10 ≤ x := by
          rw [← hxv]; unfold Js.hexv; rcases hd with hd | hd
          · rw [if_neg (by omega), if_pos hd.2]; omega
          · rw [if_neg (by omega), if_neg (by omega)]; omega
        have hn57 : 57 < (c.toNat : Int) := by omega
        have hn48 : 48 ≤ (c.toNat : Int) := by omega
        have hne95 : ((c.toNat : Int) == 95) = false := by simp; omega
        have hlow := fun W => lower_calls (c.toNat : Int) W
        rw [hl] at hlow
        replace hlow := Aside0.mk hlow
        clear hl hxv hd hxc
        go_wp2_with (go_at_call 82; refine (hlow.out _).mono ?_; rintro e w' ⟨rfl, rfl⟩)
        exact ⟨⟨k + 1, a * 16 + (x : Int), rfl, by congr 1; omega, by go_num, by omega, HN⟩, by simp [intOf]; omega⟩
    · have hkk : k = 4 := by omega
      subst hkk
      have hfin : Js.hexN 0 bs = Js.hexN 0 (bs.take 4) := by rw [List.take_of_length_le (by rw [hLn.out]; exact Nat.le_refl _)]
      have ha := hh.out.1
      rw [← hfin] at ha
      replace ha := Aside0.mk ha
      have ha0 : 0 ≤ a := by have := hh.out.1; omega
      clear hfin hh
      go_wp2
      go_ret2
      exact ⟨by rw [ha.out]; rfl, hbel.out⟩
set_option maxHeartbeats 2000000 in
set_option maxRecDepth 100000 in
theorem parseUint16 (t : ByteArray) (h4 : t.size = 4) (hx : ∀ c ∈ t.data.toList, Js.isHex c = true) (w : World) :
    Calls Tryd.prog 55 #[.string t, .int .i64 16, .int .i64 64] w fun e w' => e = .returned (.tuple #[.int .u64 (Js.hexN 0 t.data.toList : Nat), .nilIface]) ∧ Below w.heap.size w w' := by
  have h := Aside0.mk (parse16 t h4 hx w)
  obtain ⟨n, hn⟩ : ∃ n, Js.hexN 0 t.data.toList = n := ⟨_, rfl⟩
  rw [hn] at h ⊢
  clear hn hx h4
  go_enter Tryd.func55, Tryd.ntmps55
  go_wp2_with (go_at_call 68; refine h.out.mono ?_; rintro e w' ⟨rfl, hb⟩; replace hb := Aside0.mk hb)
  go_ret2
  exact ⟨rfl, hb.out⟩
end Go.Proofs.YtainnkpoibgkcaaDoor
