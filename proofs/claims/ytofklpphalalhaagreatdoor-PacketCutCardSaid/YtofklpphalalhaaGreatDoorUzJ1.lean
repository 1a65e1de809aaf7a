/- Texts of this claim, joined: PAllx0, GivenC, GivenD. Each as it was, cut to what the claim uses. Conditions: each theorem's own. -/
import Derived.Test.YtofklpphalalhaaGreatDoorProg
import Derived.Below
import Derived.Deep.Draws
import Derived.Deep.AppendLies
import Derived.Maps.AppendAt
import Derived.OwnWalk
import Derived.Laws.BytesArg
import Derived.Laws.MakeOwn
import Derived.Laws.OwnMore
import Derived.Deep.OwnRows
import Derived.Tactics
import Derived.Lib.ConvBytes
import Derived.Laws.Slices
import Derived.WalkKit
import Derived.KernelRfl
import Derived.RowKit3
import Derived.Deep.LoopGhost
import Derived.Deep.QuietTactic
import Derived.BigQuiet
import Derived.WideLaws
import Derived.Deep.DeepCutAuto
import Derived.Deep.CutBlock
import Derived.Deep.RegionHeld3
import Derived.Laws.Rows
import Derived.Lib.AppendStr
import Derived.ArgAppend
import Derived.Laws.IdiomCopy
import Derived.OrdersHeld
import Derived.Laws.BitsLemmas
import Derived.RowKit
import Derived.Test.YtofklpphalalhaaGreatDoorUzJ0
import Derived.Lib.Hide
import Derived.Lib.Builder
section
-- Written by a program out of the translation, for several roots at once (set All). Not trusted: Lean checks it.
namespace Go.Proofs.YtofklpphalalhaaGreatDoor.PAll
open Go.RowKit Go.Proofs.YtofklpphalalhaaGreatDoorW.PrintWords Go.Proofs.YtofklpphalalhaaGreatDoorW.PrintLast Go.Proofs.YtofklpphalalhaaGreatDoorW.PrintMore
attribute [local go_sem] min2_int min_two
set_option linter.unusedVariables false
set_option linter.unusedSimpArgs false
def errW : Option Int → Value
  | none => .nilIface
  | some c => .iface 274 (.int .i64 c)
theorem errW_none : errW none = .nilIface := rfl
theorem errW_some (c : Int) : errW (some c) = .iface 274 (.int .i64 c) := rfl
theorem info3 : (Tryz.prog.info? 3).map (fun i => (i.zero, i.size, i.bytes)) = some (some (.int .i64 0), 1, 8) := by kernel_rfl
theorem info5 : (Tryz.prog.info? 5).map (fun i => (i.zero, i.size, i.bytes)) = some (some (.int .u8 0), 1, 1) := by kernel_rfl
theorem info38 : (Tryz.prog.info? 38).map (fun i => (i.zero, i.size, i.bytes)) = some (some (.agg #[(.int .i64 0), (.int .i64 0)]), 2, 16) := by kernel_rfl
theorem info128 : (Tryz.prog.info? 128).map (fun i => (i.zero, i.size, i.bytes)) = some (some (.agg #[(.int .i64 0), (.int .i64 0), (.int .i64 0), (.int .i64 0), (.int .i64 0), (.int .i64 0), (.int .i64 0)]), 7, 56) := by kernel_rfl
-- the values' own types
/-! #### struct type 128 -/
structure S128 where
  f0 : Int
  f1 : Int
  f2 : Int
  f3 : Int
  f4 : Int
  f5 : Int
  f6 : Int
def z128 : S128 := ⟨(0 : Int), (0 : Int), (0 : Int), (0 : Int), (0 : Int), (0 : Int), (0 : Int)⟩
def k128 : Kd S128 := Kd.iso (Kd.pair (Kd.int .i64) (Kd.pair (Kd.int .i64) (Kd.pair (Kd.int .i64) (Kd.pair (Kd.int .i64) (Kd.pair (Kd.int .i64) (Kd.pair (Kd.int .i64) (Kd.int .i64))))))) (fun x : S128 => (x.f0, x.f1, x.f2, x.f3, x.f4, x.f5, x.f6))
theorem k128_open {w : World} {x : S128} {cs : List Value} (h : k128.K w x cs) : cs = [.int .i64 x.f0, .int .i64 x.f1, .int .i64 x.f2, .int .i64 x.f3, .int .i64 x.f4, .int .i64 x.f5, .int .i64 x.f6] := by
  obtain ⟨_, _, rfl, rfl, ⟨_, _, rfl, rfl, ⟨_, _, rfl, rfl, ⟨_, _, rfl, rfl, ⟨_, _, rfl, rfl, ⟨_, _, rfl, rfl, rfl⟩⟩⟩⟩⟩⟩ := h
  exact rfl
theorem k128_mkM (w : World) (base : Nat) (ok : Nat → Prop) (x : S128)  : k128.M w base ok x [.int .i64 x.f0, .int .i64 x.f1, .int .i64 x.f2, .int .i64 x.f3, .int .i64 x.f4, .int .i64 x.f5, .int .i64 x.f6] := ⟨[.int .i64 x.f0], [.int .i64 x.f1, .int .i64 x.f2, .int .i64 x.f3, .int .i64 x.f4, .int .i64 x.f5, .int .i64 x.f6], rfl, rfl, ⟨[.int .i64 x.f1], [.int .i64 x.f2, .int .i64 x.f3, .int .i64 x.f4, .int .i64 x.f5, .int .i64 x.f6], rfl, rfl, ⟨[.int .i64 x.f2], [.int .i64 x.f3, .int .i64 x.f4, .int .i64 x.f5, .int .i64 x.f6], rfl, rfl, ⟨[.int .i64 x.f3], [.int .i64 x.f4, .int .i64 x.f5, .int .i64 x.f6], rfl, rfl, ⟨[.int .i64 x.f4], [.int .i64 x.f5, .int .i64 x.f6], rfl, rfl, ⟨[.int .i64 x.f5], [.int .i64 x.f6], rfl, rfl, rfl⟩⟩⟩⟩⟩⟩
def rd_T128 (xs : List S128) (i : Int) : S128 := xs.getD i.toNat z128
theorem at_T128 {w : World} {A : Option Addr} {n : Nat} {xs : List S128} (h : Kd.C k128 w A n xs) (i : Int) (h0 : 0 ≤ i) (h1 : i < n) : ∃ ad , A = some ad ∧ w.cell? (ad.add (i.toNat * 7)) = some (.int .i64 (rd_T128 xs i).f0) ∧ w.cell? ⟨(ad.add (i.toNat * 7)).block, (ad.add (i.toNat * 7)).off + 1, none⟩ = some (.int .i64 (rd_T128 xs i).f1) ∧ w.cell? ⟨(ad.add (i.toNat * 7)).block, (ad.add (i.toNat * 7)).off + 2, none⟩ = some (.int .i64 (rd_T128 xs i).f2) ∧ w.cell? ⟨(ad.add (i.toNat * 7)).block, (ad.add (i.toNat * 7)).off + 3, none⟩ = some (.int .i64 (rd_T128 xs i).f3) ∧ w.cell? ⟨(ad.add (i.toNat * 7)).block, (ad.add (i.toNat * 7)).off + 4, none⟩ = some (.int .i64 (rd_T128 xs i).f4) ∧ w.cell? ⟨(ad.add (i.toNat * 7)).block, (ad.add (i.toNat * 7)).off + 5, none⟩ = some (.int .i64 (rd_T128 xs i).f5) ∧ w.cell? ⟨(ad.add (i.toNat * 7)).block, (ad.add (i.toNat * 7)).off + 6, none⟩ = some (.int .i64 (rd_T128 xs i).f6) := by
  obtain ⟨ad, c, e, _, hK, hc0⟩ := Kd.C_get h z128 i h0 h1
  have hc : ∀ j u, c[j]? = some u → w.cell? (ad.add (i.toNat * 7 + j)) = some u := hc0
  obtain rfl := k128_open hK
  exact ⟨ad, e, hc 0 _ rfl, by rw [← add_field _ _ 1 (by omega)]; exact hc 1 _ rfl, by rw [← add_field _ _ 2 (by omega)]; exact hc 2 _ rfl, by rw [← add_field _ _ 3 (by omega)]; exact hc 3 _ rfl, by rw [← add_field _ _ 4 (by omega)]; exact hc 4 _ rfl, by rw [← add_field _ _ 5 (by omega)]; exact hc 5 _ rfl, by rw [← add_field _ _ 6 (by omega)]; exact hc 6 _ rfl⟩
def rd_L4 (xs : List (List Int)) (i : Int) : (List Int) := xs.getD i.toNat ([] : List Int)
theorem at_L4 {w : World} {A : Option Addr} {n : Nat} {xs : List (List Int)} (h : Kd.C (Kd.slice 3 (Kd.int .i64)) w A n xs) (i : Int) (h0 : 0 ≤ i) (h1 : i < n) : ∃ ad A0 c0, A = some ad ∧ w.cell? (ad.add i.toNat) = some (.slice A0 (rd_L4 xs i).length c0) ∧ (rd_L4 xs i).length ≤ c0 ∧ (Kd.int .i64).C w A0 (rd_L4 xs i).length (rd_L4 xs i) := by
  obtain ⟨ad, c, e, _, hK, hc0⟩ := Kd.C_get h ([] : List Int) i h0 h1
  have hc : ∀ j u, c[j]? = some u → w.cell? (ad.add (i.toNat * 1 + j)) = some u := hc0
  obtain ⟨A0, c0, rfl, l0, g0⟩ := hK
  exact ⟨ad, A0, c0, e, by have hq := hc 0 _ rfl; rwa [Nat.mul_one, Nat.add_zero] at hq, l0, g0⟩
/-! #### struct type 51 -/
/-! #### struct type 199 -/
/-! #### struct type 71 -/
structure S71 where
  f0 : Int
  f1 : Int
  f2 : Int
  f3 : Int
  f4 : Int
  f5 : Int
  f6 : Int
def z71 : S71 := ⟨(0 : Int), (0 : Int), (0 : Int), (0 : Int), (0 : Int), (0 : Int), (0 : Int)⟩
def k71 : Kd S71 := Kd.iso (Kd.pair (Kd.int .i64) (Kd.pair (Kd.int .i64) (Kd.pair (Kd.int .i64) (Kd.pair (Kd.int .i64) (Kd.pair (Kd.int .i64) (Kd.pair (Kd.int .i64) (Kd.int .i64))))))) (fun x : S71 => (x.f0, x.f1, x.f2, x.f3, x.f4, x.f5, x.f6))
theorem k71_open {w : World} {x : S71} {cs : List Value} (h : k71.K w x cs) : cs = [.int .i64 x.f0, .int .i64 x.f1, .int .i64 x.f2, .int .i64 x.f3, .int .i64 x.f4, .int .i64 x.f5, .int .i64 x.f6] := by
  obtain ⟨_, _, rfl, rfl, ⟨_, _, rfl, rfl, ⟨_, _, rfl, rfl, ⟨_, _, rfl, rfl, ⟨_, _, rfl, rfl, ⟨_, _, rfl, rfl, rfl⟩⟩⟩⟩⟩⟩ := h
  exact rfl
theorem k71_openM {w : World} {base : Nat} {ok : Nat → Prop} {x : S71} {cs : List Value} (h : k71.M w base ok x cs) : cs = [.int .i64 x.f0, .int .i64 x.f1, .int .i64 x.f2, .int .i64 x.f3, .int .i64 x.f4, .int .i64 x.f5, .int .i64 x.f6] := by
  obtain ⟨_, _, rfl, rfl, ⟨_, _, rfl, rfl, ⟨_, _, rfl, rfl, ⟨_, _, rfl, rfl, ⟨_, _, rfl, rfl, ⟨_, _, rfl, rfl, rfl⟩⟩⟩⟩⟩⟩ := h
  exact rfl
theorem k71_mk (w : World) (x : S71)  : k71.K w x [.int .i64 x.f0, .int .i64 x.f1, .int .i64 x.f2, .int .i64 x.f3, .int .i64 x.f4, .int .i64 x.f5, .int .i64 x.f6] := ⟨[.int .i64 x.f0], [.int .i64 x.f1, .int .i64 x.f2, .int .i64 x.f3, .int .i64 x.f4, .int .i64 x.f5, .int .i64 x.f6], rfl, rfl, ⟨[.int .i64 x.f1], [.int .i64 x.f2, .int .i64 x.f3, .int .i64 x.f4, .int .i64 x.f5, .int .i64 x.f6], rfl, rfl, ⟨[.int .i64 x.f2], [.int .i64 x.f3, .int .i64 x.f4, .int .i64 x.f5, .int .i64 x.f6], rfl, rfl, ⟨[.int .i64 x.f3], [.int .i64 x.f4, .int .i64 x.f5, .int .i64 x.f6], rfl, rfl, ⟨[.int .i64 x.f4], [.int .i64 x.f5, .int .i64 x.f6], rfl, rfl, ⟨[.int .i64 x.f5], [.int .i64 x.f6], rfl, rfl, rfl⟩⟩⟩⟩⟩⟩
theorem k71_mkM (w : World) (base : Nat) (ok : Nat → Prop) (x : S71)  : k71.M w base ok x [.int .i64 x.f0, .int .i64 x.f1, .int .i64 x.f2, .int .i64 x.f3, .int .i64 x.f4, .int .i64 x.f5, .int .i64 x.f6] := ⟨[.int .i64 x.f0], [.int .i64 x.f1, .int .i64 x.f2, .int .i64 x.f3, .int .i64 x.f4, .int .i64 x.f5, .int .i64 x.f6], rfl, rfl, ⟨[.int .i64 x.f1], [.int .i64 x.f2, .int .i64 x.f3, .int .i64 x.f4, .int .i64 x.f5, .int .i64 x.f6], rfl, rfl, ⟨[.int .i64 x.f2], [.int .i64 x.f3, .int .i64 x.f4, .int .i64 x.f5, .int .i64 x.f6], rfl, rfl, ⟨[.int .i64 x.f3], [.int .i64 x.f4, .int .i64 x.f5, .int .i64 x.f6], rfl, rfl, ⟨[.int .i64 x.f4], [.int .i64 x.f5, .int .i64 x.f6], rfl, rfl, ⟨[.int .i64 x.f5], [.int .i64 x.f6], rfl, rfl, rfl⟩⟩⟩⟩⟩⟩
def rd_T71 (xs : List S71) (i : Int) : S71 := xs.getD i.toNat z71
theorem at_T71 {w : World} {A : Option Addr} {n : Nat} {xs : List S71} (h : Kd.C k71 w A n xs) (i : Int) (h0 : 0 ≤ i) (h1 : i < n) : ∃ ad , A = some ad ∧ w.cell? (ad.add (i.toNat * 7)) = some (.int .i64 (rd_T71 xs i).f0) ∧ w.cell? ⟨(ad.add (i.toNat * 7)).block, (ad.add (i.toNat * 7)).off + 1, none⟩ = some (.int .i64 (rd_T71 xs i).f1) ∧ w.cell? ⟨(ad.add (i.toNat * 7)).block, (ad.add (i.toNat * 7)).off + 2, none⟩ = some (.int .i64 (rd_T71 xs i).f2) ∧ w.cell? ⟨(ad.add (i.toNat * 7)).block, (ad.add (i.toNat * 7)).off + 3, none⟩ = some (.int .i64 (rd_T71 xs i).f3) ∧ w.cell? ⟨(ad.add (i.toNat * 7)).block, (ad.add (i.toNat * 7)).off + 4, none⟩ = some (.int .i64 (rd_T71 xs i).f4) ∧ w.cell? ⟨(ad.add (i.toNat * 7)).block, (ad.add (i.toNat * 7)).off + 5, none⟩ = some (.int .i64 (rd_T71 xs i).f5) ∧ w.cell? ⟨(ad.add (i.toNat * 7)).block, (ad.add (i.toNat * 7)).off + 6, none⟩ = some (.int .i64 (rd_T71 xs i).f6) := by
  obtain ⟨ad, c, e, _, hK, hc0⟩ := Kd.C_get h z71 i h0 h1
  have hc : ∀ j u, c[j]? = some u → w.cell? (ad.add (i.toNat * 7 + j)) = some u := hc0
  obtain rfl := k71_open hK
  exact ⟨ad, e, hc 0 _ rfl, by rw [← add_field _ _ 1 (by omega)]; exact hc 1 _ rfl, by rw [← add_field _ _ 2 (by omega)]; exact hc 2 _ rfl, by rw [← add_field _ _ 3 (by omega)]; exact hc 3 _ rfl, by rw [← add_field _ _ 4 (by omega)]; exact hc 4 _ rfl, by rw [← add_field _ _ 5 (by omega)]; exact hc 5 _ rfl, by rw [← add_field _ _ 6 (by omega)]; exact hc 6 _ rfl⟩
/-! #### struct type 25 -/
structure S25 where
  f0 : ByteArray
  f1 : Int
  f2 : Int
  f3 : Int
  f4 : Int
  f5 : Int
  f6 : (List S71)
  f7 : (List Int)
def z25 : S25 := ⟨(⟨#[]⟩ : ByteArray), (0 : Int), (0 : Int), (0 : Int), (0 : Int), (0 : Int), ([] : List S71), ([] : List Int)⟩
/-! #### struct type 28 -/
/-! #### struct type 169 -/
structure S169 where
  f0 : Int
  f1 : Int
def z169 : S169 := ⟨(0 : Int), (0 : Int)⟩
def k169 : Kd S169 := Kd.iso (Kd.pair (Kd.int .i64) (Kd.int .i64)) (fun x : S169 => (x.f0, x.f1))
theorem k169_open {w : World} {x : S169} {cs : List Value} (h : k169.K w x cs) : cs = [.int .i64 x.f0, .int .i64 x.f1] := by
  obtain ⟨_, _, rfl, rfl, rfl⟩ := h
  exact rfl
theorem k169_mkM (w : World) (base : Nat) (ok : Nat → Prop) (x : S169)  : k169.M w base ok x [.int .i64 x.f0, .int .i64 x.f1] := ⟨[.int .i64 x.f0], [.int .i64 x.f1], rfl, rfl, rfl⟩
def rd_T169 (xs : List S169) (i : Int) : S169 := xs.getD i.toNat z169
theorem at_T169 {w : World} {A : Option Addr} {n : Nat} {xs : List S169} (h : Kd.C k169 w A n xs) (i : Int) (h0 : 0 ≤ i) (h1 : i < n) : ∃ ad , A = some ad ∧ w.cell? (ad.add (i.toNat * 2)) = some (.int .i64 (rd_T169 xs i).f0) ∧ w.cell? ⟨(ad.add (i.toNat * 2)).block, (ad.add (i.toNat * 2)).off + 1, none⟩ = some (.int .i64 (rd_T169 xs i).f1) := by
  obtain ⟨ad, c, e, _, hK, hc0⟩ := Kd.C_get h z169 i h0 h1
  have hc : ∀ j u, c[j]? = some u → w.cell? (ad.add (i.toNat * 2 + j)) = some u := hc0
  obtain rfl := k169_open hK
  exact ⟨ad, e, hc 0 _ rfl, by rw [← add_field _ _ 1 (by omega)]; exact hc 1 _ rfl⟩
/-! #### struct type 38 -/
structure S38 where
  f0 : Int
  f1 : Int
def z38 : S38 := ⟨(0 : Int), (0 : Int)⟩
def k38 : Kd S38 := Kd.iso (Kd.pair (Kd.int .i64) (Kd.int .i64)) (fun x : S38 => (x.f0, x.f1))
theorem k38_open {w : World} {x : S38} {cs : List Value} (h : k38.K w x cs) : cs = [.int .i64 x.f0, .int .i64 x.f1] := by
  obtain ⟨_, _, rfl, rfl, rfl⟩ := h
  exact rfl
theorem k38_mkM (w : World) (base : Nat) (ok : Nat → Prop) (x : S38)  : k38.M w base ok x [.int .i64 x.f0, .int .i64 x.f1] := ⟨[.int .i64 x.f0], [.int .i64 x.f1], rfl, rfl, rfl⟩
def rd_T38 (xs : List S38) (i : Int) : S38 := xs.getD i.toNat z38
theorem at_T38 {w : World} {A : Option Addr} {n : Nat} {xs : List S38} (h : Kd.C k38 w A n xs) (i : Int) (h0 : 0 ≤ i) (h1 : i < n) : ∃ ad , A = some ad ∧ w.cell? (ad.add (i.toNat * 2)) = some (.int .i64 (rd_T38 xs i).f0) ∧ w.cell? ⟨(ad.add (i.toNat * 2)).block, (ad.add (i.toNat * 2)).off + 1, none⟩ = some (.int .i64 (rd_T38 xs i).f1) := by
  obtain ⟨ad, c, e, _, hK, hc0⟩ := Kd.C_get h z38 i h0 h1
  have hc : ∀ j u, c[j]? = some u → w.cell? (ad.add (i.toNat * 2 + j)) = some u := hc0
  obtain rfl := k38_open hK
  exact ⟨ad, e, hc 0 _ rfl, by rw [← add_field _ _ 1 (by omega)]; exact hc 1 _ rfl⟩
def rd_L17 (xs : List (List S38)) (i : Int) : (List S38) := xs.getD i.toNat ([] : List S38)
theorem at_L17 {w : World} {A : Option Addr} {n : Nat} {xs : List (List S38)} (h : Kd.C (Kd.slice 38 k38) w A n xs) (i : Int) (h0 : 0 ≤ i) (h1 : i < n) : ∃ ad A0 c0, A = some ad ∧ w.cell? (ad.add i.toNat) = some (.slice A0 (rd_L17 xs i).length c0) ∧ (rd_L17 xs i).length ≤ c0 ∧ k38.C w A0 (rd_L17 xs i).length (rd_L17 xs i) := by
  obtain ⟨ad, c, e, _, hK, hc0⟩ := Kd.C_get h ([] : List S38) i h0 h1
  have hc : ∀ j u, c[j]? = some u → w.cell? (ad.add (i.toNat * 1 + j)) = some u := hc0
  obtain ⟨A0, c0, rfl, l0, g0⟩ := hK
  exact ⟨ad, A0, c0, e, by have hq := hc 0 _ rfl; rwa [Nat.mul_one, Nat.add_zero] at hq, l0, g0⟩
/-! #### struct type 79 -/
/-! #### struct type 148 -/
end Go.Proofs.YtofklpphalalhaaGreatDoor.PAll
end
section
namespace Go.Proofs.YtofklpphalalhaaGreatDoor
set_option linter.unusedVariables false
set_option linter.unusedSimpArgs false
open Go.RowKit Go.Proofs.YtofklpphalalhaaGreatDoor.PAll Go.Proofs.YtofklpphalalhaaGreatDoorW.PrintWords Go.Proofs.YtofklpphalalhaaGreatDoorW.PrintLast Go.Proofs.YtofklpphalalhaaGreatDoorW.PrintMore
namespace Cn
def btw (n a b : Int) : Bool := decide (a ≤ n ∧ n ≤ b)
/-- The place of the first one that is so; -1: none is. -/
def idx (p : Int → Bool) : Int → List Int → Int
  | _, [] => -1
  | i, x :: l => if p x = true then i else idx p (i + 1) l
theorem idx_any (p : Int → Bool) : ∀ (l : List Int) (i : Int), 0 ≤ i → (0 ≤ idx p i l ↔ l.any p = true) ∧ idx p i l < i + l.length + 1
  | [], i, hi => by simp [idx]; omega
  | x :: l, i, hi => by
    unfold idx
    have := idx_any p l (i + 1) (by omega)
    by_cases h : p x = true
    · rw [if_pos h]; simp [h, hi]; omega
    · rw [if_neg h]; simp only [List.any_cons, Bool.eq_false_iff.2 h, Bool.false_or, List.length_cons]; exact ⟨this.1, by omega⟩
theorem any_not (p : Int → Bool) : ∀ l : List Int, (!(l.any (fun n => !p n))) = l.all p
  | [] => rfl
  | x :: l => by simp only [List.any_cons, List.all_cons, Bool.not_or, Bool.not_not, any_not p l]
end Cn
theorem btw_walk (n a b : Int) (w : World) : Calls Tryz.prog 70 #[.int .i64 n, .int .i64 a, .int .i64 b] w fun e w' => e = .returned (.bool (Cn.btw n a b)) ∧ w = w' := by
  by_cases h1 : a ≤ n
  · by_cases h2 : n ≤ b
    · have hb : Cn.btw n a b = true := decide_eq_true ⟨h1, h2⟩
      rw [hb]; clear hb
      go_enter Tryz.func70, Tryz.ntmps70
      go_wp2
      go_ret
      exact ⟨rfl, rfl⟩
    · have hb : Cn.btw n a b = false := decide_eq_false fun h => h2 h.2
      rw [hb]; clear hb
      go_enter Tryz.func70, Tryz.ntmps70
      go_wp2
      go_ret
      exact ⟨rfl, rfl⟩
  · have hb : Cn.btw n a b = false := decide_eq_false fun h => h1 h.1
    rw [hb]; clear hb
    go_enter Tryz.func70, Tryz.ntmps70
    go_wp2
    go_ret
    exact ⟨rfl, rfl⟩
theorem int_cell {w : World} {A : Option Addr} {n : Nat} {l : List Int} (h : Kd.C (Kd.int .i64) w A n l) (k : Nat) (hk : k < l.length) : ∃ ad, A = some ad ∧ w.cell? (ad.add k) = some (.int .i64 (l.getD k 0)) := by
  obtain ⟨h1, _, h2⟩ := h
  obtain ⟨ad, e, hc⟩ := h2 (by omega)
  obtain ⟨c, hs, hr, hcell⟩ := hc k _ (List.getElem?_eq_getElem hk)
  refine ⟨ad, e, ?_⟩
  have hc1 : c = [.int .i64 l[k]] := hr
  subst hc1
  have := hcell 0 _ rfl
  rw [show k * (Kd.int .i64).sz + 0 = k from by show k * 1 + 0 = k; omega] at this
  rw [this, List.getD_eq_getElem?_getD, List.getElem?_eq_getElem hk]; rfl
theorem C_len {α : Type} {K : Kd α} {w : World} {A : Option Addr} {n : Nat} {l : List α} (h : Kd.C K w A n l) : l.length = n ∧ n ≤ 9223372036854775807 := ⟨h.1, h.2.1⟩
namespace Cn
def num (n : Int) : Bool := btw n 0 100000000
end Cn
theorem num1_walk (n : Int) (w : World) : Calls Tryz.prog 224 #[.int .i64 n] w fun e w' => e = .returned (.bool (!Cn.num n)) ∧ w = w' := by
  have hb := btw_walk n 0 100000000 w
  rw [show Cn.btw n 0 100000000 = Cn.num n from rfl] at hb
  generalize Cn.num n = b at hb
  have HB := Aside0.mk hb
  clear hb
  go_enter Tryz.func224, Tryz.ntmps224
  go_wp2_with fail
  refine HB.out.mono ?_
  rintro e w' ⟨rfl, rfl⟩
  cases b
  all_goals
    go_wp2
    go_ret
    exact ⟨rfl, rfl⟩
set_option maxHeartbeats 1000000 in
theorem num_index (A : Option Addr) (c : Nat) (l : List Int) (w : World) (hC : Kd.C (Kd.int .i64) w A l.length l) : Calls Tryz.prog 255 #[.slice A l.length c, .func (.func 224) #[] #[]] w fun e w' => e = .returned (.int .i64 (Cn.idx (fun n => !Cn.num n) 0 l)) ∧ w = w' := by
  have hl := (C_len hC).2
  have HC := Aside0.mk hC
  clear hC
  obtain ⟨r, hr⟩ : ∃ r, Cn.idx (fun n => !Cn.num n) 0 l = r := ⟨_, rfl⟩
  rw [hr]
  have HR := Aside0.mk hr
  clear hr
  go_enter Tryz.func255, Tryz.ntmps255
  go_wp2
  go_loop [8, 5] (fun i _ => ∃ k : Nat, k ≤ l.length ∧ i = .int .i64 k ∧ Aside0 (Cn.idx (fun n => !Cn.num n) k (l.drop k) = r)) (fun i _ => l.length - (intOf i).toNat)
  case atStart => exact ⟨0, Nat.zero_le _, rfl, HR⟩
  case round =>
    obtain ⟨k, hk, rfl, hg⟩ := hrel
    by_cases hlt : k < l.length
    · obtain ⟨ad, e, hc⟩ := int_cell HC.out k hlt
      subst e
      obtain ⟨x, hx⟩ : ∃ x, l.getD k 0 = x := ⟨_, rfl⟩
      have hdr : l.drop k = x :: l.drop (k + 1) := by
        rw [List.drop_eq_getElem_cons hlt, ← hx, List.getD_eq_getElem?_getD, List.getElem?_eq_getElem hlt]; rfl
      rw [hx] at hc
      have hw := num1_walk x w
      have hst := hg.out
      rw [hdr] at hst
      unfold Cn.idx at hst
      generalize hb : Cn.num x = b at hw hst
      have HW := Aside0.mk hw
      have HS := Aside0.mk hst
      clear hx hdr hw hst hg hb
      go_wp2_with fail
      refine HW.out.mono ?_
      rintro e w' ⟨rfl, rfl⟩
      cases b with
      | true =>
        have HS' : Aside0 (Cn.idx (fun n => !Cn.num n) ((k + 1 : Nat) : Int) (l.drop (k + 1)) = r) := ⟨by have := HS.out; simpa using this⟩
        clear HS HW
        go_wp2
        go_round
        case rel => exact ⟨k + 1, by omega, by go_num, HS'⟩
        case measure => simp [intOf]; omega
      | false =>
        have hre : (k : Int) = r := by have := HS.out; simpa using this
        have HRE := Aside0.mk hre
        clear HS HW hre
        go_wp2
        go_ret
        exact ⟨congrArg (fun r => Ending.returned (.int .i64 r)) HRE.out, rfl⟩
    · have hke : k = l.length := by omega
      have HS : Aside0 ((-1 : Int) = r) := ⟨by have := hg.out; rw [hke, List.drop_length] at this; exact this⟩
      have hd : decide (k < l.length) = false := decide_eq_false hlt
      clear hke hg
      go_wp2
      go_ret
      exact ⟨congrArg (fun r => Ending.returned (.int .i64 r)) HS.out, rfl⟩
theorem num_contains (A : Option Addr) (c : Nat) (l : List Int) (w : World) (hC : Kd.C (Kd.int .i64) w A l.length l) : Calls Tryz.prog 223 #[.slice A l.length c, .func (.func 224) #[] #[]] w fun e w' => e = .returned (.bool (l.any (fun n => !Cn.num n))) ∧ w = w' := by
  have hi := num_index A c l w hC
  have ha := Cn.idx_any (fun n => !Cn.num n) l 0 (Int.le_refl _)
  have hb : decide (0 ≤ Cn.idx (fun n => !Cn.num n) 0 l) = l.any (fun n => !Cn.num n) := by
    rw [Bool.eq_iff_iff, decide_eq_true_iff]; exact ha.1
  rw [← hb]
  generalize Cn.idx (fun n => !Cn.num n) 0 l = i at hi
  have HI := Aside0.mk hi
  clear hi ha hb hC
  go_enter Tryz.func223, Tryz.ntmps223
  go_wp2_with fail
  refine HI.out.mono ?_
  rintro e w' ⟨rfl, rfl⟩
  go_wp2
  go_ret
  exact ⟨rfl, rfl⟩
theorem num_walk (A : Option Addr) (c : Nat) (l : List Int) (w : World) (hC : Kd.C (Kd.int .i64) w A l.length l) : Calls Tryz.prog 197 #[.slice A l.length c] w fun e w' => e = .returned (.bool (l.all Cn.num)) ∧ w = w' := by
  have hi := num_contains A c l w hC
  have hb : (!(l.any (fun n => !Cn.num n))) = l.all Cn.num := Cn.any_not Cn.num l
  rw [← hb]
  generalize l.any (fun n => !Cn.num n) = b at hi
  have HI := Aside0.mk hi
  clear hi hb hC
  go_enter Tryz.func197, Tryz.ntmps197
  go_wp2_with fail
  refine HI.out.mono ?_
  rintro e w' ⟨rfl, rfl⟩
  cases b
  all_goals
    go_wp2
    go_ret
    exact ⟨rfl, rfl⟩
namespace Cn
def sgn (n : Int) : Bool := btw n (-100000000) 100000000
end Cn
theorem sgn1_walk (n : Int) (w : World) : Calls Tryz.prog 225 #[.int .i64 n] w fun e w' => e = .returned (.bool (!Cn.sgn n)) ∧ w = w' := by
  have hb := btw_walk n (-100000000) 100000000 w
  rw [show Cn.btw n (-100000000) 100000000 = Cn.sgn n from rfl] at hb
  generalize Cn.sgn n = b at hb
  have HB := Aside0.mk hb
  clear hb
  go_enter Tryz.func225, Tryz.ntmps225
  go_wp2_with fail
  refine HB.out.mono ?_
  rintro e w' ⟨rfl, rfl⟩
  cases b
  all_goals
    go_wp2
    go_ret
    exact ⟨rfl, rfl⟩
set_option maxHeartbeats 1000000 in
theorem sgn_index (A : Option Addr) (c : Nat) (l : List Int) (w : World) (hC : Kd.C (Kd.int .i64) w A l.length l) : Calls Tryz.prog 255 #[.slice A l.length c, .func (.func 225) #[] #[]] w fun e w' => e = .returned (.int .i64 (Cn.idx (fun n => !Cn.sgn n) 0 l)) ∧ w = w' := by
  have hl := (C_len hC).2
  have HC := Aside0.mk hC
  clear hC
  obtain ⟨r, hr⟩ : ∃ r, Cn.idx (fun n => !Cn.sgn n) 0 l = r := ⟨_, rfl⟩
  rw [hr]
  have HR := Aside0.mk hr
  clear hr
  go_enter Tryz.func255, Tryz.ntmps255
  go_wp2
  go_loop [8, 5] (fun i _ => ∃ k : Nat, k ≤ l.length ∧ i = .int .i64 k ∧ Aside0 (Cn.idx (fun n => !Cn.sgn n) k (l.drop k) = r)) (fun i _ => l.length - (intOf i).toNat)
  case atStart => exact ⟨0, Nat.zero_le _, rfl, HR⟩
  case round =>
    obtain ⟨k, hk, rfl, hg⟩ := hrel
    by_cases hlt : k < l.length
    · obtain ⟨ad, e, hc⟩ := int_cell HC.out k hlt
      subst e
      obtain ⟨x, hx⟩ : ∃ x, l.getD k 0 = x := ⟨_, rfl⟩
      have hdr : l.drop k = x :: l.drop (k + 1) := by
        rw [List.drop_eq_getElem_cons hlt, ← hx, List.getD_eq_getElem?_getD, List.getElem?_eq_getElem hlt]; rfl
      rw [hx] at hc
      have hw := sgn1_walk x w
      have hst := hg.out
      rw [hdr] at hst
      unfold Cn.idx at hst
      generalize hb : Cn.sgn x = b at hw hst
      have HW := Aside0.mk hw
      have HS := Aside0.mk hst
      clear hx hdr hw hst hg hb
      go_wp2_with fail
      refine HW.out.mono ?_
      rintro e w' ⟨rfl, rfl⟩
      cases b with
      | true =>
        have HS' : Aside0 (Cn.idx (fun n => !Cn.sgn n) ((k + 1 : Nat) : Int) (l.drop (k + 1)) = r) := ⟨by have := HS.out; simpa using this⟩
        clear HS HW
        go_wp2
        go_round
        case rel => exact ⟨k + 1, by omega, by go_num, HS'⟩
        case measure => simp [intOf]; omega
      | false =>
        have hre : (k : Int) = r := by have := HS.out; simpa using this
        have HRE := Aside0.mk hre
        clear HS HW hre
        go_wp2
        go_ret
        exact ⟨congrArg (fun r => Ending.returned (.int .i64 r)) HRE.out, rfl⟩
    · have hke : k = l.length := by omega
      have HS : Aside0 ((-1 : Int) = r) := ⟨by have := hg.out; rw [hke, List.drop_length] at this; exact this⟩
      have hd : decide (k < l.length) = false := decide_eq_false hlt
      clear hke hg
      go_wp2
      go_ret
      exact ⟨congrArg (fun r => Ending.returned (.int .i64 r)) HS.out, rfl⟩
theorem sgn_contains (A : Option Addr) (c : Nat) (l : List Int) (w : World) (hC : Kd.C (Kd.int .i64) w A l.length l) : Calls Tryz.prog 223 #[.slice A l.length c, .func (.func 225) #[] #[]] w fun e w' => e = .returned (.bool (l.any (fun n => !Cn.sgn n))) ∧ w = w' := by
  have hi := sgn_index A c l w hC
  have ha := Cn.idx_any (fun n => !Cn.sgn n) l 0 (Int.le_refl _)
  have hb : decide (0 ≤ Cn.idx (fun n => !Cn.sgn n) 0 l) = l.any (fun n => !Cn.sgn n) := by
    rw [Bool.eq_iff_iff, decide_eq_true_iff]; exact ha.1
  rw [← hb]
  generalize Cn.idx (fun n => !Cn.sgn n) 0 l = i at hi
  have HI := Aside0.mk hi
  clear hi ha hb hC
  go_enter Tryz.func223, Tryz.ntmps223
  go_wp2_with fail
  refine HI.out.mono ?_
  rintro e w' ⟨rfl, rfl⟩
  go_wp2
  go_ret
  exact ⟨rfl, rfl⟩
theorem sgn_walk (A : Option Addr) (c : Nat) (l : List Int) (w : World) (hC : Kd.C (Kd.int .i64) w A l.length l) : Calls Tryz.prog 198 #[.slice A l.length c] w fun e w' => e = .returned (.bool (l.all Cn.sgn)) ∧ w = w' := by
  have hi := sgn_contains A c l w hC
  have hb : (!(l.any (fun n => !Cn.sgn n))) = l.all Cn.sgn := Cn.any_not Cn.sgn l
  rw [← hb]
  generalize l.any (fun n => !Cn.sgn n) = b at hi
  have HI := Aside0.mk hi
  clear hi hb hC
  go_enter Tryz.func198, Tryz.ntmps198
  go_wp2_with fail
  refine HI.out.mono ?_
  rintro e w' ⟨rfl, rfl⟩
  cases b
  all_goals
    go_wp2
    go_ret
    exact ⟨rfl, rfl⟩
end Go.Proofs.YtofklpphalalhaaGreatDoor
end
section
namespace Go.Proofs.YtofklpphalalhaaGreatDoor
set_option linter.unusedVariables false
set_option linter.unusedSimpArgs false
open Go.RowKit Go.Proofs.YtofklpphalalhaaGreatDoor.PAll Go.Proofs.YtofklpphalalhaaGreatDoorW.PrintWords Go.Proofs.YtofklpphalalhaaGreatDoorW.PrintLast Go.Proofs.YtofklpphalalhaaGreatDoorW.PrintMore
namespace Cn
/-- An instance. -/
structure In where
  nm : ByteArray
  kind : Int
  metric : Int
  scale : Int
  cap : Int
  fleet : Int
  nodes : List S71
  mx : List Int
def timed (x : In) : Bool := x.kind != 1 && x.kind != 2
def limit (x : In) (n a b : Int) : Bool := if x.kind = 1 then n == 0 else btw n a b
def diagz (n : Nat) (m : List Int) : Bool := (List.range n).all fun i => m.getD (i * n + i) 0 == 0
def matrix (x : In) : Bool := if x.metric = 0 then (x.mx.length == x.nodes.length * x.nodes.length && (x.mx.all num && diagz x.nodes.length x.mx)) else x.mx.length == 0
theorem diagz_true {n : Nat} {m : List Int} (h : ∀ j, j < n → m.getD (j * n + j) 0 = 0) : diagz n m = true := by
  unfold diagz
  rw [List.all_eq_true]
  intro i hi
  simp only [beq_iff_eq]
  exact h i (List.mem_range.1 hi)
theorem diagz_false {n : Nat} {m : List Int} {j : Nat} (hj : j < n) (h : m.getD (j * n + j) 0 ≠ 0) : diagz n m = false := by
  rw [← Bool.not_eq_true]
  intro ht
  unfold diagz at ht
  rw [List.all_eq_true] at ht
  have := ht j (List.mem_range.2 hj)
  simp only [beq_iff_eq] at this
  exact h this
end Cn
/-- A looker lies in block kb. -/
def LK (w : World) (kb : Nat) (x : Cn.In) (v6 v7 v8 : Value) : Prop := w.heap[kb]? = some (.cells #[.string x.nm, .int .i64 x.kind, .int .i64 x.metric, .int .i64 x.scale, .int .i64 x.cap, .int .i64 x.fleet, v6, v7, v8] 206 (0, 0))
theorem LK.cell {w : World} {kb : Nat} {x : Cn.In} {v6 v7 v8 : Value} (h : LK w kb x v6 v7 v8) (j : Nat) (v : Value) (hj : (#[Value.string x.nm, .int .i64 x.kind, .int .i64 x.metric, .int .i64 x.scale, .int .i64 x.cap, .int .i64 x.fleet, v6, v7, v8])[j]? = some v) : w.cell? ⟨kb, j, none⟩ = some v := by
  rw [Lib.cell_of_heap h]; exact hj
section
variable {w : World} {kb : Nat} {x : Cn.In} {v6 v7 v8 : Value}
theorem LK.c0 (h : LK w kb x v6 v7 v8) : w.cell? ⟨kb, 0, none⟩ = some (.string x.nm) := h.cell 0 _ rfl
theorem LK.c1 (h : LK w kb x v6 v7 v8) : w.cell? ⟨kb, 1, none⟩ = some (.int .i64 x.kind) := h.cell 1 _ rfl
theorem LK.c2 (h : LK w kb x v6 v7 v8) : w.cell? ⟨kb, 2, none⟩ = some (.int .i64 x.metric) := h.cell 2 _ rfl
theorem LK.c3 (h : LK w kb x v6 v7 v8) : w.cell? ⟨kb, 3, none⟩ = some (.int .i64 x.scale) := h.cell 3 _ rfl
theorem LK.c4 (h : LK w kb x v6 v7 v8) : w.cell? ⟨kb, 4, none⟩ = some (.int .i64 x.cap) := h.cell 4 _ rfl
theorem LK.c5 (h : LK w kb x v6 v7 v8) : w.cell? ⟨kb, 5, none⟩ = some (.int .i64 x.fleet) := h.cell 5 _ rfl
theorem LK.c6 (h : LK w kb x v6 v7 v8) : w.cell? ⟨kb, 6, none⟩ = some v6 := h.cell 6 _ rfl
theorem LK.c7 (h : LK w kb x v6 v7 v8) : w.cell? ⟨kb, 7, none⟩ = some v7 := h.cell 7 _ rfl
theorem LK.c8 (h : LK w kb x v6 v7 v8) : w.cell? ⟨kb, 8, none⟩ = some v8 := h.cell 8 _ rfl
end
theorem LK.lt {w : World} {kb : Nat} {x : Cn.In} {v6 v7 v8 : Value} (h : LK w kb x v6 v7 v8) : kb < w.heap.size := (Array.getElem?_eq_some_iff.1 h).1
theorem LK.below {w w' : World} {kb : Nat} {x : Cn.In} {v6 v7 v8 : Value} (h : LK w kb x v6 v7 v8) (hb : Below w.heap.size w w') : LK w' kb x v6 v7 v8 := (hb.block kb h.lt).trans h
set_option maxHeartbeats 1000000 in
theorem timed_walk {w : World} {kb : Nat} {x : Cn.In} {v6 v7 v8 : Value} (h : LK w kb x v6 v7 v8) : Calls Tryz.prog 199 #[.pointer (some ⟨kb, 0, none⟩)] w fun e w' => e = .returned (.bool (Cn.timed x)) ∧ w = w' := by
  have c1 := h.c1
  have hT : Cn.timed x = (x.kind != 1 && x.kind != 2) := rfl
  rw [hT]
  clear h hT
  generalize x.kind = k at c1
  by_cases h1 : k = 1
  · subst h1
    go_enter Tryz.func199, Tryz.ntmps199
    go_wp2
    go_ret
    exact ⟨rfl, rfl⟩
  · have e1 : (k != 1) = true := by simpa using h1
    rw [e1]
    go_enter Tryz.func199, Tryz.ntmps199
    go_wp2
    go_ret
    exact ⟨rfl, rfl⟩
set_option maxHeartbeats 1000000 in
theorem limit_walk {w : World} {kb : Nat} {x : Cn.In} {v6 v7 v8 : Value} (h : LK w kb x v6 v7 v8) (n a b : Int) : Calls Tryz.prog 159 #[.pointer (some ⟨kb, 0, none⟩), .int .i64 n, .int .i64 a, .int .i64 b] w fun e w' => e = .returned (.bool (Cn.limit x n a b)) ∧ w = w' := by
  have c1 := h.c1
  have hT : Cn.limit x n a b = (if x.kind = 1 then n == 0 else Cn.btw n a b) := rfl
  rw [hT]
  clear h hT
  generalize x.kind = k at c1
  by_cases h1 : k = 1
  · subst h1
    rw [if_pos rfl]
    go_enter Tryz.func159, Tryz.ntmps159
    go_wp2
    go_ret
    exact ⟨rfl, rfl⟩
  · have e1 : (k == 1) = false := by simpa using h1
    rw [if_neg h1]
    have HB := Aside0.mk (btw_walk n a b w)
    generalize Cn.btw n a b = r at HB
    go_enter Tryz.func159, Tryz.ntmps159
    go_wp2_with fail
    refine HB.out.mono ?_
    rintro e w' ⟨rfl, rfl⟩
    go_wp2
    go_ret
    exact ⟨rfl, rfl⟩
set_option maxHeartbeats 2000000 in
theorem matrix_other {w : World} {kb : Nat} {x : Cn.In} {A6 A7 : Option Addr} {c6 c7 : Nat} {v8 : Value} (h : LK w kb x (.slice A6 x.nodes.length c6) (.slice A7 x.mx.length c7) v8) (hm : x.metric ≠ 0) : Calls Tryz.prog 160 #[.pointer (some ⟨kb, 0, none⟩)] w fun e w' => e = .returned (.bool (Cn.matrix x)) ∧ w = w' := by
  have c2 := h.c2
  have c6 := h.c6
  have c7 := h.c7
  have e2 : (x.metric != 0) = true := by simpa using hm
  have hT : Cn.matrix x = ((x.mx.length : Int) == 0) := by
    unfold Cn.matrix; rw [if_neg hm]; rw [Bool.eq_iff_iff]; simp
  have HT := Aside0.mk hT
  clear h hT hm
  go_enter Tryz.func160, Tryz.ntmps160
  go_wp2
  go_ret
  exact ⟨by rw [HT.out]; rfl, rfl⟩
set_option maxHeartbeats 4000000 in
theorem matrix_full {w : World} {kb : Nat} {x : Cn.In} {A6 A7 : Option Addr} {c6 c7 : Nat} {v8 : Value} (h : LK w kb x (.slice A6 x.nodes.length c6) (.slice A7 x.mx.length c7) v8) (hm : x.metric = 0) (hn : x.nodes.length ≤ 400) (hC : Kd.C (Kd.int .i64) w A7 x.mx.length x.mx) : Calls Tryz.prog 160 #[.pointer (some ⟨kb, 0, none⟩)] w fun e w' => e = .returned (.bool (Cn.matrix x)) ∧ w = w' := by
  have c2 := h.c2
  have c6 := h.c6
  have c7' := h.c7
  rw [hm] at c2
  obtain ⟨n, hnn⟩ : ∃ n, x.nodes.length = n := ⟨_, rfl⟩
  obtain ⟨m, hmm⟩ : ∃ m, x.mx = m := ⟨_, rfl⟩
  have hT : Cn.matrix x = (m.length == n * n && (m.all Cn.num && Cn.diagz n m)) := by unfold Cn.matrix; rw [if_pos hm, hnn, hmm]
  rw [hT]
  rw [hnn] at c6 hn
  rw [hmm] at c7' hC
  clear h hT hm hnn hmm
  have hN := num_walk A7 c7 m w hC
  have hml := (C_len hC).2
  have hnn0 : n * n ≤ 160000 := Nat.mul_le_mul hn hn
  obtain ⟨q, hq⟩ : ∃ q, n * n = q := ⟨_, rfl⟩
  have hmul : (n : Int) * (n : Int) = (q : Int) := by rw [← hq, ← Int.natCast_mul]
  by_cases hl : m.length = q
  · have e3 : decide (m.length = q) = true := decide_eq_true hl
    have e4 : ((m.length : Int) != (q : Int)) = false := by simp [hl]
    have e5 : (m.length != q) = false := by simp [hl]
    have hqb : q ≤ 160000 := by omega
    rw [show (m.length == n * n) = true by simpa [hq] using hl, Bool.true_and]
    cases hb : m.all Cn.num with
    | false =>
      rw [hb] at hN
      have HN := Aside0.mk hN
      have HH := Aside0.mk (And.intro hl hq)
      clear hN hC hb hl hq
      rw [Bool.false_and]
      go_enter Tryz.func160, Tryz.ntmps160
      go_wp2_with (first | ((with_reducible refine HN.out.mono ?_); rintro e w' ⟨rfl, rfl⟩))
      go_ret
      exact ⟨rfl, rfl⟩
    | true =>
      rw [hb] at hN
      have HN := Aside0.mk hN
      have HH := Aside0.mk (And.intro hl hq)
      have HC := Aside0.mk hC
      clear hN hC hb hl hq
      rw [Bool.true_and]
      go_enter Tryz.func160, Tryz.ntmps160
      go_wp2_with (first | ((with_reducible refine HN.out.mono ?_); rintro e w' ⟨rfl, rfl⟩))
      go_loop [44, 4] (fun i _ => ∃ k : Nat, k ≤ n ∧ i = .int .i64 k ∧ Aside0 (∀ j, j < k → m.getD (j * n + j) 0 = 0)) (fun i _ => n - (intOf i).toNat)
      case atStart => exact ⟨0, Nat.zero_le _, rfl, ⟨fun j hj => by omega⟩⟩
      case round =>
        obtain ⟨k, hk, rfl, hg⟩ := hrel
        by_cases hlt : k < n
        · obtain ⟨p, hp⟩ : ∃ p, k * n = p := ⟨_, rfl⟩
          have hp1 : p + k < m.length := by
            obtain ⟨h1, h2⟩ := HH.out
            have h3 : (k + 1) * n ≤ n * n := Nat.mul_le_mul hlt (Nat.le_refl n)
            rw [Nat.add_mul, Nat.one_mul, hp] at h3
            omega
          have hpb : p ≤ 160000 := by
            obtain ⟨h1, h2⟩ := HH.out
            omega
          have hmk : (k : Int) * (n : Int) = (p : Int) := by rw [← hp, ← Int.natCast_mul]
          obtain ⟨ad, e, hc⟩ := int_cell HC.out (p + k) hp1
          subst e
          have hp1' : (p : Int) + (k : Int) < (m.length : Int) := by omega
          have htn : ((p : Int) + (k : Int)).toNat = p + k := by omega
          have HP := Aside0.mk hp
          obtain ⟨v, hv⟩ : ∃ v, m.getD (p + k) 0 = v := ⟨_, rfl⟩
          rw [hv] at hc
          have HV := Aside0.mk hv
          clear hp hv
          by_cases h0 : v = 0
          · subst h0
            go_wp2
            go_round
            case rel => exact ⟨k + 1, by omega, by go_num, ⟨fun j hj => by
              rcases Nat.lt_or_ge j k with h | h
              · exact hg.out j h
              · rw [show j = k by omega, HP.out]; exact HV.out⟩⟩
            case measure => simp [intOf]; omega
          · have hz : (v != 0) = true := by simpa using h0
            have HD : Aside0 (Cn.diagz n m = false) := ⟨Cn.diagz_false hlt (by rw [HP.out, HV.out]; exact h0)⟩
            clear h0
            go_wp2
            go_ret
            exact ⟨by rw [HD.out]; rfl, rfl⟩
        · have hke : k = n := by omega
          have HD : Aside0 (Cn.diagz n m = true) := ⟨Cn.diagz_true fun j hj => hg.out j (by omega)⟩
          have hd : decide (k < n) = false := decide_eq_false hlt
          clear hke hg
          go_wp2
          go_ret
          exact ⟨by rw [HD.out]; rfl, rfl⟩
  · have e4 : ((m.length : Int) != (q : Int)) = true := by simpa using (fun h => hl (by omega))
    have e5 : (m.length != q) = true := by simpa using hl
    have hqb : q ≤ 160000 := by omega
    rw [show (m.length == n * n) = false by simpa [hq] using hl, Bool.false_and]
    have HN := Aside0.mk hN
    have HH := Aside0.mk (And.intro hl hq)
    clear hN hC hl hq
    go_enter Tryz.func160, Tryz.ntmps160
    go_wp2
    go_ret
    exact ⟨rfl, rfl⟩
/-- The looker's matrix. -/
theorem matrix_walk {w : World} {kb : Nat} {x : Cn.In} {A6 A7 : Option Addr} {c6 c7 : Nat} {v8 : Value} (h : LK w kb x (.slice A6 x.nodes.length c6) (.slice A7 x.mx.length c7) v8) (hn : x.nodes.length ≤ 400) (hC : Kd.C (Kd.int .i64) w A7 x.mx.length x.mx) : Calls Tryz.prog 160 #[.pointer (some ⟨kb, 0, none⟩)] w fun e w' => e = .returned (.bool (Cn.matrix x)) ∧ w = w' := by
  by_cases hm : x.metric = 0
  · exact matrix_full h hm hn hC
  · exact matrix_other h hm
end Go.Proofs.YtofklpphalalhaaGreatDoor
end
