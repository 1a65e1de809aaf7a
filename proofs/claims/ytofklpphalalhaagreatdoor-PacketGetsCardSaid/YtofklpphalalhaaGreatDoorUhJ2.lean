/- Texts of this claim, joined: GivenC, GivenD, GivenE. Each as it was, cut to what the claim uses. Conditions: each theorem's own. -/
import Derived.Test.YtofklpphalalhaaGreatDoorUhJ1
import Derived.Test.YtofklpphalalhaaGreatDoorUhJ0
import Derived.WalkKit
import Derived.KernelRfl
import Derived.Lib.Hide
import Derived.BigQuiet
import Derived.Lib.Builder
import Derived.Deep.QuietTactic
section
namespace Go.Proofs.YtofklpphalalhaaGreatDoor
set_option linter.unusedVariables false
set_option linter.unusedSimpArgs false
open Go.RowKit Go.Proofs.YtofklpphalalhaaGreatDoor.PAll Go.Proofs.YtofklpphalalhaaGreatDoorW.PrintWords Go.Proofs.YtofklpphalalhaaGreatDoorW.PrintLast Go.Proofs.YtofklpphalalhaaGreatDoorW.PrintMore
namespace Cn
def btw (n a b : Int) : Bool := decide (a ≤ n ∧ n ≤ b)
/-- The place of the first one that is so; -1: none is. -/
def idx (p : Int → Bool) : Int → List Int → Int
 | _, [] => -1
 | i, x :: l => if p x = true then i else idx p (i + 1) l
theorem idx_any (p : Int → Bool) : ∀ (l : List Int) (i : Int), 0 ≤ i → (0 ≤ idx p i l ↔ l.any p = true) ∧ idx p i l < i + l.length + 1
  | [], i, hi => by simp [idx]; omega
  | x :: l, i, hi => by
    unfold idx
    have := idx_any p l (i + 1) (by omega)
    by_cases h : p x = true
    · rw [if_pos h]; simp [h, hi]; omega
    · rw [if_neg h]; simp only [List.any_cons, Bool.eq_false_iff.2 h, Bool.false_or, List.length_cons]; exact ⟨this.1, by omega⟩
theorem any_not (p : Int → Bool) : ∀ l : List Int, (!(l.any (fun n => !p n))) = l.all p
 | [] => rfl
 | x :: l => by simp only [List.any_cons, List.all_cons, Bool.not_or, Bool.not_not, any_not p l]
end Cn
theorem btw_walk (n a b : Int) (w : World) : Calls Tryz.prog 70 #[.int .i64 n, .int .i64 a, .int .i64 b] w fun e w' => e = .returned (.bool (Cn.btw n a b)) ∧ w = w' := by
 by_cases h1 : a ≤ n
 ·by_cases h2 : n ≤ b
  ·have hb : Cn.btw n a b = true := decide_eq_true ⟨h1, h2⟩
   rw [hb]; clear hb
   go_enter Tryz.func70, Tryz.ntmps70
   go_wp2
   go_ret
   exact ⟨rfl, rfl⟩
  ·have hb : Cn.btw n a b = false := decide_eq_false fun h => h2 h.2
   rw [hb]; clear hb
   go_enter Tryz.func70, Tryz.ntmps70
   go_wp2
   go_ret
   exact ⟨rfl, rfl⟩
 ·have hb : Cn.btw n a b = false := decide_eq_false fun h => h1 h.1
  rw [hb]; clear hb
  go_enter Tryz.func70, Tryz.ntmps70
  go_wp2
  go_ret
  exact ⟨rfl, rfl⟩
theorem int_cell {w : World} {A : Option Addr} {n : Nat} {l : List Int} (h : Kd.C (Kd.int .i64) w A n l) (k : Nat) (hk : k < l.length) : ∃ ad, A = some ad ∧ w.cell? (ad.add k) = some (.int .i64 (l.getD k 0)) := by
 obtain ⟨h1, _, h2⟩ := h
 obtain ⟨ad, e, hc⟩ := h2 (by omega)
 obtain ⟨c, hs, hr, hcell⟩ := hc k _ (List.getElem?_eq_getElem hk)
 refine ⟨ad, e, ?_⟩
 have hc1 : c = [.int .i64 l[k]] := hr
 subst hc1
 have := hcell 0 _ rfl
 rw [show k * (Kd.int .i64).sz + 0 = k from by show k * 1 + 0 = k; omega] at this
 rw [this, List.getD_eq_getElem?_getD, List.getElem?_eq_getElem hk]; rfl
theorem C_len {α : Type} {K : Kd α} {w : World} {A : Option Addr} {n : Nat} {l : List α} (h : Kd.C K w A n l) : l.length = n ∧ n ≤ 9223372036854775807 := ⟨h.1, h.2.1⟩
namespace Cn
def num (n : Int) : Bool := btw n 0 100000000
end Cn
theorem num1_walk (n : Int) (w : World) : Calls Tryz.prog 224 #[.int .i64 n] w fun e w' => e = .returned (.bool (!Cn.num n)) ∧ w = w' := by
 have hb := btw_walk n 0 100000000 w
 rw [show Cn.btw n 0 100000000 = Cn.num n from rfl] at hb
 generalize Cn.num n = b at hb
 have HB := Aside0.mk hb
 clear hb
 go_enter Tryz.func224, Tryz.ntmps224
 go_wp2_with fail
 refine HB.out.mono ?_
 rintro e w' ⟨rfl, rfl⟩
 cases b
 all_goals
  go_wp2
  go_ret
  exact ⟨rfl, rfl⟩
set_option maxHeartbeats 1000000 in
theorem num_index (A : Option Addr) (c : Nat) (l : List Int) (w : World) (hC : Kd.C (Kd.int .i64) w A l.length l) : Calls Tryz.prog 255 #[.slice A l.length c, .func (.func 224) #[] #[]] w fun e w' => e = .returned (.int .i64 (Cn.idx (fun n => !Cn.num n) 0 l)) ∧ w = w' := by
  have hl := (C_len hC).2
  have HC := Aside0.mk hC
  clear hC
  obtain ⟨r, hr⟩ : ∃ r, Cn.idx (fun n => !Cn.num n) 0 l = r := ⟨_, rfl⟩
  rw [hr]
  have HR := Aside0.mk hr
  clear hr
  go_enter Tryz.func255, Tryz.ntmps255
  go_wp2
  go_loop [8, 5] (fun i _ => ∃ k : Nat, k ≤ l.length ∧ i = .int .i64 k ∧ Aside0 (Cn.idx (fun n => !Cn.num n) k (l.drop k) = r)) (fun i _ => l.length - (intOf i).toNat)
  case atStart => exact ⟨0, Nat.zero_le _, rfl, HR⟩
  case round =>
    obtain ⟨k, hk, rfl, hg⟩ := hrel
    by_cases hlt : k < l.length
    · obtain ⟨ad, e, hc⟩ := int_cell HC.out k hlt
      subst e
      obtain ⟨x, hx⟩ : ∃ x, l.getD k 0 = x := ⟨_, rfl⟩
      have hdr : l.drop k = x :: l.drop (k + 1) := by
        rw [List.drop_eq_getElem_cons hlt, ← hx, List.getD_eq_getElem?_getD, List.getElem?_eq_getElem hlt]; rfl
      rw [hx] at hc
      have hw := num1_walk x w
      have hst := hg.out
      rw [hdr] at hst
      unfold Cn.idx at hst
      generalize hb : Cn.num x = b at hw hst
      have HW := Aside0.mk hw
      have HS := Aside0.mk hst
      clear hx hdr hw hst hg hb
      go_wp2_with fail
      refine HW.out.mono ?_
      rintro e w' ⟨rfl, rfl⟩
      cases b with
      | true =>
        have HS' : Aside0 (Cn.idx (fun n => !Cn.num n) ((k + 1 : Nat) : Int) (l.drop (k + 1)) = r) := ⟨by have := HS.out; simpa using this⟩
        clear HS HW
        go_wp2
        go_round
        case rel => exact ⟨k + 1, by omega, by go_num, HS'⟩
        case measure => simp [intOf]; omega
      | false =>
        have hre : (k : Int) = r := by have := HS.out; simpa using this
        have HRE := Aside0.mk hre
        clear HS HW hre
        go_wp2
        go_ret
        exact ⟨congrArg (fun r => Ending.returned (.int .i64 r)) HRE.out, rfl⟩
    · have hke : k = l.length := by omega
      have HS : Aside0 ((-1 : Int) = r) := ⟨by have := hg.out; rw [hke, List.drop_length] at this; exact this⟩
      have hd : decide (k < l.length) = false := decide_eq_false hlt
      clear hke hg
      go_wp2
      go_ret
      exact ⟨congrArg (fun r => Ending.returned (.int .i64 r)) HS.out, rfl⟩
theorem num_contains (A : Option Addr) (c : Nat) (l : List Int) (w : World) (hC : Kd.C (Kd.int .i64) w A l.length l) : Calls Tryz.prog 223 #[.slice A l.length c, .func (.func 224) #[] #[]] w fun e w' => e = .returned (.bool (l.any (fun n => !Cn.num n))) ∧ w = w' := by
 have hi := num_index A c l w hC
 have ha := Cn.idx_any (fun n => !Cn.num n) l 0 (Int.le_refl _)
 have hb : decide (0 ≤ Cn.idx (fun n => !Cn.num n) 0 l) = l.any (fun n => !Cn.num n) := by
  rw [Bool.eq_iff_iff, decide_eq_true_iff]; exact ha.1
 rw [← hb]
 generalize Cn.idx (fun n => !Cn.num n) 0 l = i at hi
 have HI := Aside0.mk hi
 clear hi ha hb hC
 go_enter Tryz.func223, Tryz.ntmps223
 go_wp2_with fail
 refine HI.out.mono ?_
 rintro e w' ⟨rfl, rfl⟩
 go_wp2
 go_ret
 exact ⟨rfl, rfl⟩
theorem num_walk (A : Option Addr) (c : Nat) (l : List Int) (w : World) (hC : Kd.C (Kd.int .i64) w A l.length l) : Calls Tryz.prog 197 #[.slice A l.length c] w fun e w' => e = .returned (.bool (l.all Cn.num)) ∧ w = w' := by
 have hi := num_contains A c l w hC
 have hb : (!(l.any (fun n => !Cn.num n))) = l.all Cn.num := Cn.any_not Cn.num l
 rw [← hb]
 generalize l.any (fun n => !Cn.num n) = b at hi
 have HI := Aside0.mk hi
 clear hi hb hC
 go_enter Tryz.func197, Tryz.ntmps197
 go_wp2_with fail
 refine HI.out.mono ?_
 rintro e w' ⟨rfl, rfl⟩
 cases b
 all_goals
  go_wp2
  go_ret
  exact ⟨rfl, rfl⟩
namespace Cn
def sgn (n : Int) : Bool := btw n (-100000000) 100000000
end Cn
theorem sgn1_walk (n : Int) (w : World) : Calls Tryz.prog 225 #[.int .i64 n] w fun e w' => e = .returned (.bool (!Cn.sgn n)) ∧ w = w' := by
 have hb := btw_walk n (-100000000) 100000000 w
 rw [show Cn.btw n (-100000000) 100000000 = Cn.sgn n from rfl] at hb
 generalize Cn.sgn n = b at hb
 have HB := Aside0.mk hb
 clear hb
 go_enter Tryz.func225, Tryz.ntmps225
 go_wp2_with fail
 refine HB.out.mono ?_
 rintro e w' ⟨rfl, rfl⟩
 cases b
 all_goals
  go_wp2
  go_ret
  exact ⟨rfl, rfl⟩
set_option maxHeartbeats 1000000 in
theorem sgn_index (A : Option Addr) (c : Nat) (l : List Int) (w : World) (hC : Kd.C (Kd.int .i64) w A l.length l) : Calls Tryz.prog 255 #[.slice A l.length c, .func (.func 225) #[] #[]] w fun e w' => e = .returned (.int .i64 (Cn.idx (fun n => !Cn.sgn n) 0 l)) ∧ w = w' := by
  have hl := (C_len hC).2
  have HC := Aside0.mk hC
  clear hC
  obtain ⟨r, hr⟩ : ∃ r, Cn.idx (fun n => !Cn.sgn n) 0 l = r := ⟨_, rfl⟩
  rw [hr]
  have HR := Aside0.mk hr
  clear hr
  go_enter Tryz.func255, Tryz.ntmps255
  go_wp2
  go_loop [8, 5] (fun i _ => ∃ k : Nat, k ≤ l.length ∧ i = .int .i64 k ∧ Aside0 (Cn.idx (fun n => !Cn.sgn n) k (l.drop k) = r)) (fun i _ => l.length - (intOf i).toNat)
  case atStart => exact ⟨0, Nat.zero_le _, rfl, HR⟩
  case round =>
    obtain ⟨k, hk, rfl, hg⟩ := hrel
    by_cases hlt : k < l.length
    · obtain ⟨ad, e, hc⟩ := int_cell HC.out k hlt
      subst e
      obtain ⟨x, hx⟩ : ∃ x, l.getD k 0 = x := ⟨_, rfl⟩
      have hdr : l.drop k = x :: l.drop (k + 1) := by
        rw [List.drop_eq_getElem_cons hlt, ← hx, List.getD_eq_getElem?_getD, List.getElem?_eq_getElem hlt]; rfl
      rw [hx] at hc
      have hw := sgn1_walk x w
      have hst := hg.out
      rw [hdr] at hst
      unfold Cn.idx at hst
      generalize hb : Cn.sgn x = b at hw hst
      have HW := Aside0.mk hw
      have HS := Aside0.mk hst
      clear hx hdr hw hst hg hb
      go_wp2_with fail
      refine HW.out.mono ?_
      rintro e w' ⟨rfl, rfl⟩
      cases b with
      | true =>
        have HS' : Aside0 (Cn.idx (fun n => !Cn.sgn n) ((k + 1 : Nat) : Int) (l.drop (k + 1)) = r) := ⟨by have := HS.out; simpa using this⟩
        clear HS HW
        go_wp2
        go_round
        case rel => exact ⟨k + 1, by omega, by go_num, HS'⟩
        case measure => simp [intOf]; omega
      | false =>
        have hre : (k : Int) = r := by have := HS.out; simpa using this
        have HRE := Aside0.mk hre
        clear HS HW hre
        go_wp2
        go_ret
        exact ⟨congrArg (fun r => Ending.returned (.int .i64 r)) HRE.out, rfl⟩
    · have hke : k = l.length := by omega
      have HS : Aside0 ((-1 : Int) = r) := ⟨by have := hg.out; rw [hke, List.drop_length] at this; exact this⟩
      have hd : decide (k < l.length) = false := decide_eq_false hlt
      clear hke hg
      go_wp2
      go_ret
      exact ⟨congrArg (fun r => Ending.returned (.int .i64 r)) HS.out, rfl⟩
theorem sgn_contains (A : Option Addr) (c : Nat) (l : List Int) (w : World) (hC : Kd.C (Kd.int .i64) w A l.length l) : Calls Tryz.prog 223 #[.slice A l.length c, .func (.func 225) #[] #[]] w fun e w' => e = .returned (.bool (l.any (fun n => !Cn.sgn n))) ∧ w = w' := by
 have hi := sgn_index A c l w hC
 have ha := Cn.idx_any (fun n => !Cn.sgn n) l 0 (Int.le_refl _)
 have hb : decide (0 ≤ Cn.idx (fun n => !Cn.sgn n) 0 l) = l.any (fun n => !Cn.sgn n) := by
  rw [Bool.eq_iff_iff, decide_eq_true_iff]; exact ha.1
 rw [← hb]
 generalize Cn.idx (fun n => !Cn.sgn n) 0 l = i at hi
 have HI := Aside0.mk hi
 clear hi ha hb hC
 go_enter Tryz.func223, Tryz.ntmps223
 go_wp2_with fail
 refine HI.out.mono ?_
 rintro e w' ⟨rfl, rfl⟩
 go_wp2
 go_ret
 exact ⟨rfl, rfl⟩
theorem sgn_walk (A : Option Addr) (c : Nat) (l : List Int) (w : World) (hC : Kd.C (Kd.int .i64) w A l.length l) : Calls Tryz.prog 198 #[.slice A l.length c] w fun e w' => e = .returned (.bool (l.all Cn.sgn)) ∧ w = w' := by
 have hi := sgn_contains A c l w hC
 have hb : (!(l.any (fun n => !Cn.sgn n))) = l.all Cn.sgn := Cn.any_not Cn.sgn l
 rw [← hb]
 generalize l.any (fun n => !Cn.sgn n) = b at hi
 have HI := Aside0.mk hi
 clear hi hb hC
 go_enter Tryz.func198, Tryz.ntmps198
 go_wp2_with fail
 refine HI.out.mono ?_
 rintro e w' ⟨rfl, rfl⟩
 cases b
 all_goals
  go_wp2
  go_ret
  exact ⟨rfl, rfl⟩
end Go.Proofs.YtofklpphalalhaaGreatDoor
end
section
namespace Go.Proofs.YtofklpphalalhaaGreatDoor
set_option linter.unusedVariables false
set_option linter.unusedSimpArgs false
open Go.RowKit Go.Proofs.YtofklpphalalhaaGreatDoor.PAll Go.Proofs.YtofklpphalalhaaGreatDoorW.PrintWords Go.Proofs.YtofklpphalalhaaGreatDoorW.PrintLast Go.Proofs.YtofklpphalalhaaGreatDoorW.PrintMore
namespace Cn
/-- An instance. -/
structure In where
 nm : ByteArray
 kind : Int
 metric : Int
 scale : Int
 cap : Int
 fleet : Int
 nodes : List S71
 mx : List Int
def timed (x : In) : Bool := x.kind != 1 && x.kind != 2
def limit (x : In) (n a b : Int) : Bool := if x.kind = 1 then n == 0 else btw n a b
def diagz (n : Nat) (m : List Int) : Bool := (List.range n).all fun i => m.getD (i * n + i) 0 == 0
def matrix (x : In) : Bool := if x.metric = 0 then (x.mx.length == x.nodes.length * x.nodes.length && (x.mx.all num && diagz x.nodes.length x.mx)) else x.mx.length == 0
theorem diagz_true {n : Nat} {m : List Int} (h : ∀ j, j < n → m.getD (j * n + j) 0 = 0) : diagz n m = true := by
 unfold diagz
 rw [List.all_eq_true]
 intro i hi
 simp only [beq_iff_eq]
 exact h i (List.mem_range.1 hi)
theorem diagz_false {n : Nat} {m : List Int} {j : Nat} (hj : j < n) (h : m.getD (j * n + j) 0 ≠ 0) : diagz n m = false := by
 rw [← Bool.not_eq_true]
 intro ht
 unfold diagz at ht
 rw [List.all_eq_true] at ht
 have := ht j (List.mem_range.2 hj)
 simp only [beq_iff_eq] at this
 exact h this
end Cn
/-- A looker lies in block kb. -/
def LK (w : World) (kb : Nat) (x : Cn.In) (v6 v7 v8 : Value) : Prop := w.heap[kb]? = some (.cells #[.string x.nm, .int .i64 x.kind, .int .i64 x.metric, .int .i64 x.scale, .int .i64 x.cap, .int .i64 x.fleet, v6, v7, v8] 206 (0, 0))
theorem LK.cell {w : World} {kb : Nat} {x : Cn.In} {v6 v7 v8 : Value} (h : LK w kb x v6 v7 v8) (j : Nat) (v : Value) (hj : (#[Value.string x.nm, .int .i64 x.kind, .int .i64 x.metric, .int .i64 x.scale, .int .i64 x.cap, .int .i64 x.fleet, v6, v7, v8])[j]? = some v) : w.cell? ⟨kb, j, none⟩ = some v := by
 rw [Lib.cell_of_heap h]; exact hj
section
variable {w : World} {kb : Nat} {x : Cn.In} {v6 v7 v8 : Value}
theorem LK.c0 (h : LK w kb x v6 v7 v8) : w.cell? ⟨kb, 0, none⟩ = some (.string x.nm) := h.cell 0 _ rfl
theorem LK.c1 (h : LK w kb x v6 v7 v8) : w.cell? ⟨kb, 1, none⟩ = some (.int .i64 x.kind) := h.cell 1 _ rfl
theorem LK.c2 (h : LK w kb x v6 v7 v8) : w.cell? ⟨kb, 2, none⟩ = some (.int .i64 x.metric) := h.cell 2 _ rfl
theorem LK.c3 (h : LK w kb x v6 v7 v8) : w.cell? ⟨kb, 3, none⟩ = some (.int .i64 x.scale) := h.cell 3 _ rfl
theorem LK.c4 (h : LK w kb x v6 v7 v8) : w.cell? ⟨kb, 4, none⟩ = some (.int .i64 x.cap) := h.cell 4 _ rfl
theorem LK.c5 (h : LK w kb x v6 v7 v8) : w.cell? ⟨kb, 5, none⟩ = some (.int .i64 x.fleet) := h.cell 5 _ rfl
theorem LK.c6 (h : LK w kb x v6 v7 v8) : w.cell? ⟨kb, 6, none⟩ = some v6 := h.cell 6 _ rfl
theorem LK.c7 (h : LK w kb x v6 v7 v8) : w.cell? ⟨kb, 7, none⟩ = some v7 := h.cell 7 _ rfl
theorem LK.c8 (h : LK w kb x v6 v7 v8) : w.cell? ⟨kb, 8, none⟩ = some v8 := h.cell 8 _ rfl
end
theorem LK.lt {w : World} {kb : Nat} {x : Cn.In} {v6 v7 v8 : Value} (h : LK w kb x v6 v7 v8) : kb < w.heap.size := (Array.getElem?_eq_some_iff.1 h).1
theorem LK.below {w w' : World} {kb : Nat} {x : Cn.In} {v6 v7 v8 : Value} (h : LK w kb x v6 v7 v8) (hb : Below w.heap.size w w') : LK w' kb x v6 v7 v8 := (hb.block kb h.lt).trans h
set_option maxHeartbeats 1000000 in
theorem timed_walk {w : World} {kb : Nat} {x : Cn.In} {v6 v7 v8 : Value} (h : LK w kb x v6 v7 v8) : Calls Tryz.prog 199 #[.pointer (some ⟨kb, 0, none⟩)] w fun e w' => e = .returned (.bool (Cn.timed x)) ∧ w = w' := by
 have c1 := h.c1
 have hT : Cn.timed x = (x.kind != 1 && x.kind != 2) := rfl
 rw [hT]
 clear h hT
 generalize x.kind = k at c1
 by_cases h1 : k = 1
 ·subst h1
  go_enter Tryz.func199, Tryz.ntmps199
  go_wp2
  go_ret
  exact ⟨rfl, rfl⟩
 ·have e1 : (k != 1) = true := by simpa using h1
  rw [e1]
  go_enter Tryz.func199, Tryz.ntmps199
  go_wp2
  go_ret
  exact ⟨rfl, rfl⟩
set_option maxHeartbeats 1000000 in
theorem limit_walk {w : World} {kb : Nat} {x : Cn.In} {v6 v7 v8 : Value} (h : LK w kb x v6 v7 v8) (n a b : Int) : Calls Tryz.prog 159 #[.pointer (some ⟨kb, 0, none⟩), .int .i64 n, .int .i64 a, .int .i64 b] w fun e w' => e = .returned (.bool (Cn.limit x n a b)) ∧ w = w' := by
 have c1 := h.c1
 have hT : Cn.limit x n a b = (if x.kind = 1 then n == 0 else Cn.btw n a b) := rfl
 rw [hT]
 clear h hT
 generalize x.kind = k at c1
 by_cases h1 : k = 1
 ·subst h1
  rw [if_pos rfl]
  go_enter Tryz.func159, Tryz.ntmps159
  go_wp2
  go_ret
  exact ⟨rfl, rfl⟩
 ·have e1 : (k == 1) = false := by simpa using h1
  rw [if_neg h1]
  have HB := Aside0.mk (btw_walk n a b w)
  generalize Cn.btw n a b = r at HB
  go_enter Tryz.func159, Tryz.ntmps159
  go_wp2_with fail
  refine HB.out.mono ?_
  rintro e w' ⟨rfl, rfl⟩
  go_wp2
  go_ret
  exact ⟨rfl, rfl⟩
set_option maxHeartbeats 2000000 in
theorem matrix_other {w : World} {kb : Nat} {x : Cn.In} {A6 A7 : Option Addr} {c6 c7 : Nat} {v8 : Value} (h : LK w kb x (.slice A6 x.nodes.length c6) (.slice A7 x.mx.length c7) v8) (hm : x.metric ≠ 0) : Calls Tryz.prog 160 #[.pointer (some ⟨kb, 0, none⟩)] w fun e w' => e = .returned (.bool (Cn.matrix x)) ∧ w = w' := by
 have c2 := h.c2
 have c6 := h.c6
 have c7 := h.c7
 have e2 : (x.metric != 0) = true := by simpa using hm
 have hT : Cn.matrix x = ((x.mx.length : Int) == 0) := by
  unfold Cn.matrix; rw [if_neg hm]; rw [Bool.eq_iff_iff]; simp
 have HT := Aside0.mk hT
 clear h hT hm
 go_enter Tryz.func160, Tryz.ntmps160
 go_wp2
 go_ret
 exact ⟨by rw [HT.out]; rfl, rfl⟩
set_option maxHeartbeats 4000000 in
theorem matrix_full {w : World} {kb : Nat} {x : Cn.In} {A6 A7 : Option Addr} {c6 c7 : Nat} {v8 : Value} (h : LK w kb x (.slice A6 x.nodes.length c6) (.slice A7 x.mx.length c7) v8) (hm : x.metric = 0) (hn : x.nodes.length ≤ 400) (hC : Kd.C (Kd.int .i64) w A7 x.mx.length x.mx) : Calls Tryz.prog 160 #[.pointer (some ⟨kb, 0, none⟩)] w fun e w' => e = .returned (.bool (Cn.matrix x)) ∧ w = w' := by
  have c2 := h.c2
  have c6 := h.c6
  have c7' := h.c7
  rw [hm] at c2
  obtain ⟨n, hnn⟩ : ∃ n, x.nodes.length = n := ⟨_, rfl⟩
  obtain ⟨m, hmm⟩ : ∃ m, x.mx = m := ⟨_, rfl⟩
  have hT : Cn.matrix x = (m.length == n * n && (m.all Cn.num && Cn.diagz n m)) := by unfold Cn.matrix; rw [if_pos hm, hnn, hmm]
  rw [hT]
  rw [hnn] at c6 hn
  rw [hmm] at c7' hC
  clear h hT hm hnn hmm
  have hN := num_walk A7 c7 m w hC
  have hml := (C_len hC).2
  have hnn0 : n * n ≤ 160000 := Nat.mul_le_mul hn hn
  obtain ⟨q, hq⟩ : ∃ q, n * n = q := ⟨_, rfl⟩
  have hmul : (n : Int) * (n : Int) = (q : Int) := by rw [← hq, ← Int.natCast_mul]
  by_cases hl : m.length = q
  · have e3 : decide (m.length = q) = true := decide_eq_true hl
    have e4 : ((m.length : Int) != (q : Int)) = false := by simp [hl]
    have e5 : (m.length != q) = false := by simp [hl]
    have hqb : q ≤ 160000 := by omega
    rw [show (m.length == n * n) = true by simpa [hq] using hl, Bool.true_and]
    cases hb : m.all Cn.num with
    | false =>
      rw [hb] at hN
      have HN := Aside0.mk hN
      have HH := Aside0.mk (And.intro hl hq)
      clear hN hC hb hl hq
      rw [Bool.false_and]
      go_enter Tryz.func160, Tryz.ntmps160
      go_wp2_with (first | ((with_reducible refine HN.out.mono ?_); rintro e w' ⟨rfl, rfl⟩))
      go_ret
      exact ⟨rfl, rfl⟩
    | true =>
      rw [hb] at hN
      have HN := Aside0.mk hN
      have HH := Aside0.mk (And.intro hl hq)
      have HC := Aside0.mk hC
      clear hN hC hb hl hq
      rw [Bool.true_and]
      go_enter Tryz.func160, Tryz.ntmps160
      go_wp2_with (first | ((with_reducible refine HN.out.mono ?_); rintro e w' ⟨rfl, rfl⟩))
      go_loop [44, 4] (fun i _ => ∃ k : Nat, k ≤ n ∧ i = .int .i64 k ∧ Aside0 (∀ j, j < k → m.getD (j * n + j) 0 = 0)) (fun i _ => n - (intOf i).toNat)
      case atStart => exact ⟨0, Nat.zero_le _, rfl, ⟨fun j hj => by omega⟩⟩
      case round =>
        obtain ⟨k, hk, rfl, hg⟩ := hrel
        by_cases hlt : k < n
        · obtain ⟨p, hp⟩ : ∃ p, k * n = p := ⟨_, rfl⟩
          have hp1 : p + k < m.length := by
            obtain ⟨h1, h2⟩ := HH.out
            have h3 : (k + 1) * n ≤ n * n := Nat.mul_le_mul hlt (Nat.le_refl n)
            rw [Nat.add_mul, Nat.one_mul, hp] at h3
            omega
          have hpb : p ≤ 160000 := by
            obtain ⟨h1, h2⟩ := HH.out
            omega
          have hmk : (k : Int) * (n : Int) = (p : Int) := by rw [← hp, ← Int.natCast_mul]
          obtain ⟨ad, e, hc⟩ := int_cell HC.out (p + k) hp1
          subst e
          have hp1' : (p : Int) + (k : Int) < (m.length : Int) := by omega
          have htn : ((p : Int) + (k : Int)).toNat = p + k := by omega
          have HP := Aside0.mk hp
          obtain ⟨v, hv⟩ : ∃ v, m.getD (p + k) 0 = v := ⟨_, rfl⟩
          rw [hv] at hc
          have HV := Aside0.mk hv
          clear hp hv
          by_cases h0 : v = 0
          · subst h0
            go_wp2
            go_round
            case rel => exact ⟨k + 1, by omega, by go_num, ⟨fun j hj => by
              rcases Nat.lt_or_ge j k with h | h
              · exact hg.out j h
              · rw [show j = k by omega, HP.out]; exact HV.out⟩⟩
            case measure => simp [intOf]; omega
          · have hz : (v != 0) = true := by simpa using h0
            have HD : Aside0 (Cn.diagz n m = false) := ⟨Cn.diagz_false hlt (by rw [HP.out, HV.out]; exact h0)⟩
            clear h0
            go_wp2
            go_ret
            exact ⟨by rw [HD.out]; rfl, rfl⟩
        · have hke : k = n := by omega
          have HD : Aside0 (Cn.diagz n m = true) := ⟨Cn.diagz_true fun j hj => hg.out j (by omega)⟩
          have hd : decide (k < n) = false := decide_eq_false hlt
          clear hke hg
          go_wp2
          go_ret
          exact ⟨by rw [HD.out]; rfl, rfl⟩
  · have e4 : ((m.length : Int) != (q : Int)) = true := by simpa using (fun h => hl (by omega))
    have e5 : (m.length != q) = true := by simpa using hl
    have hqb : q ≤ 160000 := by omega
    rw [show (m.length == n * n) = false by simpa [hq] using hl, Bool.false_and]
    have HN := Aside0.mk hN
    have HH := Aside0.mk (And.intro hl hq)
    clear hN hC hl hq
    go_enter Tryz.func160, Tryz.ntmps160
    go_wp2
    go_ret
    exact ⟨rfl, rfl⟩
/-- The looker's matrix. -/
theorem matrix_walk {w : World} {kb : Nat} {x : Cn.In} {A6 A7 : Option Addr} {c6 c7 : Nat} {v8 : Value} (h : LK w kb x (.slice A6 x.nodes.length c6) (.slice A7 x.mx.length c7) v8) (hn : x.nodes.length ≤ 400) (hC : Kd.C (Kd.int .i64) w A7 x.mx.length x.mx) : Calls Tryz.prog 160 #[.pointer (some ⟨kb, 0, none⟩)] w fun e w' => e = .returned (.bool (Cn.matrix x)) ∧ w = w' := by
 by_cases hm : x.metric = 0
 ·exact matrix_full h hm hn hC
 ·exact matrix_other h hm
end Go.Proofs.YtofklpphalalhaaGreatDoor
end
section
namespace Go.Proofs.YtofklpphalalhaaGreatDoor
set_option linter.unusedVariables false
set_option linter.unusedSimpArgs false
open Go.RowKit Go.Proofs.YtofklpphalalhaaGreatDoor.PAll Go.Proofs.YtofklpphalalhaaGreatDoorW.PrintWords Go.Proofs.YtofklpphalalhaaGreatDoorW.PrintLast Go.Proofs.YtofklpphalalhaaGreatDoorW.PrintMore
namespace Cn
def coord (x : In) (d : S71) : Bool := (sgn d.f0 && sgn d.f1) && (x.metric != 0 || bits .or .i64 d.f0 d.f1 == 0)
def demand (x : In) (d : S71) (i : Int) : Bool := if x.kind = 1 ∨ i = 0 then d.f2 == 0 else if x.kind = 4 then sgn d.f2 else num d.f2
def window (x : In) (d : S71) : Bool := if timed x = true then (num d.f3 && num d.f4) && decide (d.f3 ≤ d.f4) else bits .or .i64 d.f3 d.f4 == 0
def service (x : In) (d : S71) : Bool := if timed x = true then num d.f5 else d.f5 == 0
def nodeAt (x : In) (m : Int) : S71 := rd_T71 x.nodes m
def mate (x : In) (d : S71) (i : Int) : Bool :=
 if x.kind ≠ 4 ∨ i = 0 then d.f6 == 0
 else if ¬ (1 ≤ d.f6 ∧ d.f6 ≤ (x.nodes.length : Int) - 1) ∨ d.f6 = i then false
 else ((nodeAt x d.f6).f6 == i && d.f2 != 0) && (nodeAt x d.f6).f2 == wrap64 (-d.f2)
end Cn
/-- A node's cells; a node, as a value; one, as a value. -/
abbrev ncs (d : S71) : List Value := [.int .i64 d.f0, .int .i64 d.f1, .int .i64 d.f2, .int .i64 d.f3, .int .i64 d.f4, .int .i64 d.f5, .int .i64 d.f6]
abbrev nodeV (d : S71) : Value := .agg #[.int .i64 d.f0, .int .i64 d.f1, .int .i64 d.f2, .int .i64 d.f3, .int .i64 d.f4, .int .i64 d.f5, .int .i64 d.f6]
abbrev oneV (kb : Nat) (d : S71) (i : Int) : Value := .agg #[.pointer (some ⟨kb, 0, none⟩), .int .i64 d.f0, .int .i64 d.f1, .int .i64 d.f2, .int .i64 d.f3, .int .i64 d.f4, .int .i64 d.f5, .int .i64 d.f6, .int .i64 i]
abbrev oneB (kb : Nat) (d : S71) (i : Int) : Obj := .cells #[.pointer (some ⟨kb, 0, none⟩), .int .i64 d.f0, .int .i64 d.f1, .int .i64 d.f2, .int .i64 d.f3, .int .i64 d.f4, .int .i64 d.f5, .int .i64 d.f6, .int .i64 i] 209
theorem C_lit (w : World) (n : Nat) (hn : w.heap.size = n) (l : List Int) (t : Nat) (hl : l.length ≤ 9223372036854775807) : Kd.C (Kd.int .i64) (w.alloc (.cells (l.map (Value.int .i64)).toArray t)) (some ⟨n, 0, none⟩) l.length l := by
  subst hn
  refine ⟨rfl, hl, fun _ => ⟨_, rfl, fun j p hp => ⟨[.int .i64 p], rfl, rfl, fun i u hu => ?_⟩⟩⟩
  have hj := (List.getElem?_eq_some_iff.1 hp).1
  match i, hu with
  | 0, hu =>
    obtain rfl : Value.int .i64 p = u := by simpa using hu
    show (w.alloc _).cell? ((⟨w.heap.size, 0, none⟩ : Addr).add (j * 1 + 0)) = _
    have ha : (⟨w.heap.size, 0, none⟩ : Addr).add (j * 1 + 0) = ⟨w.heap.size, j, none⟩ := by
      unfold Addr.add; split <;> simp_all
    rw [ha, World.cell?_alloc_new]
    simp [hp]
theorem below_two (w : World) (o o' : Obj) : Below w.heap.size w ((w.alloc o).alloc o') := ((Below.refl _ _).alloc (Nat.le_refl _) _).alloc (by simp) _
theorem below_one (w : World) (o : Obj) : Below w.heap.size w (w.alloc o) := (Below.refl _ _).alloc (Nat.le_refl _) _
set_option maxRecDepth 100000 in
set_option maxHeartbeats 4000000 in
theorem coord_walk {w : World} {kb : Nat} {x : Cn.In} {v6 v7 v8 : Value} (h : LK w kb x v6 v7 v8) (d : S71) (i : Int) : Calls Tryz.prog 161 #[oneV kb d i] w fun e w' => e = .returned (.bool (Cn.coord x d)) ∧ Below w.heap.size w w' := by
  have h1 := h.below (below_one w (oneB kb d i))
  have h2 := h1.below (below_one (w.alloc (oneB kb d i)) (.cells #[.int .i64 d.f0, .int .i64 d.f1] 3))
  have c2 := h2.c2
  have hT : Cn.coord x d = ([d.f0, d.f1].all Cn.sgn && (x.metric != 0 || bits .or .i64 d.f0 d.f1 == 0)) := by
    unfold Cn.coord; simp [List.all_cons]
  have hs := sgn_walk (some ⟨w.heap.size + 1, 0, none⟩) 2 [d.f0, d.f1] _ (C_lit (w.alloc (oneB kb d i)) (w.heap.size + 1) (by simp) [d.f0, d.f1] 3 (by simp))
  rw [hT]
  generalize [d.f0, d.f1].all Cn.sgn = b at hs
  generalize x.metric = m at c2
  obtain ⟨mb, hmb⟩ : ∃ mb, (m != 0) = mb := ⟨_, rfl⟩
  rw [hmb]
  have HS := Aside0.mk hs
  clear h h1 h2 hT hs
  unfold oneB at c2 HS
  simp only [List.map_cons, List.map_nil, List.length_cons, List.length_nil] at HS
  go_enter Tryz.func161, Tryz.ntmps161
  go_wp2_with fail
  refine HS.out.mono ?_
  rintro e w' ⟨rfl, rfl⟩
  cases b with
  | false =>
    go_wp2
    go_ret
    exact ⟨rfl, below_two _ _ _⟩
  | true =>
    cases mb
    all_goals
      go_wp2
      go_ret
      exact ⟨rfl, below_two _ _ _⟩
set_option maxRecDepth 100000 in
set_option maxHeartbeats 4000000 in
theorem demand_walk {w : World} {kb : Nat} {x : Cn.In} {v6 v7 v8 : Value} (h : LK w kb x v6 v7 v8) (d : S71) (i : Int) : Calls Tryz.prog 162 #[oneV kb d i] w fun e w' => e = .returned (.bool (Cn.demand x d i)) ∧ Below w.heap.size w w' := by
 have h1 := h.below (below_one w (oneB kb d i))
 have h2 := h1.below (below_one (w.alloc (oneB kb d i)) (.cells #[.int .i64 d.f2] 3))
 have c1 := h1.c1
 have hs := sgn_walk (some ⟨w.heap.size + 1, 0, none⟩) 1 [d.f2] _ (C_lit (w.alloc (oneB kb d i)) (w.heap.size + 1) (by simp) [d.f2] 3 (by simp))
 have hn := num_walk (some ⟨w.heap.size + 1, 0, none⟩) 1 [d.f2] _ (C_lit (w.alloc (oneB kb d i)) (w.heap.size + 1) (by simp) [d.f2] 3 (by simp))
 have hT : Cn.demand x d i = if x.kind = 1 ∨ i = 0 then d.f2 == 0 else if x.kind = 4 then [d.f2].all Cn.sgn else [d.f2].all Cn.num := by
  unfold Cn.demand; simp [List.all_cons]
 rw [hT]
 generalize [d.f2].all Cn.sgn = b at hs
 generalize [d.f2].all Cn.num = b2 at hn
 generalize x.kind = m at c1
 have HS := Aside0.mk hs
 have HN := Aside0.mk hn
 clear h h1 h2 hT hs hn
 unfold oneB at c1 HS HN
 simp only [List.map_cons, List.map_nil, List.length_cons, List.length_nil] at HS HN
 by_cases hm : m = 1
 ·subst hm
  rw [if_pos (.inl rfl)]
  go_enter Tryz.func162, Tryz.ntmps162
  go_wp2
  go_ret
  exact ⟨rfl, below_one _ _⟩
 ·have e1 : (m == 1) = false := by simpa using hm
  by_cases hi : i = 0
  ·subst hi
   rw [if_pos (.inr rfl)]
   go_enter Tryz.func162, Tryz.ntmps162
   go_wp2
   go_ret
   exact ⟨rfl, below_one _ _⟩
  ·have e2 : (i == 0) = false := by simpa using hi
   rw [if_neg (fun h => h.elim hm hi)]
   by_cases h4 : m = 4
   ·subst h4
    rw [if_pos rfl]
    clear hm e1 hi
    go_enter Tryz.func162, Tryz.ntmps162
    go_wp2_with fail
    refine HS.out.mono ?_
    rintro e w' ⟨rfl, rfl⟩
    go_wp2
    go_ret
    exact ⟨rfl, below_two _ _ _⟩
   ·have e3 : (m == 4) = false := by simpa using h4
    rw [if_neg h4]
    clear hm hi h4
    go_enter Tryz.func162, Tryz.ntmps162
    go_wp2_with fail
    refine HN.out.mono ?_
    rintro e w' ⟨rfl, rfl⟩
    go_wp2
    go_ret
    exact ⟨rfl, below_two _ _ _⟩
set_option maxRecDepth 100000 in
set_option maxHeartbeats 4000000 in
theorem service_walk {w : World} {kb : Nat} {x : Cn.In} {v6 v7 v8 : Value} (h : LK w kb x v6 v7 v8) (d : S71) (i : Int) : Calls Tryz.prog 164 #[oneV kb d i] w fun e w' => e = .returned (.bool (Cn.service x d)) ∧ Below w.heap.size w w' := by
  have h1 := h.below (below_one w (oneB kb d i))
  have ht := timed_walk h1
  have hn := num_walk (some ⟨w.heap.size + 1, 0, none⟩) 1 [d.f5] _ (C_lit (w.alloc (oneB kb d i)) (w.heap.size + 1) (by simp) [d.f5] 3 (by simp))
  have hT : Cn.service x d = if Cn.timed x = true then [d.f5].all Cn.num else d.f5 == 0 := by
    unfold Cn.service; simp [List.all_cons]
  rw [hT]
  generalize [d.f5].all Cn.num = b at hn
  generalize Cn.timed x = tb at ht
  have HT := Aside0.mk ht
  have HN := Aside0.mk hn
  clear h h1 hT ht hn
  unfold oneB at HT HN
  simp only [List.map_cons, List.map_nil, List.length_cons, List.length_nil] at HN
  go_enter Tryz.func164, Tryz.ntmps164
  go_wp2_with fail
  refine HT.out.mono ?_
  rintro e w' ⟨rfl, rfl⟩
  cases tb with
  | false =>
    go_wp2
    go_ret
    exact ⟨rfl, below_one _ _⟩
  | true =>
    go_wp2_with fail
    refine HN.out.mono ?_
    rintro e w' ⟨rfl, rfl⟩
    go_wp2
    go_ret
    exact ⟨rfl, below_two _ _ _⟩
set_option maxRecDepth 100000 in
set_option maxHeartbeats 4000000 in
theorem window_walk {w : World} {kb : Nat} {x : Cn.In} {v6 v7 v8 : Value} (h : LK w kb x v6 v7 v8) (d : S71) (i : Int) : Calls Tryz.prog 163 #[oneV kb d i] w fun e w' => e = .returned (.bool (Cn.window x d)) ∧ Below w.heap.size w w' := by
  have h1 := h.below (below_one w (oneB kb d i))
  have ht := timed_walk h1
  have hn := num_walk (some ⟨w.heap.size + 1, 0, none⟩) 2 [d.f3, d.f4] _ (C_lit (w.alloc (oneB kb d i)) (w.heap.size + 1) (by simp) [d.f3, d.f4] 3 (by simp))
  have hT : Cn.window x d = if Cn.timed x = true then [d.f3, d.f4].all Cn.num && decide (d.f3 ≤ d.f4) else bits .or .i64 d.f3 d.f4 == 0 := by
    unfold Cn.window; simp [List.all_cons]
  rw [hT]
  generalize [d.f3, d.f4].all Cn.num = b at hn
  generalize Cn.timed x = tb at ht
  have HT := Aside0.mk ht
  have HN := Aside0.mk hn
  clear h h1 hT ht hn
  unfold oneB at HT HN
  simp only [List.map_cons, List.map_nil, List.length_cons, List.length_nil] at HN
  go_enter Tryz.func163, Tryz.ntmps163
  go_wp2_with fail
  refine HT.out.mono ?_
  rintro e w' ⟨rfl, rfl⟩
  cases tb with
  | false =>
    go_wp2
    go_ret
    exact ⟨rfl, below_one _ _⟩
  | true =>
    go_wp2_with fail
    refine HN.out.mono ?_
    rintro e w' ⟨rfl, rfl⟩
    cases b
    all_goals
      go_wp2
      go_ret
      exact ⟨rfl, below_two _ _ _⟩
set_option maxRecDepth 100000 in
set_option maxHeartbeats 4000000 in
theorem mate_plain {w : World} {kb : Nat} {x : Cn.In} {v6 v7 v8 : Value} (h : LK w kb x v6 v7 v8) (d : S71) (i : Int) (hc : x.kind ≠ 4 ∨ i = 0) : Calls Tryz.prog 165 #[oneV kb d i] w fun e w' => e = .returned (.bool (Cn.mate x d i)) ∧ Below w.heap.size w w' := by
 have h1 := h.below (below_one w (oneB kb d i))
 have c1 := h1.c1
 have hT : Cn.mate x d i = (d.f6 == 0) := by unfold Cn.mate; rw [if_pos hc]
 rw [hT]
 generalize x.kind = m at c1 hc
 clear h h1 hT
 unfold oneB at c1
 by_cases h4 : m = 4
 ·subst h4
  obtain rfl : i = 0 := by rcases hc with h | h; exact absurd rfl h; exact h
  clear hc
  go_enter Tryz.func165, Tryz.ntmps165
  go_wp2
  go_ret
  exact ⟨rfl, below_one _ _⟩
 ·have e1 : (m != 4) = true := by simpa using h4
  clear hc h4
  go_enter Tryz.func165, Tryz.ntmps165
  go_wp2
  go_ret
  exact ⟨rfl, below_one _ _⟩
set_option maxRecDepth 100000 in
set_option maxHeartbeats 4000000 in
theorem mate_no {w : World} {kb : Nat} {x : Cn.In} {A6 : Option Addr} {c6 : Nat} {v7 v8 : Value} (h : LK w kb x (.slice A6 x.nodes.length c6) v7 v8) (d : S71) (i : Int) (hk : x.kind = 4) (hi : i ≠ 0) (hn : x.nodes.length ≤ 400) (hno : ¬ (1 ≤ d.f6 ∧ d.f6 ≤ (x.nodes.length : Int) - 1) ∨ d.f6 = i) : Calls Tryz.prog 165 #[oneV kb d i] w fun e w' => e = .returned (.bool (Cn.mate x d i)) ∧ Below w.heap.size w w' := by
  have h1 := h.below (below_one w (oneB kb d i))
  have c1 := h1.c1
  have c6 := h1.c6
  have hT : Cn.mate x d i = false := by unfold Cn.mate; rw [if_neg (fun h => h.elim (fun h => h hk) hi), if_pos hno]
  rw [hT]
  rw [hk] at c1
  obtain ⟨n, hnn⟩ : ∃ n, x.nodes.length = n := ⟨_, rfl⟩
  rw [hnn] at c6 hn hno
  have hb := btw_walk d.f6 1 ((n : Int) - 1) (w.alloc (oneB kb d i))
  have hbb : Cn.btw d.f6 1 ((n : Int) - 1) = true → (d.f6 == i) = true := fun hb => by
    rcases hno with h | h
    · exact absurd (of_decide_eq_true hb) h
    · simpa using h
  have e1 : (i == 0) = false := by simpa using hi
  generalize Cn.btw d.f6 1 ((n : Int) - 1) = b at hb hbb
  have HB := Aside0.mk hb
  clear h h1 hT hk hi hno hb hnn
  unfold oneB at c1 c6 HB
  cases b with
  | false =>
    clear hbb
    go_enter Tryz.func165, Tryz.ntmps165
    go_wp2_with fail
    refine HB.out.mono ?_
    rintro e w' ⟨rfl, rfl⟩
    go_wp2
    go_ret
    exact ⟨rfl, below_one _ _⟩
  | true =>
    have e2 := hbb rfl
    clear hbb
    go_enter Tryz.func165, Tryz.ntmps165
    go_wp2_with fail
    refine HB.out.mono ?_
    rintro e w' ⟨rfl, rfl⟩
    go_wp2
    go_ret
    exact ⟨rfl, below_one _ _⟩
set_option maxRecDepth 100000 in
set_option maxHeartbeats 4000000 in
theorem mate_yes {w : World} {kb : Nat} {x : Cn.In} {A6 : Option Addr} {c6 : Nat} {v7 v8 : Value} (h : LK w kb x (.slice A6 x.nodes.length c6) v7 v8) (hC : Kd.C k71 w A6 x.nodes.length x.nodes) (d : S71) (i : Int) (hk : x.kind = 4) (hi : i ≠ 0) (hn : x.nodes.length ≤ 400) (h1m : 1 ≤ d.f6) (hmn : d.f6 ≤ (x.nodes.length : Int) - 1) (hmi : d.f6 ≠ i) : Calls Tryz.prog 165 #[oneV kb d i] w fun e w' => e = .returned (.bool (Cn.mate x d i)) ∧ Below w.heap.size w w' := by
 have h1 := h.below (below_one w (oneB kb d i))
 have hC1 := Kd.C_below hC (below_one w (oneB kb d i))
 have c1 := h1.c1
 have c6 := h1.c6
 have hT : Cn.mate x d i = (((rd_T71 x.nodes d.f6).f6 == i && d.f2 != 0) && (rd_T71 x.nodes d.f6).f2 == wrap64 (-d.f2)) := by unfold Cn.mate Cn.nodeAt; rw [if_neg (fun h => h.elim (fun h => h hk) hi), if_neg (fun h => h.elim (fun h => h ⟨h1m, hmn⟩) hmi)]
 rw [hT]
 rw [hk] at c1
 obtain ⟨ad, e, x0, x1, x2, x3, x4, x5, x6⟩ := at_T71 hC1 d.f6 (by omega) (by omega)
 subst e
 generalize rd_T71 x.nodes d.f6 = o at x0 x1 x2 x3 x4 x5 x6
 obtain ⟨n, hnn⟩ : ∃ n, x.nodes.length = n := ⟨_, rfl⟩
 rw [hnn] at c6 hn hmn
 have hb := btw_walk d.f6 1 ((n : Int) - 1) (w.alloc (oneB kb d i))
 have hbb : Cn.btw d.f6 1 ((n : Int) - 1) = true := decide_eq_true ⟨h1m, hmn⟩
 rw [hbb] at hb
 have e1 : (i == 0) = false := by simpa using hi
 have e2 : (d.f6 == i) = false := by simpa using hmi
 have hm0 : 0 ≤ d.f6 := by omega
 have hm1 : d.f6 < (n : Int) := by omega
 obtain ⟨b1, hb1⟩ : ∃ b, (o.f6 == i) = b := ⟨_, rfl⟩
 obtain ⟨b2, hb2⟩ : ∃ b, (d.f2 != 0) = b := ⟨_, rfl⟩
 rw [hb1, hb2]
 have HB := Aside0.mk hb
 clear h h1 hT hk hi hb hnn hC hC1 hmi hbb
 unfold oneB at c1 c6 HB x0 x1 x2 x3 x4 x5 x6
 go_enter Tryz.func165, Tryz.ntmps165
 go_wp2_with fail
 refine HB.out.mono ?_
 rintro e w' ⟨rfl, rfl⟩
 cases b1
 ·go_wp2
  go_ret
  exact ⟨rfl, below_two _ _ _⟩
 ·cases b2
  ·go_wp2
   go_ret
   exact ⟨rfl, below_two _ _ _⟩
  ·go_wp2
   go_ret
   exact ⟨rfl, below_two _ _ _⟩
theorem mate_walk {w : World} {kb : Nat} {x : Cn.In} {A6 : Option Addr} {c6 : Nat} {v7 v8 : Value} (h : LK w kb x (.slice A6 x.nodes.length c6) v7 v8) (hC : Kd.C k71 w A6 x.nodes.length x.nodes) (hn : x.nodes.length ≤ 400) (d : S71) (i : Int) : Calls Tryz.prog 165 #[oneV kb d i] w fun e w' => e = .returned (.bool (Cn.mate x d i)) ∧ Below w.heap.size w w' := by
 by_cases hc : x.kind ≠ 4 ∨ i = 0
 ·exact mate_plain h d i hc
 ·have hk : x.kind = 4 := Classical.byContradiction fun h => hc (.inl h)
  have hi : i ≠ 0 := fun h => hc (.inr h)
  by_cases hno : ¬ (1 ≤ d.f6 ∧ d.f6 ≤ (x.nodes.length : Int) - 1) ∨ d.f6 = i
  ·exact mate_no h d i hk hi hn hno
  ·have hy : 1 ≤ d.f6 ∧ d.f6 ≤ (x.nodes.length : Int) - 1 := Classical.byContradiction fun h => hno (.inl h)
   exact mate_yes h hC d i hk hi hn hy.1 hy.2 (fun h => hno (.inr h))
end Go.Proofs.YtofklpphalalhaaGreatDoor
end
