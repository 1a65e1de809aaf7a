/- Texts of this claim, joined: DgP, DgA, DgD, DgE. Each as it was, cut to what the claim uses. Conditions: each theorem's own. -/
import Derived.Test.YtofklpphalalhaaGreatDoorUhJ1
import Derived.Test.YtofklpphalalhaaGreatDoorUhJ7
import Derived.WalkKit
import Derived.StillTailTactics
import Derived.Deep.QuietTactic
import Derived.BigQuiet
import Derived.Shelf.SlSortCmp.QuietGrown
import Derived.Deep.LoopGhost
import Derived.Lib.OwnBridge
import Derived.Shelf.SlicesQ.Reverse
import Derived.OwnWalkIn
import Derived.Lib.SlicesCompact
import Derived.Lib.SliceRun
import Derived.Laws.StructEq
import Derived.Shelf.SlicesE.Equal
section
namespace Dg
/-- A diagnostic: its place, its code. -/
abbrev D := Int × Int
def less (a b : D) : Bool := decide (a.1 < b.1) || (decide (a.1 = b.1) && decide (a.2 < b.2))
def cmpI (x y : Int) : Int := if x < y then -1 else if y < x then 1 else 0
def cmpD (a b : D) : Int := if cmpI a.1 b.1 ≠ 0 then cmpI a.1 b.1 else cmpI a.2 b.2
theorem less_iff (a b : D) : less a b = true ↔ a.1 < b.1 ∨ (a.1 = b.1 ∧ a.2 < b.2) := by
 unfold less; simp only [Bool.or_eq_true, Bool.and_eq_true, decide_eq_true_eq]
theorem less_iff' (a b : D) : less a b = false ↔ b.1 < a.1 ∨ (a.1 = b.1 ∧ b.2 ≤ a.2) := by
 rw [← Bool.not_eq_true, less_iff]; omega
theorem eq_of (a b : D) (h1 : a.1 = b.1) (h2 : a.2 = b.2) : a = b := Prod.ext h1 h2
theorem cmpD_neg (a b : D) : cmpD a b < 0 ↔ less a b = true := by
 rw [less_iff]; unfold cmpD cmpI
 split <;> split at * <;> (try split at *) <;> (try split) <;> omega
theorem less_irrefl (a : D) : less a a = false := by rw [less_iff']; omega
theorem less_trans {a b c : D} (h1 : less a b = true) (h2 : less b c = true) : less a c = true := by
 rw [less_iff] at *; omega
theorem less_asymm {a b : D} (h : less a b = true) : less b a = false := by
 rw [less_iff] at h; rw [less_iff']; omega
theorem less_total {a b : D} (h1 : less a b = false) (h2 : less b a = false) : a = b := by
 rw [less_iff'] at *; exact eq_of a b (by omega) (by omega)
/-- Strictly sorted. -/
def strict : List D → Bool
 | a :: b :: r => less a b && strict (b :: r)
 | _ => true
theorem strict_cons {a : D} {l : List D} (h : strict (a :: l) = true) : strict l = true ∧ ∀ x ∈ l, less a x = true := by
  induction l generalizing a with
  | nil => exact ⟨rfl, fun x hx => by cases hx⟩
  | cons b r ih =>
    simp only [strict, Bool.and_eq_true] at h
    refine ⟨h.2, fun x hx => ?_⟩
    rcases List.mem_cons.1 hx with rfl | hx
    · exact h.1
    · exact less_trans h.1 ((ih h.2).2 x hx)
theorem strict_mk {a : D} {l : List D} (h : strict l = true) (ha : ∀ x ∈ l, less a x = true) : strict (a :: l) = true := by
 cases l with
 | nil => rfl
 | cons b r => simp only [strict, Bool.and_eq_true]; exact ⟨ha b (List.mem_cons_self), h⟩
end Dg
end
section
namespace Go.Proofs.YtofklpphalalhaaGreatDoor
set_option linter.unusedVariables false
set_option linter.unusedSimpArgs false
open Go.RowKit Go.Sort Go.Lib Go.Proofs.YtofklpphalalhaaGreatDoor.PAll Go.Proofs.YtofklpphalalhaaGreatDoorW.PrintWords Go.Proofs.YtofklpphalalhaaGreatDoorW.PrintLast
theorem cmp_calls (x y : Int) (W : World) : Calls Tryz.prog 237 #[.int .i64 x, .int .i64 y] W fun e w' => e = .returned (.int .i64 (Dg.cmpI x y)) ∧ w' = W := by
 have h := AnyG.cmp_Compare_int Tryz.laysCmp x y W
 exact h
theorem cmpE_calls (x y : Int) (W : World) : Calls Tryz.prog 238 #[.int .i64 x, .int .i64 y] W fun e w' => e = .returned (.int .i64 (Dg.cmpI x y)) ∧ w' = W := by
 have h := AnyG.cmp_Compare_int Tryz.laysCmpE x y W
 exact h
set_option maxHeartbeats 1000000 in
theorem or_calls (x y : Int) (b : Nat) (w : World) (h0 : w.cell? ⟨b, 0, none⟩ = some (.int .i64 x)) (h1 : w.cell? ⟨b, 1, none⟩ = some (.int .i64 y)) :
  Calls Tryz.prog 236 #[.slice (some ⟨b, 0, none⟩) 2 2] w fun e w' => e = .returned (.int .i64 (if x ≠ 0 then x else y)) ∧ w' = w := by
 by_cases hx : x = 0
 ·subst hx
  have e : (if (0 : Int) ≠ 0 then 0 else y) = y := by simp
  rw [e]
  by_cases hy : y = 0
  ·subst hy
   go_enter Tryz.func236, Tryz.ntmps236
   go_wp2
   go_loop [2, 5, 8] (fun s2 s5 s8 => ∃ i : Nat, i ≤ 2 ∧ s8 = .int .i64 i ∧ s2 = .int .i64 0) (fun _ _ s8 => 2 - (intOf s8).toNat)
   case atStart => exact ⟨0, by omega, rfl, rfl⟩
   case round =>
    obtain ⟨i, hi, rfl, rfl⟩ := hrel
    rcases (show i = 0 ∨ i = 1 ∨ i = 2 by omega) with rfl | rfl | rfl
    ·go_wp2
     go_round
     case rel => exact ⟨1, by omega, rfl, rfl⟩
     case measure => simp [intOf]
    ·go_wp2
     go_round
     case rel => exact ⟨2, by omega, rfl, rfl⟩
     case measure => simp [intOf]
    ·go_wp2
     go_ret
     exact ⟨rfl, rfl⟩
  ·have hy' : (y != 0) = true := by simpa using hy
   have hy'' : (y == 0) = false := by simpa using hy
   go_enter Tryz.func236, Tryz.ntmps236
   go_wp2
   go_loop [2, 5, 8] (fun s2 s5 s8 => ∃ i : Nat, i ≤ 1 ∧ s8 = .int .i64 i ∧ s2 = .int .i64 0) (fun _ _ s8 => 2 - (intOf s8).toNat)
   case atStart => exact ⟨0, by omega, rfl, rfl⟩
   case round =>
    obtain ⟨i, hi, rfl, rfl⟩ := hrel
    rcases (show i = 0 ∨ i = 1 by omega) with rfl | rfl
    ·go_wp2
     go_round
     case rel => exact ⟨1, by omega, rfl, rfl⟩
     case measure => simp [intOf]
    ·go_wp2
     go_ret
     exact ⟨rfl, rfl⟩
 ·have e : (if x ≠ 0 then x else y) = x := by simp [hx]
  rw [e]
  have hx' : (x != 0) = true := by simpa using hx
  have hx'' : (x == 0) = false := by simpa using hx
  go_enter Tryz.func236, Tryz.ntmps236
  go_wp2
  go_loop [2, 5, 8] (fun s2 s5 s8 => s8 = .int .i64 0 ∧ s2 = .int .i64 0) (fun _ _ s8 => 2 - (intOf s8).toNat)
  case atStart => exact ⟨rfl, rfl⟩
  case round =>
   obtain ⟨rfl, rfl⟩ := hrel
   go_wp2
   go_ret
   exact ⟨rfl, rfl⟩
set_option maxRecDepth 100000 in
set_option maxHeartbeats 1000000 in
theorem than_calls (x y : Dg.D) (W : World) : Calls Tryz.prog 203 #[.agg #[.int .i64 x.1, .int .i64 x.2], .agg #[.int .i64 y.1, .int .i64 y.2]] W fun e w' => e = .returned (.int .i64 (Dg.cmpD x y)) ∧ ∃ q os', w' = grow (W.drewN q) os' := by
 obtain ⟨x1, x2⟩ := x
 obtain ⟨y1, y2⟩ := y
 have c1 := fun w' => cmp_calls x1 y1 w'
 have c2 := fun w' => cmpE_calls x2 y2 w'
 have hr : Dg.cmpD (x1, x2) (y1, y2) = if Dg.cmpI x1 y1 ≠ 0 then Dg.cmpI x1 y1 else Dg.cmpI x2 y2 := rfl
 rw [hr]
 have co := fun b w' h0 h1 => or_calls (Dg.cmpI x1 y1) (Dg.cmpI x2 y2) b w' h0 h1
 generalize Dg.cmpI x1 y1 = r1 at *
 generalize Dg.cmpI x2 y2 = r2 at *
 generalize (if r1 ≠ 0 then r1 else r2) = r at *
 replace c1 := Aside0.mk c1
 replace c2 := Aside0.mk c2
 replace co := Aside0.mk co
 go_enter Tryz.func203, Tryz.ntmps203
 go_wp2_with fail
 obtain ⟨W1, hW1⟩ : ∃ W1, (W.alloc (.cells #[.int .i64 x1, .int .i64 x2] 243)).alloc (.cells #[.int .i64 y1, .int .i64 y2] 243) = W1 := ⟨_, rfl⟩
 rw [hW1]
 have f : W1.drew.cell? ⟨W.heap.size, 0, none⟩ = some (.int .i64 x1) ∧ W1.drew.cell? ⟨W.heap.size, 1, none⟩ = some (.int .i64 x2) ∧ W1.drew.cell? ⟨W.heap.size + 1, 0, none⟩ = some (.int .i64 y1) ∧ W1.drew.cell? ⟨W.heap.size + 1, 1, none⟩ = some (.int .i64 y2) := by
  rw [← hW1]
  refine ⟨?_, ?_, ?_, ?_⟩ <;> simp [go_sem]
 have hg : ∃ q os', W1.drew = grow (W.drewN q) os' := ⟨1, _, by rw [← hW1, alloc_eq_grow, alloc_eq_grow, grow_grow]; rfl⟩
 replace hg := Aside0.mk hg
 obtain ⟨f0, f1, f2, f3⟩ := f
 refine wp_region_still_tail 10 (by kernel_rfl) (by kernel_rfl) ?_
 change wpStill _ _ W1.drew _ _ _
 change wpStill _ _ W1.drew (fun a' => wpList _ _ _ _ a' W1.drew) _ _
 generalize W1.drew = W2 at *
 clear hW1
 simp only [List.take_succ_cons, List.take_zero, List.drop_succ_cons, List.drop_zero]
 still_step
 still_step
 still_step
 still_step
 still_call (c1.out _)
 still_step
 still_step
 still_step
 still_step
 still_call (c2.out _)
 refine wpStill_nil ?_
 go_wp2_with (go_at_call 236; refine (co.out _ _ (by simp [go_sem]) (by simp [go_sem])).mono ?_; rintro e w' ⟨rfl, rfl⟩)
 go_ret
 obtain ⟨q, os', h⟩ := hg.out
 exact ⟨rfl, q, _, by rw [h, alloc_eq_grow, grow_grow]⟩
def enc (x : Dg.D) : List Value := [.int .i64 x.1, .int .i64 x.2]
set_option maxRecDepth 100000 in
set_option maxHeartbeats 1000000 in
theorem compare_calls (x y : Dg.D) (W : World) : Calls Tryz.prog 168 #[.agg (enc x).toArray, .agg (enc y).toArray] W fun e w' => e = .returned (.int .i64 (Dg.cmpD x y)) ∧ ∃ q os', w' = grow (W.drewN q) os' := by
 have c1 := fun w' => than_calls x y w'
 obtain ⟨x1, x2⟩ := x
 obtain ⟨y1, y2⟩ := y
 generalize Dg.cmpD (x1, x2) (y1, y2) = r at *
 replace c1 := Aside0.mk c1
 unfold enc
 go_enter Tryz.func168, Tryz.ntmps168
 go_wp2_with (go_at_call 203; refine (c1.out _).mono ?_; rintro e w' ⟨rfl, q, os', rfl⟩)
 go_ret
 exact ⟨rfl, q, _, by rw [alloc_eq_grow, alloc_eq_grow, grow_grow]; exact grow_grow (W.drewN q) _ _⟩
end Go.Proofs.YtofklpphalalhaaGreatDoor
end
section
namespace Go.Proofs.YtofklpphalalhaaGreatDoor
set_option linter.unusedVariables false
set_option linter.unusedSimpArgs false
open Go.RowKit Go.Sort Go.Lib Go.Proofs.YtofklpphalalhaaGreatDoor.PAll Go.Proofs.YtofklpphalalhaaGreatDoorW.PrintWords Go.Proofs.YtofklpphalalhaaGreatDoorW.PrintLast
/-- A row of diagnostics that is read. -/
def Rd (w : World) (A : Option Addr) (l : List Dg.D) : Prop := ∀ i (h : i < l.length), ∃ ad, A = some ad ∧ w.cell? (ad.add (i * 2)) = some (.int .i64 l[i].1) ∧ w.cell? ⟨(ad.add (i * 2)).block, (ad.add (i * 2)).off + 1, none⟩ = some (.int .i64 l[i].2)
theorem enters168 : ∀ args w, (callFunc 168 args).run Tryz.prog w = .ok (.enter 168 args) w := enters_of Tryz.func168 (by kernel_rfl) rfl
theorem below_grown {b : Nat} {w wr : World} (h : Below b w wr) (hb : b ≤ wr.heap.size) (q : Nat) (os : Array Obj) : Below b w (grow (wr.drewN q) os) := by
 refine h.grown (row := none) ⟨rfl, rfl, rfl, by simp [grow], fun j hj _ => ?_⟩ hb (fun j hj => by cases hj)
 show (grow (wr.drewN q) os).heap[j]? = wr.heap[j]?
 unfold grow
 exact Array.getElem?_append_left hj
theorem k64 (n : Int) (h0 : -9223372036854775808 ≤ n) (h1 : n ≤ 9223372036854775807) : IntKind.i64.wrap n = n := by rw [IntKind.wrap_i64]; omega
def flat (l : List Dg.D) : List Value := l.flatMap enc
theorem flat_len (l : List Dg.D) : (flat l).length = l.length * 2 := by
 induction l with
 | nil => rfl
 | cons x l ih => simp only [flat, List.flatMap_cons, List.length_append] at *; rw [ih]; simp [enc]; omega
theorem flat_append (a b : List Dg.D) : flat (a ++ b) = flat a ++ flat b := by simp [flat]
theorem flat_get (l : List Dg.D) : ∀ (i : Nat) (h : i < l.length), (flat l)[i * 2]? = some (.int .i64 l[i].1) ∧ (flat l)[i * 2 + 1]? = some (.int .i64 l[i].2) := by
  induction l with
  | nil => intro i h; simp at h
  | cons x l ih =>
    intro i h
    have e : flat (x :: l) = .int .i64 x.1 :: .int .i64 x.2 :: flat l := rfl
    rw [e]
    cases i with
    | zero => exact ⟨rfl, rfl⟩
    | succ i =>
      have := ih i (by simpa using h)
      rw [show (i + 1) * 2 = i * 2 + 1 + 1 by omega]
      simpa using this
theorem flat_one (l : List Dg.D) : ∀ u ∈ flat l, u.oneCell' = true := by
 intro u hu
 simp only [flat, List.mem_flatMap] at hu
 obtain ⟨x, _, hx⟩ := hu
 simp [enc] at hx
 rcases hx with rfl | rfl <;> rfl
theorem flat_take (l : List Dg.D) (m : Nat) : flat (l.take m) = (flat l).take (m * 2) := by
  induction l generalizing m with
  | nil => simp [flat]
  | cons x l ih =>
    cases m with
    | zero => simp [flat]
    | succ m =>
      have e : flat (x :: l) = .int .i64 x.1 :: .int .i64 x.2 :: flat l := rfl
      rw [e, List.take_succ_cons, show (m + 1) * 2 = m * 2 + 1 + 1 by omega, List.take_succ_cons, List.take_succ_cons, ← ih]
      rfl
/-- The flat row of an array, and of its list. -/
theorem flatK_flat (l : List Dg.D) : flatK enc 2 l.toArray = (flat l).toArray := by
 apply Array.ext
 ·rw [size_flatK]; simp [flat_len]
 ·intro t h1 h2
  rw [size_flatK] at h1
  have h1' : t < l.length * 2 := by simpa using h1
  have e := get_flatK enc 2 l.toArray t h1
  rw [getElem!_pos _ t (by rw [size_flatK]; exact h1)] at e
  rw [e]
  have hd : t / 2 < l.length := by omega
  have hg := flat_get l (t / 2) hd
  rw [getElem!_pos l.toArray (t / 2) (by simpa using hd)]
  rw [List.getElem_toArray, List.getElem_toArray]
  rcases (show t % 2 = 0 ∨ t % 2 = 1 by omega) with h | h
  ·have ht : t = t / 2 * 2 := by omega
   have h3 : (flat l)[t]? = some (.int .i64 l[t / 2].1) := by
    have := hg.1; rw [← ht] at this; exact this
   rw [List.getElem?_eq_getElem (by rw [flat_len]; exact h1')] at h3
   rw [h, Option.some.inj h3]; rfl
  ·have ht : t = t / 2 * 2 + 1 := by omega
   have h3 : (flat l)[t]? = some (.int .i64 l[t / 2].2) := by
    have := hg.2; rw [← ht] at this; exact this
   rw [List.getElem?_eq_getElem (by rw [flat_len]; exact h1')] at h3
   rw [h, Option.some.inj h3]; rfl
/-- DOWN: where a row of the call's own lies. -/
theorem holds_of_own {w : World} {base g n cap : Nat} {l : List Dg.D} (h : w.ownsRow base 38 2 (.slice (some ⟨g, 0, none⟩) n cap) n (flat l)) :
  HoldsK enc 2 w g 0 l.toArray ∧ base ≤ g ∧ g < w.heap.size ∧ l.length = n ∧ n ≤ cap ∧ cap ≤ maxLen := by
 have hl : l.length = n := by have := h.1; rw [flat_len] at this; omega
 rcases h.2 with ⟨e0, _⟩ | ⟨g', cap', cur, e0, hb, hg, hn, hm, hs, ht⟩
 ·cases e0
 ·injection e0 with e1 _ e3
  injection e1 with e1
  injection e1 with e1
  subst e1; subst e3
  have hlt : g < w.heap.size := by
   rcases Nat.lt_or_ge g w.heap.size with h' | h'
   ·exact h'
   ·rw [Array.getElem?_eq_none h'] at hg; cases hg
  refine ⟨?_, hb, hlt, hl, hn, hm⟩
  unfold HoldsK
  rw [flatK_flat]
  intro j hj
  have hj' : j < n * 2 := by have := flat_len l; simp at hj; omega
  refine ⟨?_, by simp [World.frozen?, hg]⟩
  have e1 : (cur.toList.take (n * 2))[j]? = (flat l)[j]? := by rw [ht]
  rw [List.getElem?_take, if_pos hj', Array.getElem?_toList] at e1
  simp only [World.cell?, hg, Nat.zero_add]
  simp only [Option.isSome_none, Bool.false_eq_true, if_false]
  rw [e1, List.getElem?_eq_getElem (by rw [flat_len]; omega)]
  simp [getElem!_pos, flat_len, show j < l.length * 2 by omega]
/-- UP: behind a walk in the sort's words the slice, cut to its first m elements, owns them. -/
theorem own_putRow {w : World} {base g n cap q m : Nat} {l ys : List Dg.D} (h : w.ownsRow base 38 2 (.slice (some ⟨g, 0, none⟩) n cap) n (flat l)) (hy : ys.length = n) (hm' : m ≤ n) :
  (putRowK enc 2 (Sort.ahead w q) g 0 ys.toArray).ownsRow base 38 2 (.slice (some ⟨g, 0, none⟩) m cap) m (flat (ys.take m)) := by
 rcases h.2 with ⟨e0, _⟩ | ⟨g', cap', cur, e0, hb, hg, hn, hm, hs, ht⟩
 ·cases e0
 ·injection e0 with e1 _ e3
  injection e1 with e1
  injection e1 with e1
  subst e1; subst e3
  unfold putRowK
  rw [flatK_flat]
  have hfl := flat_len ys
  refine ⟨by rw [flat_len, List.length_take]; omega, .inr ⟨g, cap, putCells id 0 (flat ys).toArray cur, rfl, hb, ?_, by omega, hm, by simpa [putCells] using hs, ?_⟩⟩
  ·simp [putRow, mapBlock, Sort.ahead, Array.getElem?_modify, hg, onCells]
  ·rw [flat_take]
   apply List.ext_getElem?
   intro j
   rw [List.getElem?_take, List.getElem?_take, Array.getElem?_toList]
   by_cases hj : j < m * 2
   ·have hjc : j < cur.size := by omega
    have hjf : j < (flat ys).length := by omega
    simp only [if_pos hj, putCells, Array.getElem?_mapIdx, Array.getElem?_eq_getElem hjc, Option.map_some]
    rw [if_pos (by simp; omega), List.getElem?_eq_getElem hjf]
    simp [getElem!_pos, hjf]
   ·simp [hj]
theorem below_putRowK {B : Nat} {w0 w : World} {g q : Nat} {d : Array Dg.D} (h : Below B w0 w) (hg : B ≤ g) : Below B w0 (putRowK enc 2 (Sort.ahead w q) g 0 d) := below_putRow h hg
/-- A row that is held may be read. -/
theorem rd_of_holds {w : World} {g : Nat} {l : List Dg.D} (h : HoldsK enc 2 w g 0 l.toArray) : Rd w (some ⟨g, 0, none⟩) l := fun i hi => by
 have hi' : i < l.toArray.size := by simpa using hi
 have h0 := (h.cell hi' (c := 0) (by omega)).1
 have h1 := (h.cell hi' (c := 1) (by omega)).1
 rw [getElem!_pos l.toArray i hi', List.getElem_toArray] at h0 h1
 refine ⟨_, rfl, ?_, ?_⟩
 ·rw [Addr.add_lit]; simpa [enc] using h0
 ·rw [Addr.add_lit]; simpa [enc] using h1
theorem rd_of_own {w : World} {base n : Nat} {v : Value} {l : List Dg.D} (h : w.ownsRow base 38 2 v n (flat l)) : ∃ A c, v = .slice A l.length c ∧ l.length = n ∧ Rd w A l := by
 have hl : l.length = n := by have := h.1; rw [flat_len] at this; omega
 rcases h.2 with ⟨rfl, h0⟩ | ⟨g, cap, cur, rfl, _⟩
 ·exact ⟨none, 0, by rw [hl, h0], hl, fun i hi => by omega⟩
 ·exact ⟨_, cap, by rw [hl], hl, rd_of_holds (holds_of_own h).1⟩
/-- The address of a row that is read, where it has an element. -/
theorem Rd.at0 {w : World} {A : Option Addr} {l : List Dg.D} (h : Rd w A l) (hl : 0 < l.length) : ∃ b off, A = some ⟨b, off, none⟩ := by
  obtain ⟨ad, e, h0, _⟩ := h 0 hl
  obtain ⟨b, off, sp⟩ := ad
  cases sp with
  | none => exact ⟨b, off, e⟩
  | some x =>
    exfalso
    rw [show (⟨b, off, some x⟩ : Addr).add (0 * 2) = ⟨b, off, some x⟩ from rfl] at h0
    simp [World.cell?] at h0
    split at h0 <;> cases h0
theorem Rd.cells {w : World} {b off : Nat} {l : List Dg.D} (h : Rd w (some ⟨b, off, none⟩) l) : ∀ j u, (flat l)[j]? = some u → w.cell? ⟨b, off + j, none⟩ = some u := by
 intro j u hj
 have hjl : j < l.length * 2 := by have := (List.getElem?_eq_some_iff.1 hj).1; rwa [flat_len] at this
 obtain ⟨ad, e, h0, h1⟩ := h (j / 2) (by omega)
 obtain rfl := Option.some.inj e
 rw [Addr.add_lit] at h0 h1
 have hg := flat_get l (j / 2) (by omega)
 rcases (show j % 2 = 0 ∨ j % 2 = 1 by omega) with hm | hm
 ·have ht : j / 2 * 2 = j := by omega
  rw [ht] at h0 hg
  rw [hg.1] at hj
  rw [h0, ← hj]
 ·have ht : j / 2 * 2 + 1 = j := by omega
  rw [ht] at hg
  rw [hg.2] at hj
  simp only [Nat.add_assoc, ht] at h1
  rw [h1, ← hj]
theorem info38 : (Tryz.prog.info? 38).map (fun i => (i.zero, i.size, i.bytes)) = some (some (.agg #[(.int .i64 0), (.int .i64 0)]), 2, 16) := by kernel_rfl
def toD (x : S38) : Dg.D := (x.f0, x.f1)
def toS (x : Dg.D) : S38 := ⟨x.1, x.2⟩
theorem toD_toS (x : Dg.D) : toD (toS x) = x := rfl
theorem rd_of_C {w : World} {A : Option Addr} {n : Nat} {xs : List S38} (h : Kd.C k38 w A n xs) : Rd w A (xs.map toD) := fun i hi => by
 have hi' : i < xs.length := by simpa using hi
 have hn : xs.length = n := h.1
 obtain ⟨ad, e, h0, h1⟩ := at_T38 h (i : Int) (by omega) (by omega)
 rw [Int.toNat_natCast] at h0 h1
 have hr : rd_T38 xs (i : Int) = xs[i] := by
  unfold rd_T38
  rw [Int.toNat_natCast, List.getD_eq_getElem?_getD, List.getElem?_eq_getElem hi']; rfl
 rw [hr] at h0 h1
 rw [List.getElem_map]
 exact ⟨ad, e, h0, h1⟩
theorem reps_flat (w : World) (base : Nat) (ok : Nat → Prop) (xs : List Dg.D) : Reps (k38.M w base ok) 2 (xs.map toS) (flat xs) := by
  suffices h : ∀ (ys xs : List Dg.D), Reps (k38.M w base ok) 2 (ys.map toS) (flat ys) → Reps (k38.M w base ok) 2 ((ys ++ xs).map toS) (flat (ys ++ xs)) from h [] xs (Reps.none _ _)
  intro ys xs
  induction xs generalizing ys with
  | nil => intro h; rwa [List.append_nil]
  | cons x xs ih =>
    intro h
    have := ih (ys ++ [x]) (by
      rw [List.map_append, flat_append]
      have e : flat [x] = enc x := by simp [flat]
      rw [e]
      exact h.snoc (k38_mkM w base ok (toS x)) rfl)
    rwa [List.append_assoc] at this
theorem R_of_own {w : World} {base n : Nat} {v : Value} {l : List Dg.D} (h : w.ownsRow base 38 2 v n (flat l)) : Kd.R k38 38 w base (fun _ => True) v (l.map toS) := by
 have hl : l.length = n := by have := h.1; rw [flat_len] at this; omega
 exact ⟨fun _ _ => trivial, flat l, by rw [List.length_map, hl]; exact h, reps_flat _ _ _ _⟩
end Go.Proofs.YtofklpphalalhaaGreatDoor
end
section
namespace Go.Proofs.YtofklpphalalhaaGreatDoor
set_option linter.unusedVariables false
set_option linter.unusedSimpArgs false
open Go.RowKit Go.Sort Go.Lib Go.Proofs.YtofklpphalalhaaGreatDoor.PAll Go.Proofs.YtofklpphalalhaaGreatDoorW.PrintWords Go.Proofs.YtofklpphalalhaaGreatDoorW.PrintLast
theorem eq38 (x y : Dg.D) (w : World) : Sem.run Tryz.prog (binOp .eql 38 (.agg #[.int .i64 x.1, .int .i64 x.2]) (.agg #[.int .i64 y.1, .int .i64 y.2])) w = .ok (.bool (decide (x = y))) w := by
 have u3 := Tryz.underlying3
 have a3 := Tryz.isAgg3
 have z3 := Tryz.sizeOf3
 have hS : Tryz.prog.underlying 38 = some (.struct (Tryz.prog.fieldsOf 38)) := by kernel_rfl
 have hp : Tryz.prog.stoodInHeld 38 = false := by kernel_rfl
 rw [run_eql_struct, show (10000 : Nat) = 9999 + 1 from rfl, run_equalIn_agg w 9999 38 _ _ hS hp]
 simp only [Program.fieldsOf, Tryz.underlying38]
 go_simp
 obtain ⟨x1, x2⟩ := x
 obtain ⟨y1, y2⟩ := y
 by_cases h1 : x1 = y1 <;> by_cases h2 : x2 = y2 <;> simp [h1, h2]
theorem neq38 (x y : Dg.D) (w : World) : Sem.run Tryz.prog (binOp .neq 38 (.agg #[.int .i64 x.1, .int .i64 x.2]) (.agg #[.int .i64 y.1, .int .i64 y.2])) w = .ok (.bool (!decide (x = y))) w := by
 have u3 := Tryz.underlying3
 have a3 := Tryz.isAgg3
 have z3 := Tryz.sizeOf3
 have hS : Tryz.prog.underlying 38 = some (.struct (Tryz.prog.fieldsOf 38)) := by kernel_rfl
 have hp : Tryz.prog.stoodInHeld 38 = false := by kernel_rfl
 rw [run_neq_struct, show (10000 : Nat) = 9999 + 1 from rfl, run_equalIn_agg w 9999 38 _ _ hS hp]
 simp only [Program.fieldsOf, Tryz.underlying38]
 go_simp
 obtain ⟨x1, x2⟩ := x
 obtain ⟨y1, y2⟩ := y
 by_cases h1 : x1 = y1 <;> by_cases h2 : x2 = y2 <;> simp [h1, h2]
/-- Element i's two cells of a row that is held. -/
theorem holds_two {w : World} {g : Nat} {d : Array Dg.D} (h : HoldsK enc 2 w g 0 d) (i : Nat) (hi : i < d.size) :
  (w.cell? ⟨g, i * 2, none⟩ = some (.int .i64 d[i]!.1) ∧ w.cell? ⟨g, i * 2 + 1, none⟩ = some (.int .i64 d[i]!.2)) ∧ w.frozen? ⟨g, i * 2, none⟩ = false ∧ w.frozen? ⟨g, i * 2 + 1, none⟩ = false := by
 have h0 := h.cell hi (c := 0) (by omega)
 have h1 := h.cell hi (c := 1) (by omega)
 rw [Nat.zero_add] at h0 h1
 exact ⟨⟨by simpa [enc] using h0.1, by simpa [enc] using h1.1⟩, by simpa using h0.2, by simpa using h1.2⟩
/-- A store of element i. -/
theorem store_two {w wr : World} {n g : Nat} {dk : Array Dg.D} {i : Nat} (hi : i < dk.size) (hwr : wr = putRowK enc 2 (Sort.ahead w n) g 0 dk) (x : Dg.D) :
  ((wr.setCell ⟨g, i * 2, none⟩ (.int .i64 x.1)).setCell ⟨g, i * 2 + 1, none⟩ (.int .i64 x.2)) = putRowK enc 2 (Sort.ahead w n) g 0 (dk.setIfInBounds i x) := by
 have h := setCells_putRow (Sort.ahead w n) g 0 (enc x) (i * 2) (flatK enc 2 dk) (by rw [size_flatK]; simp [enc]; omega)
 have e : ((wr.setCell ⟨g, i * 2, none⟩ (.int .i64 x.1)).setCell ⟨g, i * 2 + 1, none⟩ (.int .i64 x.2)) = wr.setCells g (0 + i * 2) (enc x) := by
  rw [Nat.zero_add]; rfl
 rw [e, hwr]
 unfold putRowK
 rw [h]
 congr 1
 apply Array.ext
 ·simp
 ·intro t h1 h2
  have ht : t < dk.size * 2 := by simpa using h1
  have e1 := get_setMany (enc x) (i * 2) (flatK enc 2 dk) t (by simpa using ht)
  have e2 := get_flatK enc 2 (dk.setIfInBounds i x) t (by simpa using ht)
  have e3 := get_flatK enc 2 dk t ht
  rw [getElem!_pos _ t h1] at e1
  rw [getElem!_pos _ t h2] at e2
  rw [e1, e2]
  have hl : (enc x).length = 2 := rfl
  rw [hl]
  by_cases hc : i * 2 ≤ t ∧ t < i * 2 + 2
  ·rw [if_pos hc]
   have : t / 2 = i := by omega
   rw [this, getElem!_set_same dk i x hi, show t % 2 = t - i * 2 by omega]
  ·rw [if_neg hc, e3, getElem!_set_other dk i (t / 2) x (by omega)]
theorem run_clear_two (w : World) (ty : TypeId) (b o n c : Nat) (hn : 0 < n) (hv : ∀ w, (zeroValue 38).run Tryz.prog w = .ok (.agg #[.int .i64 0, .int .i64 0]) w)
  (hc : ∀ j, j < n * 2 → (w.cell? ⟨b, o + j, none⟩).isSome = true) (hf : ∀ j, j < n * 2 → w.frozen? ⟨b, o + j, none⟩ = false) :
  (Builtin.clear_ #[32] ty #[.slice (some ⟨b, o, none⟩) n c]).run Tryz.prog w = .ok (.tuple #[]) (w.setCells b o (List.replicate (n * 2) (.int .i64 0))) := by
 have hzc : (Builtin.zeroCells #[Value.int .i64 0, Value.int .i64 0] n).toList = List.replicate (n * 2) (.int .i64 0) := by
  simp [Builtin.zeroCells]
  apply List.ext_getElem
  ·simp
  ·intro i h1 h2
   rcases (show i % 2 = 0 ∨ i % 2 = 1 by omega) with h | h <;> simp [h]
 have hst := run_storeCells_cells (P := Tryz.prog) b o (List.replicate (n * 2) (.int .i64 0)) 0 w (by simpa using hc) (by simpa using hf) (by intro v hv'; rw [List.eq_of_mem_replicate hv']; rfl)
 simp only [Nat.add_zero] at hst
 obtain ⟨m, rfl⟩ : ∃ m, n = m + 1 := ⟨n - 1, by omega⟩
 simp [Builtin.clear_, run_underlying Tryz.underlying32, hv, Value.cells, hzc, hst]
/-- The row behind the clearing. -/
theorem cleared_two {w wr : World} {n g kk : Nat} {dk : Array Dg.D} (hk : kk ≤ dk.size) (hwr : wr = putRowK enc 2 (Sort.ahead w n) g 0 dk) :
  wr.setCells g (kk * 2) (List.replicate ((dk.size - kk) * 2) (.int .i64 0)) = putRowK enc 2 (Sort.ahead w n) g 0 (dk.toList.take kk ++ List.replicate (dk.size - kk) ((0, 0) : Dg.D)).toArray := by
 have h := setCells_putRow (Sort.ahead w n) g 0 (List.replicate ((dk.size - kk) * 2) (.int .i64 0)) (kk * 2) (flatK enc 2 dk) (by rw [size_flatK, List.length_replicate]; omega)
 rw [Nat.zero_add] at h
 rw [hwr]
 unfold putRowK
 rw [h]
 congr 1
 have hyl : (dk.toList.take kk ++ List.replicate (dk.size - kk) ((0, 0) : Dg.D)).toArray.size = dk.size := by simp; omega
 apply Array.ext
 ·rw [size_setMany, size_flatK, size_flatK, hyl]
 ·intro t h1 h2
  have ht : t < dk.size * 2 := by rw [size_setMany, size_flatK] at h1; exact h1
  have e1 := get_setMany (List.replicate ((dk.size - kk) * 2) (.int .i64 0)) (kk * 2) (flatK enc 2 dk) t (by simpa using ht)
  have e2 := get_flatK enc 2 (dk.toList.take kk ++ List.replicate (dk.size - kk) ((0, 0) : Dg.D)).toArray t (by rw [hyl]; exact ht)
  have e3 := get_flatK enc 2 dk t ht
  rw [getElem!_pos _ t h1] at e1
  rw [getElem!_pos _ t h2] at e2
  rw [e1, e2, List.length_replicate]
  have hi : t / 2 < dk.size := by omega
  rw [getElem!_pos _ (t / 2) (by rw [hyl]; exact hi), List.getElem_toArray]
  by_cases hc : kk * 2 ≤ t ∧ t < kk * 2 + (dk.size - kk) * 2
  ·rw [if_pos hc, getElem!_pos _ (t - kk * 2) (by rw [List.length_replicate]; omega), List.getElem_replicate, List.getElem_append_right (by simp; omega), List.getElem_replicate]
   rcases (show t % 2 = 0 ∨ t % 2 = 1 by omega) with h | h <;> rw [h] <;> rfl
  ·rw [if_neg hc, e3, List.getElem_append_left (by simp; omega), List.getElem_take, getElem!_pos dk (t / 2) hi]; rfl
theorem comp_take {d dk : Array Dg.D} {m kk : Nat} (h : CompInv d m kk dk) (hm : m ≤ d.size) : dk.toList.take kk = compactUpTo d m := by
 have hs := h.size
 have hlt := h.lt
 apply List.ext_getElem?
 intro j
 by_cases hj : j < kk
 ·rw [h.low j hj, List.getElem?_take, if_pos hj, Array.getElem?_toList, Array.getElem?_eq_getElem (by omega), getElem!_pos dk j (by omega)]
 ·rw [List.getElem?_take, if_neg hj, List.getElem?_eq_none (by rw [h.len]; omega)]
set_option maxRecDepth 100000 in
set_option maxHeartbeats 4000000 in
theorem compact_walk (g cap : Nat) (d : Array Dg.D) (w : World) (hH : HoldsK enc 2 w g 0 d) (hsz : d.size ≤ 1000000000) (hcap : d.size ≤ cap) :
  Calls Tryz.prog 169 #[.slice (some ⟨g, 0, none⟩) d.size cap] w fun e w' => e = .returned (.slice (some ⟨g, 0, none⟩) (compactUpTo d d.size).length cap) ∧ ∃ (q : Nat) (ys : Array Dg.D), ys.size = d.size ∧ ys.toList.take (compactUpTo d d.size).length = compactUpTo d d.size ∧ w' = putRowK enc 2 (Sort.ahead w q) g 0 ys := by
 have heq := eq38
 have hne := neq38
 have same : ∀ q, (∀ j, j < d.size → keeps d j = true) → (compactUpTo d d.size).length = d.size ∧ (d.toList.take (compactUpTo d d.size).length = compactUpTo d d.size) ∧ w.drewN q = putRowK enc 2 (Sort.ahead w q) g 0 d := by
  intro q hall
  have e : compactUpTo d d.size = d.toList := by rw [compactUpTo_all d _ hall, range_map_get]
  rw [e]
  exact ⟨by simp, List.take_length, (putRowK_self enc 2 (Sort.ahead w q) g 0 d hH).symm⟩
 have HS := Aside0.mk same
 have HH := Aside0.mk hH
 clear same hH
 by_cases h2 : d.size < 2
 ·go_enter Tryz.func169, Tryz.ntmps169
  go_wp2
  go_ret
  obtain ⟨e1, e2, e3⟩ := HS.out 0 (fun j hj => keeps_lt_one d j (by omega))
  exact ⟨by rw [e1]; rfl, 0, d, rfl, e2, e3⟩
 ·go_enter Tryz.func169, Tryz.ntmps169
  go_wp2
  go_loopg [3] d.size (fun gg s3 wr => ∃ k q : Nat, 1 ≤ k ∧ k ≤ d.size ∧ d.size - k ≤ gg ∧ s3 = .int .i64 k ∧ wr = w.drewN q ∧ Aside0 (∀ j, j < k → keeps d j = true))
  case atStart => exact ⟨1, 0, Nat.le_refl _, by omega, by omega, rfl, rfl, ⟨keeps_lt_one d⟩⟩
  case round =>
   obtain ⟨k, q, hk1, hk, hg, rfl, rfl, A⟩ := hrel
   by_cases hlt : k < d.size
   ·obtain ⟨⟨c0, c1⟩, _⟩ := holds_two HH.out k hlt
    obtain ⟨j, hj⟩ : ∃ j, k - 1 = j := ⟨_, rfl⟩
    obtain ⟨⟨c2, c3⟩, _⟩ := holds_two HH.out j (by omega)
    have hkj : Aside0 (k = j + 1) := ⟨by omega⟩
    obtain ⟨x, hx⟩ : ∃ x, d[k]! = x := ⟨_, rfl⟩
    obtain ⟨y, hy⟩ : ∃ y, d[j]! = y := ⟨_, rfl⟩
    have hy' : Aside0 (d[k - 1]! = y) := ⟨by rw [hj]; exact hy⟩
    rw [hx] at c0 c1
    rw [hy] at c2 c3
    have hm2 : (k : Int) - 1 = (j : Int) := by omega
    have hjd : j < d.size := by omega
    clear hj
    replace hx := Aside0.mk hx
    replace hy := Aside0.mk hy
    by_cases hdup : x = y
    ·subst hdup
     go_wp2_with fail
     have hw := k64 (j : Int) (by omega) (by omega)
     go_quiet (fail)
     clear hw
     go_wp2
     clear c0 c1 c2 c3
     go_loopg [3, 5] d.size (fun gg s3 s5 wr => ∃ (kk k2 q2 : Nat) (dk : Array Dg.D), s3 = .int .i64 kk ∧ s5 = .int .i64 k2 ∧ 1 ≤ k2 ∧ k + k2 ≤ d.size ∧ d.size - (k + k2) ≤ gg ∧ Aside0 (wr = putRowK enc 2 (Sort.ahead w q2) g 0 dk) ∧ Aside0 (CompInv d (k + k2) kk dk))
     case atStart => exact ⟨k, 1, q + nq, d, rfl, rfl, Nat.le_refl _, by omega, by omega, ⟨(putRowK_self enc 2 (Sort.ahead w (q + nq)) g 0 d (holdsK_ahead enc 2 w (q + nq) g 0 d HH.out)).symm⟩, ⟨CompInv.start A.out (keeps_neg (by omega) (by rw [hx.out, hy'.out]))⟩⟩
     case round =>
      obtain ⟨kk, k2, q2, dk, rfl, rfl, h1, hle, hg2, W2, I2⟩ := hrel
      have hkk := I2.out.lt
      have hds := I2.out.size
      have hHk : Aside0 (HoldsK enc 2 wr g 0 dk) := ⟨by rw [W2.out]; exact holdsK_putRowK enc 2 _ g 0 d dk (holdsK_ahead enc 2 w q2 g 0 d HH.out) hds⟩
      by_cases hlt2 : k + k2 < d.size
      ·obtain ⟨⟨a0, a1⟩, _⟩ := holds_two hHk.out (k + k2) (by omega)
       obtain ⟨j2, hj2⟩ : ∃ j2, k2 - 1 = j2 := ⟨_, rfl⟩
       obtain ⟨⟨a2, a3⟩, _⟩ := holds_two hHk.out (k + j2) (by omega)
       obtain ⟨⟨a4, a5⟩, f4, f5⟩ := holds_two hHk.out kk (by omega)
       rw [I2.out.high (k + k2) (by omega)] at a0 a1
       rw [I2.out.high (k + j2) (by omega)] at a2 a3
       rw [Nat.add_mul] at a0 a1 a2 a3
       have hC0 : Aside0 (k + k2 - 1 = k + j2) := ⟨by omega⟩
       obtain ⟨u, hu⟩ : ∃ u, d[k + k2]! = u := ⟨_, rfl⟩
       obtain ⟨v, hv⟩ : ∃ v, d[k + j2]! = v := ⟨_, rfl⟩
       have hv' : Aside0 (d[k + k2 - 1]! = v) := ⟨by rw [hC0.out]; exact hv⟩
       rw [hu] at a0 a1
       rw [hv] at a2 a3
       obtain ⟨old, hold⟩ : ∃ old, dk[kk]! = old := ⟨_, rfl⟩
       rw [hold] at a4 a5
       clear hold
       have hm3 : (k2 : Int) - 1 = (j2 : Int) := by omega
       have hb1 : (k2 : Int) < (d.size : Int) - (k : Int) := by omega
       have hb2 : (j2 : Int) < (d.size : Int) - (k : Int) := by omega
       have hb3 : k2 < d.size - k := by omega
       have hb4 : j2 < d.size - k := by omega
       have hb5 : kk < d.size := by omega
       clear hj2
       replace hu := Aside0.mk hu
       replace hv := Aside0.mk hv
       replace hkk := Aside0.mk hkk
       replace hds := Aside0.mk hds
       by_cases huv : u = v
       ·subst huv
        go_wp2_with fail
        have hw := k64 (j2 : Int) (by omega) (by omega)
        go_quiet (fail)
        clear hw
        go_wp2
        go_roundg (d.size - (k + (k2 + 1)))
        case measure => omega
        case rel => exact ⟨kk, k2 + 1, q2 + nq, dk, rfl, by go_num, by omega, by omega, Nat.le_refl _, ⟨by rw [W2.out]; exact putRowK_drewN enc 2 w q2 nq g 0 dk⟩, ⟨I2.out.skip (keeps_neg (by omega) (by rw [hu.out, hv'.out]))⟩⟩
       ·go_wp2_with fail
        have hw := k64 (j2 : Int) (by omega) (by omega)
        go_quiet (fail)
        clear hw
        go_wp2
        go_roundg (d.size - (k + (k2 + 1)))
        case measure => omega
        case rel =>
         refine ⟨kk + 1, k2 + 1, q2 + nq, dk.setIfInBounds kk u, by go_num, by go_num, by omega, by omega, Nat.le_refl _, ⟨?_⟩, ⟨?_⟩⟩
         ·exact store_two (by rw [hds.out]; omega) (by rw [W2.out]; exact putRowK_drewN enc 2 w q2 nq g 0 dk) u
         ·have := I2.out.keep hlt2 (keeps_pos (by rw [hu.out, hv'.out]; exact huv))
          rwa [hu.out] at this
      ·have hend : k + k2 = d.size := by omega
       have hcl : ∀ ty, (Builtin.clear_ #[32] ty #[.slice (some ⟨g, kk * 2, none⟩) (d.size - kk) (cap - kk)]).run Tryz.prog wr = .ok (.tuple #[]) (wr.setCells g (kk * 2) (List.replicate ((d.size - kk) * 2) (.int .i64 0))) := fun ty => by
        refine run_clear_two wr ty g (kk * 2) (d.size - kk) (cap - kk) (by omega) (fun w => Tryz.zeroValue38 w) (fun j hj => ?_) (fun j hj => ?_)
        ·have h := (hHk.out.cell (i := kk + j / 2) (c := j % 2) (by omega) (by omega)).1
         rw [show 0 + (kk + j / 2) * 2 + j % 2 = kk * 2 + j by omega] at h
         rw [h]; rfl
        ·have h := (hHk.out.cell (i := kk + j / 2) (c := j % 2) (by omega) (by omega)).2
         rw [show 0 + (kk + j / 2) * 2 + j % 2 = kk * 2 + j by omega] at h
         exact h
       have hI : Aside0 (CompInv d d.size kk dk) := ⟨by have := I2.out; rwa [hend] at this⟩
       have hkc : kk < cap := by omega
       have hkd : kk < d.size := by omega
       clear hend
       replace hds := Aside0.mk hds
       go_wp2
       go_ret
       have hl := hI.out.len
       refine ⟨by rw [hl]; rfl, q2, (dk.toList.take kk ++ List.replicate (dk.size - kk) ((0, 0) : Dg.D)).toArray, by have := hds.out; simp; omega, ?_, ?_⟩
       ·rw [hl, ← comp_take hI.out (Nat.le_refl _), List.take_left' (by have := hds.out; simp; omega)]
       ·have := cleared_two (kk := kk) (by have := hds.out; omega) W2.out
        rw [hds.out] at this
        rw [hds.out]; exact this
    ·go_wp2_with fail
     have hw := k64 (j : Int) (by omega) (by omega)
     go_quiet (fail)
     clear hw
     go_wp2
     go_roundg (d.size - (k + 1))
     case measure => omega
     case rel =>
      refine ⟨k + 1, q + nq, by omega, by omega, Nat.le_refl _, by go_num, rfl, ⟨fun i hi => ?_⟩⟩
      by_cases e : i = k
      ·subst e
       exact keeps_pos (by rw [hx.out, hy'.out]; exact hdup)
      ·exact A.out i (by omega)
   ·have hks : k = d.size := by omega
    subst hks
    go_wp2
    go_ret
    obtain ⟨e1, e2, e3⟩ := HS.out q A.out
    exact ⟨by rw [e1]; rfl, q, d, rfl, e2, e3⟩
set_option maxHeartbeats 1000000 in
theorem compact_small (A : Option Addr) (c n : Nat) (w : World) (h : n < 2) : Calls Tryz.prog 169 #[.slice A n c] w fun e w' => e = .returned (.slice A n c) ∧ w' = w := by
 go_enter Tryz.func169, Tryz.ntmps169
 go_wp2
 go_ret
 exact ⟨rfl, rfl⟩
theorem compact_short (l : List Dg.D) (h : l.length < 2) : compact l = l := compact_all l fun j hj => keeps_lt_one _ j (by omega)
/-- Consecutive runs of equal ones, once each. -/
theorem compact_calls (A : Option Addr) (c base : Nat) (l : List Dg.D) (w : World) (hlen : l.length ≤ 1000000000) (ho : w.ownsRow base 38 2 (.slice A l.length c) l.length (flat l)) :
  Calls Tryz.prog 169 #[.slice A l.length c] w fun e w' => ∃ v, e = .returned v ∧ w'.ownsRow base 38 2 v (compact l).length (flat (compact l)) ∧ Below base w w' := by
 by_cases h2 : l.length < 2
 ·rw [compact_short l h2]
  refine (compact_small A c l.length w h2).mono ?_
  rintro e w' ⟨rfl, rfl⟩
  exact ⟨_, rfl, ho, Below.refl _ _⟩
 ·have hform : ∃ g, A = some ⟨g, 0, none⟩ := by
   rcases ho.2 with ⟨e0, h0⟩ | ⟨g, cap, cur, e0, _⟩
   ·omega
   ·injection e0 with e1
    exact ⟨g, e1⟩
  obtain ⟨g, rfl⟩ := hform
  obtain ⟨hH, hb, hlt, _, hc, hm⟩ := holds_of_own ho
  have hw := compact_walk g c l.toArray w hH (by simpa using hlen) (by simpa using hc)
  have hs : l.toArray.size = l.length := by simp
  rw [hs] at hw
  have hcm : compactUpTo l.toArray l.length = compact l := rfl
  rw [hcm] at hw
  have hle : (compact l).length ≤ l.length := by
   unfold compact compactUpTo
   rw [List.length_map]
   refine Nat.le_trans (List.length_filter_le _ _) ?_
   simp
  refine hw.mono ?_
  rintro e w' ⟨rfl, q, ys, h1, h3, rfl⟩
  refine ⟨_, rfl, ?_, below_putRowK (Below.refl _ _) hb⟩
  have := own_putRow (q := q) (ys := ys.toList) ho (by simpa using h1) hle
  rw [h3] at this
  simpa using this
end Go.Proofs.YtofklpphalalhaaGreatDoor
end
