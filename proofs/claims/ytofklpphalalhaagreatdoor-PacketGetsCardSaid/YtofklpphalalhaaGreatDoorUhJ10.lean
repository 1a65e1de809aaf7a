/- Texts of this claim, joined: DgM, DgN, GivenK. Each as it was, cut to what the claim uses. Conditions: each theorem's own. -/
import Derived.Test.YtofklpphalalhaaGreatDoorUhJ9
import Derived.Laws.AppendOwnNone
import Derived.Shelf.SlGeneric
import Derived.Shelf.Spec.SlicesGrow
import Derived.Ground.Names8Prog
import Derived.Test.YtofklpphalalhaaGreatDoorProg
import Derived.Test.YtofklpphalalhaaGreatDoorUhJ8
section
namespace Go.Proofs
open Go.Shelf
def Tryz.laysGrow_ren : Go.Shelf.Ren := ⟨fun | 4 => 200 | n => n, fun | 22 => 32 | 25 => 38 | n => n, fun | n => n⟩
theorem Tryz.laysGrow : Go.Proofs.Lays8.n4 Tryz.prog Tryz.laysGrow_ren := {
 mixed := by kernel_rfl
 f4 := ⟨Tryz.f200.name, by decide, Tryz.func200.trans (congrArg some (by kernel_rfl))⟩
 t0 := Tryz.underlying0
 a0 := Tryz.isAgg0
 z0 := Tryz.sizeOf0
 v0 := Tryz.zeroValue0
 t3 := Tryz.underlying3
 a3 := Tryz.isAgg3
 z3 := Tryz.sizeOf3
 v3 := Tryz.zeroValue3
 t4 := Tryz.underlying4
 a4 := Tryz.isAgg4
 z4 := Tryz.sizeOf4
 v4 := Tryz.zeroValue4
 t9 := Tryz.underlying9
 a9 := Tryz.isAgg9
 z9 := Tryz.sizeOf9
 v9 := Tryz.zeroValue9
 t20 := Tryz.underlying20
 a20 := Tryz.isAgg20
 z20 := Tryz.sizeOf20
 v20 := Tryz.zeroValue20
 t22 := Tryz.underlying32
 a22 := Tryz.isAgg32
 z22 := Tryz.sizeOf32
 v22 := Tryz.zeroValue32 }
end Go.Proofs
namespace Go.Proofs.YtofklpphalalhaaGreatDoor
set_option linter.unusedVariables false
set_option linter.unusedSimpArgs false
open Go.RowKit Go.Sort Go.Lib Go.Proofs.YtofklpphalalhaaGreatDoor.PAll Go.Proofs.YtofklpphalalhaaGreatDoorW.PrintWords Go.Proofs.YtofklpphalalhaaGreatDoorW.PrintLast
theorem grow_calls (n : Nat) (w : World) (hn : n ≤ 1000000) :
  Calls Tryz.prog 200 #[.slice none 0 0, .int .i64 (n : Int)] w fun e w' => ∃ v, e = .returned v ∧ w'.ownsRow w.heap.size 38 2 v 0 (flat []) ∧ Below w.heap.size w w' := by
 by_cases h0 : n = 0
 ·subst h0
  refine (Any8.slices_Grow_room Tryz.laysGrow none 0 0 0 w (by omega) (by omega) (by omega) (by omega)).mono ?_
  rintro e w' ⟨rfl, rfl⟩
  exact ⟨_, rfl, World.ownsRow_nil _ _ _ _, Below.refl _ _⟩
 ·obtain ⟨i0, hi, hz0, hz1, hz2⟩ := info_parts info38
  refine (Any8.slices_Grow_grow Tryz.laysGrow i0 _ hi hz0 (by omega) none 0 0 n [] w (by omega) (by omega) (by rw [hz2]; omega) (by omega) (by simp) (fun _ => rfl) (fun a h => by cases h)).mono ?_
  rintro e w' ⟨rfl, rfl⟩
  have hge := grownCap_ge w (0 + n) 0 (Tryz.laysGrow_ren.t 25)
  have hle := grownCap_le_maxLen w (0 + n) 0 (Tryz.laysGrow_ren.t 25) (by simp only [maxLen]; omega)
  refine ⟨_, rfl, ⟨rfl, .inr ⟨w.heap.size, _, _, rfl, Nat.le_refl _, heap_alloc_new w.drew _, Nat.zero_le _, hle, ?_, by simp [flat]⟩⟩, ((Below.refl _ w).drew).alloc (Nat.le_refl _) _⟩
  simp only [Array.size_append, List.size_toArray, size_zeroCells]
  simp [Value.cells]
  simp only [Nat.zero_add] at *
  show n * 2 + (_ - n) * 2 = _
  omega
theorem run_append_none_any {w : World} (base : Nat) (ty : TypeId) (v : Value) (n c : Nat) (xs : List Value) (hown : w.ownsRow base 38 2 v n xs) :
  (Builtin.append_ #[32, 32] ty #[v, .slice none 0 c]).run Tryz.prog w = .ok v w := by
 obtain ⟨i0, hi, hz0, hz1, hz2⟩ := info_parts info38
 rcases hown.2 with ⟨rfl, rfl⟩ | ⟨g, cap, cur, rfl, _, _, hnc, _⟩
 ·simp [Builtin.append_, run_underlying Tryz.underlying32, sizeOf, typeInfo, hi, Builtin.lenOf, Builtin.firstCells]
 ·simp [Builtin.append_, run_underlying Tryz.underlying32, sizeOf, typeInfo, hi, Builtin.lenOf, Builtin.firstCells, hnc, storeCells]
theorem wpList_append_diags {w : World} {ops : Array Oper} {rest : List Oper} {o : Oper} {a : Act} {Q : Exit → Act → World → Prop} (hgd : o.guard = none) (s x : Operand)
    (ho : o.op = .call { callee := .builtin .append, args := #[s, x], argTypes := #[32, 32] })
    (base : Nat) (v : Value) (l ys : List Dg.D) (hs : a.eval s = v) (hown : w.ownsRow base 38 2 v l.length (flat l)) (A : Option Addr) (m c : Nat) (hm : m = ys.length) (hx : a.eval x = .slice A m c) (hr : Rd w A ys)
    (hlen : l.length + ys.length ≤ 1000000) (hbase : base ≤ w.heap.size)
    (h : ∀ v' w', w'.ownsRow base 38 2 v' (l ++ ys).length (flat (l ++ ys)) → w.grownBy w' v.ownBlock → wpList Tryz.prog ops Q rest (a.put o.dst v') w') : wpList Tryz.prog ops Q (o :: rest) a w := by
  subst hm
  obtain ⟨i0, hi, hz0, hz1, hz2⟩ := info_parts info38
  have own : ∀ (ad : Addr), a.eval x = .slice (some ad) ys.length c → (∀ j u, (flat ys)[j]? = some u → w.cell? (ad.add j) = some u) → wpList Tryz.prog ops Q (o :: rest) a w := fun ad hx hc =>
    wpList_append_own w hgd s x 32 ho base 38 i0 (.agg #[.int .i64 0, .int .i64 0]) 2 16 Tryz.underlying32 hi hz0 hz1 hz2 rfl (by decide) v l.length (flat l) hs hown ad ys.length c (flat ys) hx (flat_len ys) hc (flat_one ys)
      (by simp only [maxLen]; omega) (by omega) hbase fun v' w' h1 h2 _ => h v' w' (by rw [List.length_append, flat_append]; exact h1) h2
  cases A with
  | some ad =>
    by_cases h0 : 0 < ys.length
    · obtain ⟨b, off, e⟩ := hr.at0 h0
      obtain rfl := Option.some.inj e
      exact own _ hx fun j u hj => (by rw [show (⟨b, off, none⟩ : Addr).add j = ⟨b, off + j, none⟩ by first | (simp [Addr.add]; done) | exact Go.WideShapes.add_plain ..]; exact hr.cells j u hj)
    · obtain rfl : ys = [] := List.length_eq_zero_iff.1 (by omega)
      exact own _ hx fun j u hj => by simp [flat] at hj
  | none =>
    have h0 : ys = [] := by
      cases ys with
      | nil => rfl
      | cons y ys => obtain ⟨b, off, e⟩ := hr.at0 (by simp); cases e
    subst h0
    refine wpList_plain hgd fun K hK => ?_
    have hrun := run_append_none_any base o.type v l.length c (flat l) hown
    unfold Oper.wp
    rw [List.length_nil] at hx
    simp [execOp, ho, resolve, invoke, builtin, hs, hx, hrun, Result.andThen]
    refine hK _ _ (h v w (by simpa using hown) ⟨rfl, rfl, rfl, Nat.le_refl _, fun _ _ _ => rfl⟩)
def tot (xss : List (List S38)) : Nat := (xss.map List.length).sum
theorem tot_next (xss : List (List S38)) (i : Nat) (h : i < xss.length) : tot (xss.take (i + 1)) = tot (xss.take i) + (rd_L17 xss (i : Int)).length := by
 unfold tot rd_L17
 rw [List.take_add_one, List.map_append, List.sum_append, Int.toNat_natCast, List.getD_eq_getElem?_getD, List.getElem?_eq_getElem h]
 simp
theorem tot_le (xss : List (List S38)) (i : Nat) : tot (xss.take i) ≤ tot xss := by
 unfold tot
 conv => rhs; rw [← List.take_append_drop i xss, List.map_append, List.sum_append]
 omega
theorem flat_next (xss : List (List S38)) (i : Nat) (h : i < xss.length) : (xss.take (i + 1)).flatten.map toD = (xss.take i).flatten.map toD ++ (rd_L17 xss (i : Int)).map toD := by
 unfold rd_L17
 rw [List.take_add_one, List.flatten_append, List.map_append, Int.toNat_natCast, List.getD_eq_getElem?_getD, List.getElem?_eq_getElem h]
 simp
theorem flat_tot (xss : List (List S38)) : (xss.flatten.map toD).length = tot xss := by
 unfold tot; rw [List.length_map, List.length_flatten]
set_option maxRecDepth 100000 in
set_option maxHeartbeats 4000000 in
theorem concat_calls (A : Option Addr) (c : Nat) (xss : List (List S38)) (w : World) (ht : tot xss ≤ 1000000) (hx : xss.length ≤ 1000000000) (hC : Kd.C (Kd.slice 38 k38) w A xss.length xss) :
  Calls Tryz.prog 166 #[.slice A xss.length c] w fun e w' => ∃ v, e = .returned v ∧ w'.ownsRow w.heap.size 38 2 v (xss.flatten.map toD).length (flat (xss.flatten.map toD)) ∧ Below w.heap.size w w' := by
 have HC := Aside0.mk hC
 clear hC
 obtain ⟨n, hn⟩ : ∃ n, xss.length = n := ⟨_, rfl⟩
 have HN := Aside0.mk hn
 rw [hn] at hx ⊢
 clear hn
 obtain ⟨L, hL⟩ : ∃ L, xss.flatten.map toD = L := ⟨_, rfl⟩
 rw [hL]
 have HL := Aside0.mk hL
 clear hL
 go_enter Tryz.func166, Tryz.ntmps166
 go_wp2
 go_loopg [3, 11] n (fun kx s3 s11 wr => ∃ (i S : Nat), s11 = .int .i64 i ∧ s3 = .int .i64 S ∧ i ≤ n ∧ n - i ≤ kx ∧ wr = w ∧ Aside0 (S = tot (xss.take i)))
 case atStart => exact ⟨0, 0, rfl, rfl, Nat.zero_le _, by omega, rfl, ⟨rfl⟩⟩
 case round =>
  obtain ⟨i, S, rfl, rfl, hi, hg, rfl, HS⟩ := hrel
  by_cases hlt : i < n
  ·obtain ⟨ad, A0, c0, rfl, hcell, hc0, hC0⟩ := at_L17 HC.out (i : Int) (by omega) (by have := HN.out; omega)
   rw [Int.toNat_natCast] at hcell
   obtain ⟨m, hm⟩ : ∃ m, (rd_L17 xss (i : Int)).length = m := ⟨_, rfl⟩
   rw [hm] at hcell
   have HM := Aside0.mk hm
   have hS : S + m ≤ 1000000 := by
    have h1 := tot_next xss i (by rw [HN.out]; exact hlt)
    have h2 := tot_le xss (i + 1)
    rw [HS.out, ← HM.out]; omega
   clear hm hc0 hC0
   have hm1 : (i : Int) < (n : Int) := by omega
   have hw1 : wrap64 ((S : Int) + (m : Int)) = ((S + m : Nat) : Int) := by rw [IntWalk.wrap64_in _ ⟨by omega, by omega⟩]; omega
   have hw2 : wrap64 ((i : Int) + 1) = ((i + 1 : Nat) : Int) := by rw [IntWalk.wrap64_in _ ⟨by omega, by omega⟩]; omega
   have hng : ¬ (((S + m : Nat) : Int) < 0) := by omega
   go_wp2
   go_roundg (n - (i + 1))
   case measure => omega
   case rel =>
    refine ⟨i + 1, S + m, by first | rfl | go_num, by first | rfl | go_num, by omega, Nat.le_refl _, rfl, ⟨?_⟩⟩
    rw [tot_next xss i (by rw [HN.out]; exact hlt), HS.out, HM.out]
  ·have hm1 : ¬ ((i : Int) < (n : Int)) := by omega
   obtain rfl : i = n := by omega
   have hST : S = tot xss := by have := HS.out; rw [List.take_of_length_le (by rw [HN.out]; exact Nat.le_refl _)] at this; exact this
   have hS6 : S ≤ 1000000 := by omega
   have HT := Aside0.mk ht
   clear hST HS ht
   go_wp2_with fail
   refine (grow_calls S wr hS6).mono ?_
   rintro e W1 ⟨v1, rfl, ho, hb⟩
   have HO := Aside0.mk ho
   have HB := Aside0.mk hb
   clear ho hb
   go_wp2
   go_loopg [6, 27] i (fun kx s6 s27 w2 => ∃ (t : Nat), s27 = .int .i64 t ∧ t ≤ i ∧ i - t ≤ kx ∧ Aside0 (w2.ownsRow wr.heap.size 38 2 s6 ((xss.take t).flatten.map toD).length (flat ((xss.take t).flatten.map toD))) ∧ Aside0 (Below wr.heap.size wr w2))
   case atStart => exact ⟨0, rfl, Nat.zero_le _, by omega, HO, HB⟩
   case round =>
    obtain ⟨t, rfl, hti, hg2, HO2, HB2⟩ := hrel
    by_cases hlt : t < i
    ·obtain ⟨ad, A0, c0, rfl, hcell, hc0, hC0⟩ := at_L17 (Kd.C_below HC.out HB2.out) (t : Int) (by omega) (by have := HN.out; omega)
     rw [Int.toNat_natCast] at hcell
     obtain ⟨m, hm⟩ : ∃ m, (rd_L17 xss (t : Int)).length = m := ⟨_, rfl⟩
     rw [hm] at hcell
     obtain ⟨ys, hys⟩ : ∃ ys, (rd_L17 xss (t : Int)).map toD = ys := ⟨_, rfl⟩
     have hRd := rd_of_C hC0
     rw [hys] at hRd
     have hml : m = ys.length := by rw [← hys, List.length_map, hm]
     have hnx := flat_next xss t (by rw [HN.out]; exact hlt)
     rw [hys] at hnx
     have hlen : ((xss.take t).flatten.map toD).length + ys.length ≤ 1000000 := by
      have h1 := tot_next xss t (by rw [HN.out]; exact hlt)
      have h2 := tot_le xss (t + 1)
      have h3 := flat_tot (xss.take t)
      have := HT.out
      rw [h3, ← hml, ← hm]; omega
     obtain ⟨l, hl⟩ : ∃ l, (xss.take t).flatten.map toD = l := ⟨_, rfl⟩
     rw [hl] at HO2 hlen hnx
     have HRd := Aside0.mk hRd
     have HML := Aside0.mk hml
     have HNX := Aside0.mk hnx
     have HLN := Aside0.mk hlen
     clear hm hc0 hC0 hys hRd hml hnx hl hlen
     have hm1 : (t : Int) < (i : Int) := by omega
     have hw2 : wrap64 ((t : Int) + 1) = ((t + 1 : Nat) : Int) := by rw [IntWalk.wrap64_in _ ⟨by omega, by omega⟩]; omega
     go_wp2_with (at_builtin; refine wpList_append_diags rfl _ _ rfl _ _ l ys rfl HO2.out A0 m c0 HML.out rfl HRd.out HLN.out HB2.out.size ?_)
     intro v' w3 hown hgrow
     have HO3 := Aside0.mk hown
     have HB3 := Aside0.mk (HB2.out.grown hgrow HB2.out.size fun k hk => (HO2.out.lt k hk).1)
     clear hown hgrow
     go_wp2
     go_roundg (i - (t + 1))
     case measure => omega
     case rel => exact ⟨t + 1, by first | rfl | go_num, by omega, Nat.le_refl _, ⟨by rw [HNX.out, List.length_append]; exact HO3.out⟩, HB3⟩
    ·have hm1 : ¬ ((t : Int) < (i : Int)) := by omega
     obtain rfl : t = i := by omega
     go_wp2
     go_ret
     have := HO2.out
     rw [List.take_of_length_le (by rw [HN.out]; exact Nat.le_refl _), HL.out] at this
     exact ⟨_, rfl, this, HB2.out⟩
end Go.Proofs.YtofklpphalalhaaGreatDoor
end
section
namespace Go.Proofs.YtofklpphalalhaaGreatDoor
set_option linter.unusedVariables false
set_option linter.unusedSimpArgs false
open Go.RowKit Go.Sort Go.Lib Go.Proofs.YtofklpphalalhaaGreatDoor.PAll Go.Proofs.YtofklpphalalhaaGreatDoorW.PrintWords Go.Proofs.YtofklpphalalhaaGreatDoorW.PrintLast
theorem own_belowD {w w' : World} {base n : Nat} {v : Value} {xs : List Value} (h : w.ownsRow base 38 2 v n xs) (hb : Below w.heap.size w w') : w'.ownsRow base 38 2 v n xs := own_move h fun k hk => by
 obtain ⟨cells, hc⟩ := own_typed h k hk
 refine hb.block k ?_
 rcases Nat.lt_or_ge k w.heap.size with h' | h'
 ·exact h'
 ·rw [Array.getElem?_eq_none h'] at hc; cases hc
theorem own_takeD {w : World} {base n c m : Nat} {A : Option Addr} {l : List Dg.D} (h : w.ownsRow base 38 2 (.slice A n c) n (flat l)) (hm : m ≤ n) : w.ownsRow base 38 2 (.slice A m c) m (flat (l.take m)) := by
 have hl : l.length = n := by have := h.1; rw [flat_len] at this; omega
 refine ⟨by rw [flat_len, List.length_take]; omega, ?_⟩
 rcases h.2 with ⟨e0, h0⟩ | ⟨g, cap, cur, e0, hb, hg, hn, hmx, hs, ht⟩
 ·left
  injection e0 with e1 _ e3
  subst e1; subst e3
  exact ⟨by rw [show m = 0 by omega], by omega⟩
 ·right
  injection e0 with e1 _ e3
  subst e1; subst e3
  refine ⟨g, c, cur, rfl, hb, hg, by omega, hmx, hs, ?_⟩
  rw [flat_take, ← ht, List.take_take, Nat.min_eq_left (by omega)]
theorem own_baseD {w : World} {base base' n : Nat} {v : Value} {xs : List Value} (h : w.ownsRow base 38 2 v n xs) (hb : base' ≤ base) : w.ownsRow base' 38 2 v n xs := by
 refine ⟨h.1, ?_⟩
 rcases h.2 with h2 | ⟨g, cap, cur, e0, h1, r⟩
 ·exact .inl h2
 ·exact .inr ⟨g, cap, cur, e0, Nat.le_trans hb h1, r⟩
theorem own_capD {w : World} {base n c : Nat} {A : Option Addr} {xs : List Value} (h : w.ownsRow base 38 2 (.slice A n c) n xs) : n ≤ c := by
 rcases h.2 with ⟨e0, h0⟩ | ⟨g, cap, cur, e0, _, _, h1, _⟩
 ·omega
 ·injection e0 with _ _ e3; omega
theorem lt_less (x y : Dg.D) : ltOf Dg.cmpD x y = Dg.less x y := by
 unfold ltOf
 rw [Bool.eq_iff_iff, decide_eq_true_eq, Dg.cmpD_neg]
theorem swo : SWO (ltOf Dg.cmpD) where
 irrefl x := by rw [lt_less]; exact Dg.less_irrefl x
 trans x y z h1 h2 := by rw [lt_less] at *; exact Dg.less_trans h1 h2
 ntrans x y z h1 h2 := by rw [lt_less] at *; rw [Dg.less_iff'] at *; omega
def sortD (l : List Dg.D) : List Dg.D := l.mergeSort fun x y => !Dg.less y x
theorem sortD_length (l : List Dg.D) : (sortD l).length = l.length := List.length_mergeSort ..
theorem below_grow {b : Nat} {w wr : World} (h : Below b w wr) (hb : b ≤ wr.heap.size) (os : Array Obj) : Below b w (grow wr os) := below_grown h hb 0 os
theorem sort_calls (v : Value) (base : Nat) (l : List Dg.D) (w : World) (hlen : l.length ≤ 1000000) (ho : w.ownsRow base 38 2 v l.length (flat l)) (hbase : base ≤ w.heap.size) :
  Calls Tryz.prog 167 #[v, .func (.func 168) #[] #[]] w fun e w' => e = .returned (.tuple #[]) ∧ w'.ownsRow base 38 2 v l.length (flat (sortD l)) ∧ Below base w w' := by
 rcases ho.2 with ⟨rfl, h0⟩ | ⟨g, cap, cur, rfl, hb, _⟩
 ·obtain rfl : l = [] := List.length_eq_zero_iff.1 h0
  refine (AnyF.slices_SortFunc_none (P := Tryz.prog) (ρ := Tryz.laysSort_ren) Tryz.laysSort none 0 (.func (.func 168) #[] #[]) w).mono ?_
  rintro e w' ⟨rfl, rfl⟩
  exact ⟨rfl, (by rw [show sortD [] = [] by simp [sortD]]; exact ho), Below.refl _ _⟩
 ·obtain ⟨hH, hbg, hg, _, _, _⟩ := holds_of_own ho
  have hS := AnyQ.slices_SortFunc_total Tryz.laysSort 2 (fun w => Tryz.isAgg38 w) (fun w => Tryz.sizeOf38 w) enc (fun _ => rfl) (fun x v hv => by
   simp [enc] at hv
   rcases hv with rfl | rfl <;> rfl) Dg.cmpD swo 168 #[] g 0 cap l.toArray w enters168 (fun m os dk _ x y => compare_calls x y _) hH hg (by simp only [List.size_toArray]; omega) (fun x y h1 h2 => by rw [lt_less] at h1 h2; exact Dg.less_total h1 h2)
  refine hS.mono ?_
  rintro e w' ⟨rfl, n, os, rfl⟩
  have hsd : (l.toArray.toList.mergeSort fun x y => !(ltOf Dg.cmpD) y x) = sortD l := by
   unfold sortD
   congr 1
   funext x y
   rw [lt_less]
  rw [hsd]
  have h1 := own_putRow (q := n) (m := l.length) (ys := sortD l) ho (sortD_length l) (Nat.le_refl _)
  rw [List.take_of_length_le (by rw [sortD_length]; exact Nat.le_refl _)] at h1
  have hsz : w.heap.size ≤ (putRowK enc 2 (Sort.ahead w n) g 0 (sortD l).toArray).heap.size := (below_putRowK (q := n) (d := (sortD l).toArray) ((Below.refl w.heap.size w).mono hbase) hbg).size
  refine ⟨rfl, own_belowD h1 (below_grow (Below.refl _ _) (Nat.le_refl _) os), below_grow (below_putRowK (Below.refl _ _) hbg) (Nat.le_trans hbase hsz) os⟩
def allD (l : List Dg.D) : List Dg.D := (compact (sortD l)).take 16
set_option maxRecDepth 100000 in
set_option maxHeartbeats 4000000 in
theorem all_walk (A : Option Addr) (c : Nat) (xss : List (List S38)) (w : World) (ht : tot xss ≤ 1000000) (hx : xss.length ≤ 1000000000) (hC : Kd.C (Kd.slice 38 k38) w A xss.length xss) :
  Calls Tryz.prog 114 #[.slice A xss.length c] w fun e w' => ∃ v, e = .returned v ∧ w'.ownsRow w.heap.size 38 2 v (allD (xss.flatten.map toD)).length (flat (allD (xss.flatten.map toD))) ∧ Below w.heap.size w w' := by
 have hc1 := concat_calls A c xss w ht hx hC
 have hlt := flat_tot xss
 obtain ⟨L, hL⟩ : ∃ L, xss.flatten.map toD = L := ⟨_, rfl⟩
 rw [hL] at hc1 hlt ⊢
 obtain ⟨n, hn⟩ : ∃ n, xss.length = n := ⟨_, rfl⟩
 rw [hn] at hc1 hx ⊢
 have hLn : L.length ≤ 1000000 := by omega
 have HLn := Aside0.mk hLn
 have HC1 := Aside0.mk hc1
 clear hL hC hlt ht hn hc1 hLn
 go_enter Tryz.func114, Tryz.ntmps114
 go_wp2_with fail
 refine HC1.out.mono ?_
 rintro e W1 ⟨v1, rfl, ho1, hb1⟩
 have hs := sort_calls v1 w.heap.size L W1 HLn.out ho1 hb1.size
 replace hs := Aside0.mk hs
 replace hb1 := Aside0.mk hb1
 clear ho1
 go_wp2_with fail
 refine hs.out.mono ?_
 rintro e W2 ⟨rfl, ho2, hb2⟩
 have hl2 := sortD_length L
 rw [← hl2] at ho2
 obtain ⟨A2, c2, rfl, _, _⟩ := rd_of_own ho2
 have hcp := compact_calls A2 c2 w.heap.size (sortD L) W2 (by have := HLn.out; omega) ho2
 replace hcp := Aside0.mk hcp
 have HB2 := Aside0.mk (hb1.out.trans hb2)
 clear hb2 ho2 hl2
 go_wp2_with fail
 refine hcp.out.mono ?_
 rintro e W3 ⟨v3, rfl, ho3, hb3⟩
 obtain ⟨A3, c3, rfl, _, _⟩ := rd_of_own ho3
 have hnc := own_capD ho3
 obtain ⟨m, hm⟩ : ∃ m, min (compact (sortD L)).length 16 = m := ⟨_, rfl⟩
 have hall : (allD L).length = m := by unfold allD; rw [List.length_take]; omega
 have hall2 : (compact (sortD L)).take m = allD L := by
  unfold allD
  by_cases h16 : (compact (sortD L)).length ≤ 16
  ·rw [List.take_of_length_le h16, List.take_of_length_le (by omega)]
  ·rw [show m = 16 by omega]
 have hfin := own_takeD (m := m) ho3 (by omega)
 rw [hall2] at hfin
 rw [← hall] at hfin
 have HF := Aside0.mk (And.intro hfin (HB2.out.trans hb3))
 have HA := Aside0.mk hall
 clear hfin hall2 hall ho3 hb3
 obtain ⟨k, hk⟩ : ∃ k, (compact (sortD L)).length = k := ⟨_, rfl⟩
 rw [hk] at hm hnc ⊢
 have hmI : min ((k : Nat) : Int) 16 = (m : Int) := by omega
 have hmc : m ≤ c3 := by omega
 clear hk
 go_wp2
 go_ret
 have := HF.out
 rw [HA.out] at this
 rw [HA.out]
 exact ⟨_, rfl, this.1, this.2⟩
end Go.Proofs.YtofklpphalalhaaGreatDoor
end
section
namespace Go.Proofs.YtofklpphalalhaaGreatDoor
set_option linter.unusedVariables false
set_option linter.unusedSimpArgs false
open Go.RowKit Go.Proofs.YtofklpphalalhaaGreatDoor.PAll Go.Proofs.YtofklpphalalhaaGreatDoorW.PrintWords Go.Proofs.YtofklpphalalhaaGreatDoorW.PrintLast Go.Proofs.YtofklpphalalhaaGreatDoorW.PrintMore
namespace Cn
def dg (f : S169) : Dg.D := (0, 300 + f.f0)
def zero : In := ⟨⟨#[]⟩, 0, 0, 0, 0, 0, [], []⟩
def told (x : In) : In × List Dg.D := if check x = [] then (norm x, []) else (zero, allD ((check x).map dg))
theorem nt_f0 (b : Bool) (f n : Int) : ∀ y ∈ nt b f n, y.f0 = f := by
 unfold nt; split <;> simp
theorem check_f0 (x : In) : ∀ y ∈ check x, 1 ≤ y.f0 ∧ y.f0 ≤ 13 := by
 have hh : ∀ y ∈ heads x, 1 ≤ y.f0 ∧ y.f0 ≤ 13 := by
  intro y hy
  unfold heads at hy
  simp only [List.mem_append] at hy
  rcases hy with ((((h | h) | h) | h) | h) | h <;> have := nt_f0 _ _ _ _ h <;> omega
 have hn : ∀ y ∈ nodesF x x.nodes.length, 1 ≤ y.f0 ∧ y.f0 ≤ 13 := by
  intro y hy
  unfold nodesF nodeF at hy
  simp only [List.mem_flatMap, List.mem_append] at hy
  obtain ⟨i, _, ((((h | h) | h) | h) | h)⟩ := hy <;> have := nt_f0 _ _ _ _ h <;> omega
 intro y hy
 unfold check at hy
 split at hy
 ·simp only [List.mem_append] at hy
  rcases hy with (h | h) | h
  ·exact hh y h
  ·have := nt_f0 _ _ _ _ h; omega
  ·exact hn y h
 ·simp only [List.mem_append, List.mem_singleton] at hy
  rcases hy with h | rfl
  ·exact hh y h
  ·exact ⟨by decide, by decide⟩
theorem check_len (x : In) : (check x).length ≤ 7 + 5 * 400 := by
  have hh : (heads x).length ≤ 6 := by
    unfold heads
    simp only [List.length_append]
    have a := nt_len (name x) 1 0; have b := nt_len (btw x.kind 1 4) 2 0; have c := nt_len (known x.metric) 3 0; have d := nt_len (scal x) 4 0; have e := nt_len (limit x x.cap 1 100000000) 5 0; have f := nt_len (limit x x.fleet 0 400) 6 0
    omega
  have hn : ∀ k, (nodesF x k).length ≤ 5 * k := by
    intro k
    induction k with
    | zero => simp [nodesF]
    | succ k ih =>
      rw [nodesF_succ, List.length_append]
      unfold nodeF
      simp only [List.length_append]
      have a := nt_len (coord x (rd_T71 x.nodes k)) 9 k; have b := nt_len (demand x (rd_T71 x.nodes k) k) 10 k; have c := nt_len (window x (rd_T71 x.nodes k)) 11 k; have d := nt_len (service x (rd_T71 x.nodes k)) 12 k; have e := nt_len (mate x (rd_T71 x.nodes k) k) 13 k
      omega
  unfold check
  split
  · rename_i h
    have := of_decide_eq_true (show decide ((1 : Int) ≤ x.nodes.length ∧ (x.nodes.length : Int) ≤ 400) = true from h)
    have h1 := nt_len (matrix x) 8 0
    have h2 := hn x.nodes.length
    simp only [List.length_append]
    omega
  · simp only [List.length_append, List.length_singleton]; omega
end Cn
/-- An instance with rows of its own. -/
def InR (w : World) (base : Nat) (v : Value) (x : Cn.In) : Prop := ∃ v6 v7, v = inV x v6 v7 ∧ Kd.R k71 71 w base (fun _ => True) v6 x.nodes ∧ Kd.R (Kd.int .i64) 3 w base (fun _ => True) v7 x.mx
/-- A row of diagnostics of its own. -/
def DR (w : World) (base : Nat) (v : Value) (l : List Dg.D) : Prop := w.ownsRow base 38 2 v l.length (flat l)
theorem own38_ne {w : World} {base n B T : Nat} {v : Value} {xs : List Value} {cs : Array Value} {fr : Nat × Nat} (hown : w.ownsRow base 38 2 v n xs) (hb : w.heap[B]? = some (.cells cs T fr)) (hT : T ≠ 38) : v.ownBlock ≠ some B := by
 rcases hown.2 with ⟨rfl, _⟩ | ⟨g, cap, cur, rfl, _, hg, _⟩
 ·simp [Value.ownBlock]
 ·intro h
  simp only [Value.ownBlock, Option.some.injEq] at h
  subst h
  rw [hg] at hb
  simp only [Option.some.injEq, Obj.cells.injEq] at hb
  exact hT hb.2.1.symm
set_option maxRecDepth 100000 in
set_option maxHeartbeats 8000000 in
theorem told_walk (x : Cn.In) (A6 A7 : Option Addr) (c6 c7 : Nat) (w : World) (hs : x.nm.size ≤ 140737488351232) (h6 : x.nodes.length ≤ 1000000000) (h7 : x.mx.length ≤ 1000000000) (hC6 : Kd.C k71 w A6 x.nodes.length x.nodes) (hC7 : Kd.C (Kd.int .i64) w A7 x.mx.length x.mx) :
    Calls Tryz.prog 60 #[inV x (.slice A6 x.nodes.length c6) (.slice A7 x.mx.length c7)] w fun e w' => ∃ v vl, e = .returned (.tuple #[v, vl]) ∧ InR w' w.heap.size v (Cn.told x).1 ∧ DR w' w.heap.size vl (Cn.told x).2 ∧ Below w.heap.size w w' := by
  obtain ⟨F, hF⟩ : ∃ F, Cn.check x = F := ⟨_, rfl⟩
  have hFl := Cn.check_len x
  have hf0 := Cn.check_f0 x
  have hT : Cn.told x = if F = [] then (Cn.norm x, []) else (Cn.zero, allD (F.map Cn.dg)) := by unfold Cn.told; rw [hF]
  rw [hT]
  have hck := fun w' h1 h2 => check_walk x A6 A7 c6 c7 w' hs h1 h2
  have hnm := fun w' h1 h2 => norm_walk x A6 A7 c6 c7 w' h6 h7 h1 h2
  rw [hF] at hck hFl hf0
  have HC6 := Aside0.mk hC6
  have HC7 := Aside0.mk hC7
  have HCK := Aside0.mk hck
  have HNM := Aside0.mk hnm
  have HF0 := Aside0.mk hf0
  clear hC6 hC7 hF hT hck hnm hf0
  have HB0 : Aside0 (Below w.heap.size w ((w.alloc (inB x (.slice A6 x.nodes.length c6) (.slice A7 x.mx.length c7))).alloc (.cells #[.string ⟨#[]⟩, .int .i64 0, .int .i64 0, .int .i64 0, .int .i64 0, .int .i64 0, .slice none 0 0, .slice none 0 0] 25))) := ⟨below_two _ _ _⟩
  have HT0 := Aside0.mk (two_blocks w (inB x (.slice A6 x.nodes.length c6) (.slice A7 x.mx.length c7)) (.cells #[.string ⟨#[]⟩, .int .i64 0, .int .i64 0, .int .i64 0, .int .i64 0, .int .i64 0, .slice none 0 0, .slice none 0 0] 25))
  go_enter Tryz.func60, Tryz.ntmps60
  go_wp2_with fail
  refine (HCK.out _ (Kd.C_below HC6.out HB0.out) (Kd.C_below HC7.out HB0.out)).mono ?_
  rintro e W1 ⟨v, rfl, ho, hb1⟩
  have hR := R_of_rows (K := k169) (enc := fac) k169_mkM (fun _ => rfl) (by decide) ho
  obtain ⟨A8, c8, rfl, _, hC8⟩ := Kd.R_reads hR
  have HC8 := Aside0.mk hC8
  have HB1 : Aside0 (Below w.heap.size w W1) := ⟨HB0.out.trans (hb1.mono (by simp; omega))⟩
  have HT1 : Aside0 (W1.heap[w.heap.size]? = some (inB x (.slice A6 x.nodes.length c6) (.slice A7 x.mx.length c7)) ∧ W1.heap[w.heap.size + 1]? = some (.cells #[.string ⟨#[]⟩, .int .i64 0, .int .i64 0, .int .i64 0, .int .i64 0, .int .i64 0, .slice none 0 0, .slice none 0 0] 25)) := ⟨(hb1.block _ (Array.getElem?_eq_some_iff.1 HT0.out.1).1).trans HT0.out.1, (hb1.block _ (Array.getElem?_eq_some_iff.1 HT0.out.2).1).trans HT0.out.2⟩
  clear ho hR hC8 hb1 HB0 HT0 HCK
  have HS : Aside0 (W1.ownsRow W1.heap.size 38 2 (.slice none 0 0) 0 (flat ((F.take 0).map Cn.dg))) := ⟨World.ownsRow_nil _ _ _ _⟩
  go_wp2_with fail
  go_loopw [4, 10] (fun v4 v10 wr => ∃ k : Nat, k ≤ F.length ∧ v10 = .int .i64 k ∧ wr.ownsRow W1.heap.size 38 2 v4 k (flat ((F.take k).map Cn.dg)) ∧ Below W1.heap.size W1 wr) (fun _ v _ => F.length - (intOf v).toNat)
  case atStart => exact ⟨0, Nat.zero_le _, rfl, HS.out, Below.refl _ _⟩
  case round =>
    obtain ⟨k, hk, rfl, ho, hb⟩ := hrel
    have HO := Aside0.mk ho
    have HB := Aside0.mk hb
    clear ho hb HS
    by_cases hlt : k < F.length
    · have hdl : decide (k < F.length) = true := decide_eq_true hlt
      obtain ⟨ad, e, x0, x1⟩ := at_T169 (Kd.C_below HC8.out HB.out) (k : Int) (by omega) (by omega)
      subst e
      simp only [Int.toNat_natCast] at x0 x1
      obtain ⟨f, hf⟩ : ∃ f, rd_T169 F k = f := ⟨_, rfl⟩
      have hFk : F[k]? = some f := by
        rw [← hf]; unfold rd_T169
        rw [Int.toNat_natCast, List.getD_eq_getElem?_getD, List.getElem?_eq_getElem hlt]; rfl
      have hff := HF0.out f (List.mem_of_getElem? hFk)
      have hnx : (F.take (k + 1)).map Cn.dg = (F.take k).map Cn.dg ++ [Cn.dg f] := by
        rw [List.take_add_one, hFk]; simp
      have HNX := Aside0.mk hnx
      rw [hf] at x0 x1
      have hww : wrap64 (300 + f.f0) = 300 + f.f0 := by rw [IntWalk.wrap64_in _ ⟨by omega, by omega⟩]
      obtain ⟨l, hl⟩ : ∃ l, (F.take k).map Cn.dg = l := ⟨_, rfl⟩
      have hlk : l.length = k := by rw [← hl]; simp; omega
      have hO2 := HO.out
      rw [hl, ← hlk] at hO2
      rw [hl] at HNX
      have HO2 : Aside0 (((wr.alloc (.cells #[.int .i64 f.f0, .int .i64 f.f1] 169)).alloc (.cells #[.int .i64 0, .int .i64 (300 + f.f0)] 38)).ownsRow W1.heap.size 38 2 _ l.length (flat l)) := ⟨own_belowD hO2 (below_two _ _ _)⟩
      have HRD : Aside0 (Rd ((wr.alloc (.cells #[.int .i64 f.f0, .int .i64 f.f1] 169)).alloc (.cells #[.int .i64 0, .int .i64 (300 + f.f0)] 38)) (some ⟨wr.heap.size + 1, 0, none⟩) [Cn.dg f]) := ⟨fun i hi => by
        have hi0 : i = 0 := by simp at hi; exact hi
        subst hi0
        have hb := (two_blocks wr (.cells #[.int .i64 f.f0, .int .i64 f.f1] 169) (.cells #[.int .i64 0, .int .i64 (300 + f.f0)] 38)).2
        refine ⟨_, rfl, ?_, ?_⟩
        · show World.cell? _ ⟨wr.heap.size + 1, 0, none⟩ = _
          rw [Lib.cell_of_heap hb]; rfl
        · show World.cell? _ ⟨wr.heap.size + 1, 1, none⟩ = _
          rw [Lib.cell_of_heap hb]; rfl⟩
      have hlm : l.length + [Cn.dg f].length ≤ 1000000 := by simp; omega
      have HBS : Aside0 (W1.heap.size ≤ ((wr.alloc (.cells #[.int .i64 f.f0, .int .i64 f.f1] 169)).alloc (.cells #[.int .i64 0, .int .i64 (300 + f.f0)] 38)).heap.size) := ⟨by have := HB.out.size; simp; omega⟩
      clear hf hFk hnx hl hO2
      go_wp2_with (at_builtin; refine wpList_append_diags rfl _ _ rfl W1.heap.size _ l [Cn.dg f] rfl HO2.out (some ⟨wr.heap.size + 1, 0, none⟩) 1 1 rfl rfl HRD.out hlm HBS.out ?_)
      intro v' w3 hown hgrow
      have HO3 : Aside0 (w3.ownsRow W1.heap.size 38 2 v' (k + 1) (flat ((F.take (k + 1)).map Cn.dg))) := ⟨by rw [HNX.out]; first | exact hown | (have h := hown; rw [List.length_append, hlk] at h; exact h)⟩
      have HB3 : Aside0 (Below W1.heap.size W1 w3) := ⟨(HB.out.trans ((below_two wr _ _).mono HB.out.size)).grown hgrow HBS.out (own_base HO2.out)⟩
      clear hown hgrow HRD HBS HO2 HO HB HNX
      go_wp2_with fail
      go_roundw
      case rel => exact ⟨k + 1, by omega, by go_num, HO3.out, HB3.out⟩
      case measure => simp [intOf]; omega
    · have hke : k = F.length := by omega
      have hdl : decide (k < F.length) = false := decide_eq_false hlt
      have hO2 := HO.out
      rw [hke, List.take_length] at hO2
      obtain ⟨l, hl⟩ : ∃ l, F.map Cn.dg = l := ⟨_, rfl⟩
      have hlk : l.length = F.length := by rw [← hl]; simp
      rw [hl] at hO2
      rw [← hlk] at hO2
      obtain ⟨A4, c4, rfl, _, hRd⟩ := rd_of_own hO2
      have HO2 := Aside0.mk hO2
      have HRD := Aside0.mk hRd
      have HBw : Aside0 (Below w.heap.size w wr) := ⟨HB1.out.trans (HB.out.mono HB1.out.size)⟩
      have HT2 : Aside0 (wr.heap[w.heap.size]? = some (inB x (.slice A6 x.nodes.length c6) (.slice A7 x.mx.length c7)) ∧ wr.heap[w.heap.size + 1]? = some (.cells #[.string ⟨#[]⟩, .int .i64 0, .int .i64 0, .int .i64 0, .int .i64 0, .int .i64 0, .slice none 0 0, .slice none 0 0] 25)) := ⟨(HB.out.block _ (Array.getElem?_eq_some_iff.1 HT1.out.1).1).trans HT1.out.1, (HB.out.block _ (Array.getElem?_eq_some_iff.1 HT1.out.2).1).trans HT1.out.2⟩
      have HL := Aside0.mk hl
      clear hl hO2 hRd HO HB1 HT1
      have hFp : decide (0 < F.length) = !decide (F.length = 0) := by by_cases h : F.length = 0 <;> simp [h]; omega
      by_cases h0 : F = []
      · have hl0 : l.length = 0 := by rw [hlk, h0]; rfl
        have h113 := HNM.out wr (Kd.C_below HC6.out HBw.out) (Kd.C_below HC7.out HBw.out)
        have HN := Aside0.mk h113
        have HF := Aside0.mk h0
        obtain ⟨d0, d1, d2, d3, d4, d5, d6, d7⟩ : wr.cell? ⟨w.heap.size, 0, none⟩ = some (.string x.nm) ∧ wr.cell? ⟨w.heap.size, 1, none⟩ = some (.int .i64 x.kind) ∧ wr.cell? ⟨w.heap.size, 2, none⟩ = some (.int .i64 x.metric) ∧ wr.cell? ⟨w.heap.size, 3, none⟩ = some (.int .i64 x.scale) ∧ wr.cell? ⟨w.heap.size, 4, none⟩ = some (.int .i64 x.cap) ∧ wr.cell? ⟨w.heap.size, 5, none⟩ = some (.int .i64 x.fleet) ∧ wr.cell? ⟨w.heap.size, 6, none⟩ = some (.slice A6 x.nodes.length c6) ∧ wr.cell? ⟨w.heap.size, 7, none⟩ = some (.slice A7 x.mx.length c7) := by
          refine ⟨?_, ?_, ?_, ?_, ?_, ?_, ?_, ?_⟩ <;> (rw [Lib.cell_of_heap HT2.out.1]; rfl)
        rw [hl0]
        clear h113 HNM HF0
        go_wp2_with fail
        refine HN.out.mono ?_
        rintro e W5 ⟨v6, v7, rfl, hR6, hR7, hb5⟩
        obtain ⟨y, hy⟩ : ∃ y, Cn.norm x = y := ⟨_, rfl⟩
        rw [hy] at hR6 hR7 ⊢
        have HY := Aside0.mk hy
        have hz5 := (hb5.block _ (Array.getElem?_eq_some_iff.1 HT2.out.2).1).trans HT2.out.2
        have HR6 := Aside0.mk hR6
        have HR7 := Aside0.mk hR7
        have HB5 := Aside0.mk hb5
        have HZ5 := Aside0.mk hz5
        obtain ⟨B6, q6, rfl⟩ := Kd.R_slice hR6
        obtain ⟨B7, q7, rfl⟩ := Kd.R_slice hR7
        clear hy hR6 hR7 hb5 hz5 HN d0 d1 d2 d3 d4 d5 d6 d7
        go_wp2_with (refine gate_ (.store 25 (.tmp 2) (.tmp 30)) rfl ?_; refine wpList_store_all rfl rfl 25 (.tmp 2) (.tmp 30) rfl HZ5.out (by rfl) _ [.string y.nm, .int .i64 y.kind, .int .i64 y.metric, .int .i64 y.scale, .int .i64 y.cap, .int .i64 y.fleet, .slice B6 y.nodes.length q6, .slice B7 y.mx.length q7] (by rfl) rfl (by kernel_rfl) rfl (by intro q hq; simp only [List.mem_cons, List.not_mem_nil, or_false] at hq; rcases hq with rfl | rfl | rfl | rfl | rfl | rfl | rfl | rfl <;> rfl) ?_)
        intro w1 hb1 hg1
        go_wp2_with fail
        refine bodyPost_ret (results_ct rfl _ _ (w.heap.size + 1) 25 #[.string y.nm, .int .i64 y.kind, .int .i64 y.metric, .int .i64 y.scale, .int .i64 y.cap, .int .i64 y.fleet, .slice B6 y.nodes.length q6, .slice B7 y.mx.length q7] (0, 0) _ rfl hb1 Tryz.underlying25 rfl (by kernel_rfl)) rfl ?_
        first | rw [if_pos HF.out] | skip
        first | rw [HY.out] | skip
        have s : ∀ k, (True ∧ k ≠ w.heap.size + 1) → some k ≠ some (w.heap.size + 1) := fun k hk e => hk.2 (by injection e)
        refine ⟨_, _, rfl, ⟨_, _, rfl, Kd.R_lower (Kd.R_mono (Kd.R_grown (Kd.R_types HR6.out HZ5.out (by decide)) hg1 s) (fun _ _ => trivial)) HBw.out.size, Kd.R_lower (Kd.R_mono (Kd.R_grown (Kd.R_types HR7.out HZ5.out (by decide)) hg1 s) (fun _ _ => trivial)) HBw.out.size⟩, World.ownsRow_nil _ _ _ _, (HBw.out.trans (HB5.out.mono HBw.out.size)).grown hg1 (Nat.le_trans HBw.out.size HB5.out.size) (by intro k hk; simp at hk; omega)⟩
      · have hl0 : 0 < l.length := by rw [hlk]; exact List.length_pos_iff.2 h0
        replace hFp : decide (0 < F.length) = true := decide_eq_true (by omega)
        have hFq : 0 < F.length := by omega
        have hFn : ¬ F.length = 0 := by omega
        have hR4 := R_of_own HO2.out
        obtain ⟨A4', c4', e4, hc4, hC4⟩ := Kd.R_reads hR4
        have hlm : (l.map toS).length = F.length := by rw [List.length_map, hlk]
        rw [hlm] at e4
        rw [hlk] at e4
        injection e4 with e41 _ e42
        subst e41 e42
        have hCS : Kd.C (Kd.slice 38 k38) (wr.alloc (.cells #[.slice A4 F.length c4] 32)) (some ⟨wr.heap.size, 0, none⟩) 1 [l.map toS] := by
          refine ⟨rfl, by decide, fun _ => ⟨_, rfl, fun j p hp => ?_⟩⟩
          match j, hp with
          | 0, hp =>
            simp only [List.getElem?_cons_zero, Option.some.injEq] at hp
            subst hp
            refine ⟨[.slice A4 F.length c4], rfl, ⟨A4, c4, by rw [hlm], by omega, Kd.C_below hC4 (below_one _ _)⟩, fun i u hu => ?_⟩
            match i, hu with
            | 0, hu =>
              simp only [List.getElem?_cons_zero, Option.some.injEq] at hu
              subst hu
              show World.cell? _ ⟨wr.heap.size, 0, none⟩ = _
              rw [Lib.cell_of_heap (by exact Array.getElem?_push_size)]; rfl
        have hal := all_walk (some ⟨wr.heap.size, 0, none⟩) 1 [l.map toS] _ (by simp [tot]; omega) (by simp) hCS
        have hfl : [l.map toS].flatten.map toD = l := by simp [Function.comp_def, toD_toS]
        rw [hfl] at hal
        have HAL := Aside0.mk hal
        clear hal hfl hCS hR4 hC4
        have hF := Aside0.mk h0
        go_wp2_with fail
        refine HAL.out.mono ?_
        rintro e W5 ⟨v5, rfl, ho5, hb5⟩
        have hb5' : Below w.heap.size w W5 := HBw.out.trans (((below_one wr _).trans (hb5.mono (by simp))).mono HBw.out.size)
        have hz5 : W5.heap[w.heap.size + 1]? = some (.cells #[.string ⟨#[]⟩, .int .i64 0, .int .i64 0, .int .i64 0, .int .i64 0, .int .i64 0, .slice none 0 0, .slice none 0 0] 25) := (hb5.block _ (by have := (Array.getElem?_eq_some_iff.1 HT2.out.2).1; simp; omega)).trans ((Below.heap_alloc _ _ _ (Array.getElem?_eq_some_iff.1 HT2.out.2).1).trans HT2.out.2)
        have HO5 := Aside0.mk ho5
        have HB5 := Aside0.mk hb5'
        have HZ5 := Aside0.mk hz5
        clear ho5 hb5 hb5' hz5 HAL
        go_wp2_with (refine gate_ (.store 25 (.tmp 2) (.tmp 25)) rfl ?_; refine wpList_store_all rfl rfl 25 (.tmp 2) (.tmp 25) rfl HZ5.out (by rfl) _ [.string ⟨#[]⟩, .int .i64 0, .int .i64 0, .int .i64 0, .int .i64 0, .int .i64 0, .slice none 0 0, .slice none 0 0] (by rfl) rfl (by kernel_rfl) rfl (by intro q hq; simp only [List.mem_cons, List.not_mem_nil, or_false] at hq; rcases hq with rfl | rfl | rfl | rfl | rfl | rfl | rfl | rfl <;> rfl) ?_)
        intro w1 hb1 hg1
        go_wp2_with fail
        refine bodyPost_ret (results_ct rfl _ _ (w.heap.size + 1) 25 #[.string ⟨#[]⟩, .int .i64 0, .int .i64 0, .int .i64 0, .int .i64 0, .int .i64 0, .slice none 0 0, .slice none 0 0] (0, 0) _ rfl hb1 Tryz.underlying25 rfl (by kernel_rfl)) rfl ?_
        first | rw [if_neg hF.out] | skip
        first | rw [HL.out] | skip
        refine ⟨_, _, rfl, ⟨_, _, rfl, Kd.R_nil _ _ _ _ _, Kd.R_nil _ _ _ _ _⟩, own_baseD (HO5.out.kept hg1 (.inr (own38_ne HO5.out HZ5.out (by decide)))) (by have := HBw.out.size; simp; omega), HB5.out.grown hg1 HB5.out.size (by intro k hk; simp at hk; omega)⟩
end Go.Proofs.YtofklpphalalhaaGreatDoor
end
