/- Grow and Concat at diagnostics, walked by hand. Conditions: at most 1000000 in all. -/
import Derived.Test.YtgphciopondlaaaDoorGivenI
import Derived.Laws.AppendOwnNone
import Derived.Shelf.SlGeneric
import Derived.Shelf.Spec.SlicesGrow
import Derived.Ground.Names8Prog
import Derived.Test.YtgphciopondlaaaDoorProg
namespace Go.Proofs
open Go.Shelf
def Tryd.laysGrow_ren : Go.Shelf.Ren := ⟨fun | 4 => 39 | n => n, fun | n => n, fun | n => n⟩
theorem Tryd.laysGrow : Go.Proofs.Lays8.n4 Tryd.prog Tryd.laysGrow_ren := {
  mixed := by kernel_rfl
  f4 := ⟨Tryd.f39.name, by decide, Tryd.func39.trans (congrArg some (by kernel_rfl))⟩
  t0 := Tryd.underlying0
  a0 := Tryd.isAgg0
  z0 := Tryd.sizeOf0
  v0 := Tryd.zeroValue0
  t3 := Tryd.underlying3
  a3 := Tryd.isAgg3
  z3 := Tryd.sizeOf3
  v3 := Tryd.zeroValue3
  t4 := Tryd.underlying4
  a4 := Tryd.isAgg4
  z4 := Tryd.sizeOf4
  v4 := Tryd.zeroValue4
  t9 := Tryd.underlying9
  a9 := Tryd.isAgg9
  z9 := Tryd.sizeOf9
  v9 := Tryd.zeroValue9
  t20 := Tryd.underlying20
  a20 := Tryd.isAgg20
  z20 := Tryd.sizeOf20
  v20 := Tryd.zeroValue20
  t22 := Tryd.underlying22
  a22 := Tryd.isAgg22
  z22 := Tryd.sizeOf22
  v22 := Tryd.zeroValue22 }
end Go.Proofs

namespace Go.Proofs.YtgphciopondlaaaDoor
set_option linter.unusedVariables false
set_option linter.unusedSimpArgs false
open Go.RowKit Go.Sort Go.Lib Go.Proofs.YtgphciopondlaaaDoor.PAll Go.Proofs.YtgphciopondlaaaDoorW.PrintWords Go.Proofs.YtgphciopondlaaaDoorW.PrintLast

theorem grow_calls (n : Nat) (w : World) (hn : n ≤ 1000000) :
    Calls Tryd.prog 39 #[.slice none 0 0, .int .i64 (n : Int)] w fun e w' => ∃ v, e = .returned v ∧ w'.ownsRow w.heap.size 25 2 v 0 (flat []) ∧ Below w.heap.size w w' := by
  by_cases h0 : n = 0
  · subst h0
    refine (Any8.slices_Grow_room Tryd.laysGrow none 0 0 0 w (by omega) (by omega) (by omega) (by omega)).mono ?_
    rintro e w' ⟨rfl, rfl⟩
    exact ⟨_, rfl, World.ownsRow_nil _ _ _ _, Below.refl _ _⟩
  · obtain ⟨i0, hi, hz0, hz1, hz2⟩ := info_parts info25
    refine (Any8.slices_Grow_grow Tryd.laysGrow i0 _ hi hz0 (by omega) none 0 0 n [] w (by omega) (by omega) (by rw [hz2]; omega) (by omega) (by simp) (fun _ => rfl) (fun a h => by cases h)).mono ?_
    rintro e w' ⟨rfl, rfl⟩
    have hge := grownCap_ge w (0 + n) 0 (Tryd.laysGrow_ren.t 25)
    have hle := grownCap_le_maxLen w (0 + n) 0 (Tryd.laysGrow_ren.t 25) (by simp only [maxLen]; omega)
    refine ⟨_, rfl, ⟨rfl, .inr ⟨w.heap.size, _, _, rfl, Nat.le_refl _, heap_alloc_new w.drew _, Nat.zero_le _, hle, ?_, by simp [flat]⟩⟩, ((Below.refl _ w).drew).alloc (Nat.le_refl _) _⟩
    simp only [Array.size_append, List.size_toArray, size_zeroCells]
    simp [Value.cells]
    simp only [Nat.zero_add] at *
    show n * 2 + (_ - n) * 2 = _
    omega
theorem run_append_none_any {w : World} (base : Nat) (ty : TypeId) (v : Value) (n c : Nat) (xs : List Value) (hown : w.ownsRow base 25 2 v n xs) :
    (Builtin.append_ #[22, 22] ty #[v, .slice none 0 c]).run Tryd.prog w = .ok v w := by
  obtain ⟨i0, hi, hz0, hz1, hz2⟩ := info_parts info25
  rcases hown.2 with ⟨rfl, rfl⟩ | ⟨g, cap, cur, rfl, _, _, hnc, _⟩
  · simp [Builtin.append_, run_underlying Tryd.underlying22, sizeOf, typeInfo, hi, Builtin.lenOf, Builtin.firstCells]
  · simp [Builtin.append_, run_underlying Tryd.underlying22, sizeOf, typeInfo, hi, Builtin.lenOf, Builtin.firstCells, hnc, storeCells]
theorem wpList_append_diags {w : World} {ops : Array Oper} {rest : List Oper} {o : Oper} {a : Act} {Q : Exit → Act → World → Prop} (hgd : o.guard = none) (s x : Operand)
    (ho : o.op = .call { callee := .builtin .append, args := #[s, x], argTypes := #[22, 22] })
    (base : Nat) (v : Value) (l ys : List Dg.D) (hs : a.eval s = v) (hown : w.ownsRow base 25 2 v l.length (flat l)) (A : Option Addr) (m c : Nat) (hm : m = ys.length) (hx : a.eval x = .slice A m c) (hr : Rd w A ys)
    (hlen : l.length + ys.length ≤ 1000000) (hbase : base ≤ w.heap.size)
    (h : ∀ v' w', w'.ownsRow base 25 2 v' (l ++ ys).length (flat (l ++ ys)) → w.grownBy w' v.ownBlock → wpList Tryd.prog ops Q rest (a.put o.dst v') w') : wpList Tryd.prog ops Q (o :: rest) a w := by
  subst hm
  obtain ⟨i0, hi, hz0, hz1, hz2⟩ := info_parts info25
  have own : ∀ (ad : Addr), a.eval x = .slice (some ad) ys.length c → (∀ j u, (flat ys)[j]? = some u → w.cell? (ad.add j) = some u) → wpList Tryd.prog ops Q (o :: rest) a w := fun ad hx hc =>
    wpList_append_own w hgd s x 22 ho base 25 i0 (.agg #[.int .i64 0, .int .i64 0]) 2 16 Tryd.underlying22 hi hz0 hz1 hz2 rfl (by decide) v l.length (flat l) hs hown ad ys.length c (flat ys) hx (flat_len ys) hc (flat_one ys)
      (by simp only [maxLen]; omega) (by omega) hbase fun v' w' h1 h2 _ => h v' w' (by rw [List.length_append, flat_append]; exact h1) h2
  cases A with
  | some ad =>
    by_cases h0 : 0 < ys.length
    · obtain ⟨b, off, e⟩ := hr.at0 h0
      obtain rfl := Option.some.inj e
      exact own _ hx fun j u hj => (by rw [show (⟨b, off, none⟩ : Addr).add j = ⟨b, off + j, none⟩ by first | (simp [Addr.add]; done) | exact Go.WideShapes.add_plain ..]; exact hr.cells j u hj)
    · obtain rfl : ys = [] := List.length_eq_zero_iff.1 (by omega)
      exact own _ hx fun j u hj => by simp [flat] at hj
  | none =>
    have h0 : ys = [] := by
      cases ys with
      | nil => rfl
      | cons y ys => obtain ⟨b, off, e⟩ := hr.at0 (by simp); cases e
    subst h0
    refine wpList_plain hgd fun K hK => ?_
    have hrun := run_append_none_any base o.type v l.length c (flat l) hown
    unfold Oper.wp
    rw [List.length_nil] at hx
    simp [execOp, ho, resolve, invoke, builtin, hs, hx, hrun, Result.andThen]
    refine hK _ _ (h v w (by simpa using hown) ⟨rfl, rfl, rfl, Nat.le_refl _, fun _ _ _ => rfl⟩)
def tot (xss : List (List S25)) : Nat := (xss.map List.length).sum
theorem tot_next (xss : List (List S25)) (i : Nat) (h : i < xss.length) : tot (xss.take (i + 1)) = tot (xss.take i) + (rd_L2 xss (i : Int)).length := by
  unfold tot rd_L2
  rw [List.take_add_one, List.map_append, List.sum_append, Int.toNat_natCast, List.getD_eq_getElem?_getD, List.getElem?_eq_getElem h]
  simp
theorem tot_le (xss : List (List S25)) (i : Nat) : tot (xss.take i) ≤ tot xss := by
  unfold tot
  conv => rhs; rw [← List.take_append_drop i xss, List.map_append, List.sum_append]
  omega
theorem flat_next (xss : List (List S25)) (i : Nat) (h : i < xss.length) : (xss.take (i + 1)).flatten.map toD = (xss.take i).flatten.map toD ++ (rd_L2 xss (i : Int)).map toD := by
  unfold rd_L2
  rw [List.take_add_one, List.flatten_append, List.map_append, Int.toNat_natCast, List.getD_eq_getElem?_getD, List.getElem?_eq_getElem h]
  simp
theorem flat_tot (xss : List (List S25)) : (xss.flatten.map toD).length = tot xss := by
  unfold tot; rw [List.length_map, List.length_flatten]
set_option maxRecDepth 100000 in
set_option maxHeartbeats 4000000 in
theorem concat_calls (A : Option Addr) (c : Nat) (xss : List (List S25)) (w : World) (ht : tot xss ≤ 1000000) (hx : xss.length ≤ 1000000000) (hC : Kd.C (Kd.slice 25 k25) w A xss.length xss) :
    Calls Tryd.prog 31 #[.slice A xss.length c] w fun e w' => ∃ v, e = .returned v ∧ w'.ownsRow w.heap.size 25 2 v (xss.flatten.map toD).length (flat (xss.flatten.map toD)) ∧ Below w.heap.size w w' := by
  have HC := Aside0.mk hC
  clear hC
  obtain ⟨n, hn⟩ : ∃ n, xss.length = n := ⟨_, rfl⟩
  have HN := Aside0.mk hn
  rw [hn] at hx ⊢
  clear hn
  obtain ⟨L, hL⟩ : ∃ L, xss.flatten.map toD = L := ⟨_, rfl⟩
  rw [hL]
  have HL := Aside0.mk hL
  clear hL
  go_enter Tryd.func31, Tryd.ntmps31
  go_wp2
  go_loopg [3, 11] n (fun kx s3 s11 wr => ∃ (i S : Nat), s11 = .int .i64 i ∧ s3 = .int .i64 S ∧ i ≤ n ∧ n - i ≤ kx ∧ wr = w ∧ Aside0 (S = tot (xss.take i)))
  case atStart => exact ⟨0, 0, rfl, rfl, Nat.zero_le _, by omega, rfl, ⟨rfl⟩⟩
  case round =>
    obtain ⟨i, S, rfl, rfl, hi, hg, rfl, HS⟩ := hrel
    by_cases hlt : i < n
    · obtain ⟨ad, A0, c0, rfl, hcell, hc0, hC0⟩ := at_L2 HC.out (i : Int) (by omega) (by have := HN.out; omega)
      rw [Int.toNat_natCast] at hcell
      obtain ⟨m, hm⟩ : ∃ m, (rd_L2 xss (i : Int)).length = m := ⟨_, rfl⟩
      rw [hm] at hcell
      have HM := Aside0.mk hm
      have hS : S + m ≤ 1000000 := by
        have h1 := tot_next xss i (by rw [HN.out]; exact hlt)
        have h2 := tot_le xss (i + 1)
        rw [HS.out, ← HM.out]; omega
      clear hm hc0 hC0
      have hm1 : (i : Int) < (n : Int) := by omega
      have hw1 : wrap64 ((S : Int) + (m : Int)) = ((S + m : Nat) : Int) := by rw [IntWalk.wrap64_in _ ⟨by omega, by omega⟩]; omega
      have hw2 : wrap64 ((i : Int) + 1) = ((i + 1 : Nat) : Int) := by rw [IntWalk.wrap64_in _ ⟨by omega, by omega⟩]; omega
      have hng : ¬ (((S + m : Nat) : Int) < 0) := by omega
      go_wp2
      go_roundg (n - (i + 1))
      case measure => omega
      case rel =>
        refine ⟨i + 1, S + m, by first | rfl | go_num, by first | rfl | go_num, by omega, Nat.le_refl _, rfl, ⟨?_⟩⟩
        rw [tot_next xss i (by rw [HN.out]; exact hlt), HS.out, HM.out]
    · have hm1 : ¬ ((i : Int) < (n : Int)) := by omega
      obtain rfl : i = n := by omega
      have hST : S = tot xss := by have := HS.out; rw [List.take_of_length_le (by rw [HN.out]; exact Nat.le_refl _)] at this; exact this
      have hS6 : S ≤ 1000000 := by omega
      have HT := Aside0.mk ht
      clear hST HS ht
      go_wp2_with fail
      refine (grow_calls S wr hS6).mono ?_
      rintro e W1 ⟨v1, rfl, ho, hb⟩
      have HO := Aside0.mk ho
      have HB := Aside0.mk hb
      clear ho hb
      go_wp2
      go_loopg [6, 27] i (fun kx s6 s27 w2 => ∃ (t : Nat), s27 = .int .i64 t ∧ t ≤ i ∧ i - t ≤ kx ∧ Aside0 (w2.ownsRow wr.heap.size 25 2 s6 ((xss.take t).flatten.map toD).length (flat ((xss.take t).flatten.map toD))) ∧ Aside0 (Below wr.heap.size wr w2))
      case atStart => exact ⟨0, rfl, Nat.zero_le _, by omega, HO, HB⟩
      case round =>
        obtain ⟨t, rfl, hti, hg2, HO2, HB2⟩ := hrel
        by_cases hlt : t < i
        · obtain ⟨ad, A0, c0, rfl, hcell, hc0, hC0⟩ := at_L2 (Kd.C_below HC.out HB2.out) (t : Int) (by omega) (by have := HN.out; omega)
          rw [Int.toNat_natCast] at hcell
          obtain ⟨m, hm⟩ : ∃ m, (rd_L2 xss (t : Int)).length = m := ⟨_, rfl⟩
          rw [hm] at hcell
          obtain ⟨ys, hys⟩ : ∃ ys, (rd_L2 xss (t : Int)).map toD = ys := ⟨_, rfl⟩
          have hRd := rd_of_C hC0
          rw [hys] at hRd
          have hml : m = ys.length := by rw [← hys, List.length_map, hm]
          have hnx := flat_next xss t (by rw [HN.out]; exact hlt)
          rw [hys] at hnx
          have hlen : ((xss.take t).flatten.map toD).length + ys.length ≤ 1000000 := by
            have h1 := tot_next xss t (by rw [HN.out]; exact hlt)
            have h2 := tot_le xss (t + 1)
            have h3 := flat_tot (xss.take t)
            have := HT.out
            rw [h3, ← hml, ← hm]; omega
          obtain ⟨l, hl⟩ : ∃ l, (xss.take t).flatten.map toD = l := ⟨_, rfl⟩
          rw [hl] at HO2 hlen hnx
          have HRd := Aside0.mk hRd
          have HML := Aside0.mk hml
          have HNX := Aside0.mk hnx
          have HLN := Aside0.mk hlen
          clear hm hc0 hC0 hys hRd hml hnx hl hlen
          have hm1 : (t : Int) < (i : Int) := by omega
          have hw2 : wrap64 ((t : Int) + 1) = ((t + 1 : Nat) : Int) := by rw [IntWalk.wrap64_in _ ⟨by omega, by omega⟩]; omega
          go_wp2_with (at_builtin; refine wpList_append_diags rfl _ _ rfl _ _ l ys rfl HO2.out A0 m c0 HML.out rfl HRd.out HLN.out HB2.out.size ?_)
          intro v' w3 hown hgrow
          have HO3 := Aside0.mk hown
          have HB3 := Aside0.mk (HB2.out.grown hgrow HB2.out.size fun k hk => (HO2.out.lt k hk).1)
          clear hown hgrow
          go_wp2
          go_roundg (i - (t + 1))
          case measure => omega
          case rel => exact ⟨t + 1, by first | rfl | go_num, by omega, Nat.le_refl _, ⟨by rw [HNX.out, List.length_append]; exact HO3.out⟩, HB3⟩
        · have hm1 : ¬ ((t : Int) < (i : Int)) := by omega
          obtain rfl : t = i := by omega
          go_wp2
          go_ret
          have := HO2.out
          rw [List.take_of_length_le (by rw [HN.out]; exact Nat.le_refl _), HL.out] at this
          exact ⟨_, rfl, this, HB2.out⟩
end Go.Proofs.YtgphciopondlaaaDoor
