/- The line iterator of cursor, walked by hand: strings.Cut at a line feed; lines; its closure. Conditions: texts of at most 140737488351232 bytes. -/
import Derived.RangeFuncNested
import Derived.RangeFuncBound
import Derived.RangeFuncCalls
import Derived.RangeFuncLeaves
import Derived.Shelf.Abstract
import Derived.Shelf.RegionOpen
import Derived.WalkKit
import Derived.OwnWalkIn
import Derived.TacticsInMore
import Derived.LoopNIn
import Derived.LoopIn
import Derived.Lib.IndexLaws
import Derived.BigQuiet
import Derived.Sort.CutIn
import Derived.Test.YtfdeffjdhpdfeaaDoorGivenA
namespace Go.Proofs.YtfdeffjdhpdfeaaDoor
set_option linter.unusedVariables false
set_option linter.unusedSimpArgs false
open Go.RowKit Go.Shelf
open Go.Proofs.YtfdeffjdhpdfeaaDoorW.PrintWords Go.Proofs.YtfdeffjdhpdfeaaDoorW.PrintLast

abbrev S (l : List UInt8) : ByteArray := ⟨l.toArray⟩
theorem S_of' (s : ByteArray) : S s.data.toList = s := by simp [S]
theorem S_size' (l : List UInt8) : (S l).size = l.length := by simp [S, ByteArray.size]
theorem S_data' (l : List UInt8) : (S l).data.toList = l := by simp [S]
theorem S_ext' {a b : ByteArray} (h : a.data.toList = b.data.toList) : a = b := by rw [← S_of' a, ← S_of' b, h]

theorem k64 (n : Int) (h0 : -9223372036854775808 ≤ n) (h1 : n ≤ 9223372036854775807) : IntKind.i64.wrap n = n := by rw [IntKind.wrap_i64]; omega
theorem grown_drewN (w : World) (n : Nat) (row : Option Nat) : w.grownBy (w.drewN n) row := ⟨rfl, rfl, rfl, Nat.le_refl _, fun _ _ _ => rfl⟩
theorem grown_trans {a b c : World} (h : a.grownBy b none) (k : b.grownBy c none) : a.grownBy c none :=
  ⟨k.os.trans h.os, k.tape.trans h.tape, k.output.trans h.output, Nat.le_trans h.size k.size, fun j hj _ => (k.block j (Nat.lt_of_lt_of_le hj h.size) (by simp)).trans (h.block j hj (by simp))⟩

/-! Cut. -/
theorem not_mem_of {l : List UInt8} {c : UInt8} (h : ∀ k : Nat, l[k]? ≠ some c) : c ∉ l := fun hm => by
  obtain ⟨k, hk, e⟩ := List.getElem_of_mem hm
  exact h k (by rw [List.getElem?_eq_getElem hk, e])

set_option maxHeartbeats 1000000 in
theorem sl_cut_walk (s : ByteArray) (t r : List UInt8) (is : Bool) (h : s.data.toList = if is then t ++ 10 :: r else t) (ht : (10 : UInt8) ∉ t) (hr : is = false → r = []) (hs : s.size ≤ 140737488351232) (w : World) :
    Calls Tryd.prog 36 #[.string s, .string ⟨#[10]⟩] w fun e w' => e = .returned (.tuple #[.string (S t), .string (S r), .bool is]) ∧ w.grownBy w' none ∧ w'.heap = w.heap := by
  have hcon : ∀ W, Calls Tryd.prog 43 #[.string s, .string ⟨#[10]⟩] W (fun e w' => e = .returned (.int .i64 (Lib.indexByte s.data.toList 10)) ∧ w' = W) := fun W => Any.stringslite_Index_one Tryd.lays219 s 10 W
  cases is with
  | true =>
    simp only [if_true] at h
    have hi : Lib.indexByte s.data.toList 10 = (t.length : Int) := by
      have ge := Lib.indexByte_ge s.data.toList 10
      by_cases e : Lib.indexByte s.data.toList 10 = -1
      · exact absurd (by rw [h]; simp) (not_mem_of (Lib.indexByte_none e))
      · obtain ⟨o, ho⟩ := Int.eq_ofNat_of_zero_le (show 0 ≤ Lib.indexByte s.data.toList 10 by omega)
        have := Lib.indexByte_some ho
        rw [ho]
        rcases Nat.lt_trichotomy o t.length with hlt | heq | hgt
        · exfalso
          rw [h, List.getElem?_append_left hlt] at this
          exact ht (List.mem_of_getElem? this.1)
        · rw [heq]
        · exfalso
          refine this.2 t.length hgt ?_
          simp [h]
    have hl : s.size = t.length + 1 + r.length := by rw [← size_len, h]; simp; omega
    rw [hi] at hcon
    have e1 : s.extract 0 t.length = S t := S_ext' (by rw [ext_data, h, S_data']; simp)
    have e2 : s.extract (t.length + 1) s.size = S r := S_ext' (by rw [ext_data, h, S_data', hl]; simp)
    obtain ⟨n, hn⟩ : ∃ n, t.length = n := ⟨_, rfl⟩
    rw [hn] at hcon e1 e2 hl
    have b1 : ((n : Int) ≤ (s.size : Int)) = True := eq_true (by omega)
    have b2 : ((n : Int) + 1 ≤ (s.size : Int)) = True := eq_true (by omega)
    have b3 : (0 ≤ (n : Int) + 1) = True := eq_true (by omega)
    have b4 : ((n : Int) + 1).toNat = n + 1 := by omega
    have hl2 : n + 1 + r.length = s.size := by omega
    replace hl2 := Aside0.mk hl2
    replace hcon := Aside0.mk hcon
    replace e1 := Aside0.mk e1
    replace e2 := Aside0.mk e2
    clear h hi ht hr
    go_enter Tryd.func36, Tryd.ntmps36
    go_wp2_with (go_at_call 43; refine (hcon.out _).mono ?_; rintro e w' ⟨rfl, rfl⟩)
    go_quiet (fail)
    go_wp2
    go_ret3
    refine ⟨?_, grown_drewN _ _ _, rfl⟩
    rw [e1.out, hl2.out, e2.out]
    rfl
  | false =>
    obtain rfl := hr rfl
    simp only [Bool.false_eq_true, if_false] at h
    have hi : Lib.indexByte s.data.toList 10 = -1 := by
      have ge := Lib.indexByte_ge s.data.toList 10
      by_cases e : Lib.indexByte s.data.toList 10 = -1
      · exact e
      · obtain ⟨o, ho⟩ := Int.eq_ofNat_of_zero_le (show 0 ≤ Lib.indexByte s.data.toList 10 by omega)
        have := Lib.indexByte_some ho
        rw [h] at this
        exact absurd (List.mem_of_getElem? this.1) ht
    rw [hi] at hcon
    have e1 : s = S t := S_ext' (by rw [h, S_data'])
    replace hcon := Aside0.mk hcon
    replace e1 := Aside0.mk e1
    clear h hi ht hr
    go_enter Tryd.func36, Tryd.ntmps36
    go_wp2_with (go_at_call 43; refine (hcon.out _).mono ?_; rintro e w' ⟨rfl, rfl⟩)
    go_ret3
    refine ⟨?_, grown_drewN _ 0 _, rfl⟩
    rw [← e1.out]
    rfl

set_option maxHeartbeats 1000000 in
theorem cut_walk (s : ByteArray) (t r : List UInt8) (is : Bool) (h : s.data.toList = if is then t ++ 10 :: r else t) (ht : (10 : UInt8) ∉ t) (hr : is = false → r = []) (hs : s.size ≤ 140737488351232) (w : World) :
    Calls Tryd.prog 26 #[.string s, .string ⟨#[10]⟩] w fun e w' => e = .returned (.tuple #[.string (S t), .string (S r), .bool is]) ∧ w.grownBy w' none ∧ w'.heap = w.heap := by
  have hcon := fun W => sl_cut_walk s t r is h ht hr hs W
  replace hcon := Aside0.mk hcon
  clear h ht hr
  go_enter Tryd.func26, Tryd.ntmps26
  go_wp2_with (go_at_call 36; refine (hcon.out _).mono ?_; rintro e w' ⟨rfl, hg, hh⟩)
  go_ret3
  exact ⟨rfl, hg, hh⟩

/-- Where a text is cut. -/
theorem cut_at (l : List UInt8) : ∃ t r is, (10 : UInt8) ∉ t ∧ l = (if is = true then t ++ 10 :: r else t) ∧ (is = false → r = []) := by
  rcases Cur.split10 l with h | ⟨t, r, h, ht⟩
  · exact ⟨l, [], false, h, by simp, fun _ => rfl⟩
  · exact ⟨t, r, true, ht, by simp [h], fun h => by cases h⟩
theorem trim_cr (t : List UInt8) : (Lib.trimSuffix t [13]).length = t.length - Cur.cut t := by
  unfold Lib.trimSuffix Lib.hasSuffix Cur.cut
  rcases List.eq_nil_or_concat t with rfl | ⟨l, c, rfl⟩
  · rfl
  · by_cases h : c = 13
    · subst h; simp
    · have h1 : [13].isSuffixOf (l.concat c) = false := by
        simp only [List.isSuffixOf, List.concat_eq_append, List.reverse_append, List.reverse_cons, List.reverse_nil, List.nil_append, List.singleton_append, List.isPrefixOf]
        simp [Ne.symm h]
      rw [h1]
      simp [h]

/-! What a round that goes on keeps: whatever is cells, and is no box of the loop's own, and not the block of the slice in box B. -/
structure Kept (Xs : List Nat) (B : Nat) (W W' : World) : Prop where
  size : W.heap.size ≤ W'.heap.size
  same : ∀ k o, W.heap[k]? = some o → o.isCells = true → k ∉ Xs → (∀ v, W.cell? ⟨B, 0, none⟩ = some v → v.ownBlock ≠ some k) → W'.heap[k]? = some o
  own : ∀ k v, W'.cell? ⟨B, 0, none⟩ = some v → v.ownBlock = some k → (∃ v, W.cell? ⟨B, 0, none⟩ = some v ∧ v.ownBlock = some k) ∨ (W.heap.size ≤ k ∧ k < W'.heap.size)
theorem Kept.refl (Xs : List Nat) (B : Nat) (W : World) : Kept Xs B W W := ⟨Nat.le_refl _, fun _ _ h _ _ _ => h, fun _ v h e => .inl ⟨v, h, e⟩⟩
theorem Kept.trans {Xs : List Nat} {B : Nat} {A C D : World} (h : Kept Xs B A C) (k : Kept Xs B C D) : Kept Xs B A D := by
  refine ⟨Nat.le_trans h.size k.size, fun j o hj ho hx hn => ?_, fun j v hv e => ?_⟩
  · refine k.same j o (h.same j o hj ho hx hn) ho hx fun v hv e => ?_
    rcases h.own j v hv e with ⟨v', hv', e'⟩ | ⟨h1, _⟩
    · exact hn v' hv' e'
    · have := (Array.getElem?_eq_some_iff.1 hj).1; omega
  · rcases k.own j v hv e with ⟨v', hv', e'⟩ | ⟨h1, h2⟩
    · rcases h.own j v' hv' e' with hl | ⟨h1, h2⟩
      · exact .inl hl
      · exact .inr ⟨h1, Nat.lt_of_lt_of_le h2 k.size⟩
    · exact .inr ⟨Nat.le_trans h.size h1, h2⟩
/-- A step that turns only what is no cells, beyond B. -/
theorem Kept.grown {Xs : List Nat} {B : Nat} {W W' : World} {row : Option Nat} (hg : W.grownBy W' row) (hB : B < W.heap.size) (hr : ∀ r, row = some r → r ≠ B ∧ ∃ o : Obj, W.heap[r]? = some o ∧ o.isCells = false) : Kept Xs B W W' := by
  refine ⟨hg.size, fun k o hk ho _ _ => ?_, fun k v hv e => ?_⟩
  · rw [hg.block k (Array.getElem?_eq_some_iff.1 hk).1 (fun e => by
      obtain ⟨_, o', ho', hc⟩ := hr k e.symm
      rw [hk] at ho'; cases ho'; rw [ho] at hc; cases hc)]
    exact hk
  · rw [World.cell?_of_block (hg.block B hB (fun e => (hr B e.symm).1 rfl))] at hv
    exact .inl ⟨v, hv, e⟩
theorem Kept.b {Xs : List Nat} {B : Nat} {w : World} (hB : B < w.heap.size) (W : World) (l : Nat) (o o' : Obj) (hl : w.heap.size ≤ l) (h : W.heap[l]? = some o) (hc : o.isCells = false) (_ : o.isWalk = false) : Kept Xs B W (W.putObj l o') :=
  Kept.grown (grownBy_putObj' W l o') (by have := (Array.getElem?_eq_some_iff.1 h).1; omega) (fun r e => by cases e; exact ⟨by omega, o, h, hc⟩)
theorem Kept.alloc {Xs : List Nat} {B : Nat} (W : World) (hB : B < W.heap.size) (o : Obj) : Kept Xs B W (W.alloc o) := Kept.grown (World.grownBy_alloc W o none) hB (fun r e => by cases e)
/-! The iterator. -/
def encL (x : Cur.Ln) : Array Value := #[.agg #[.int .i64 x.f, .int .i64 x.t, .int .i64 x.n]]

set_option maxRecDepth 100000 in
set_option maxHeartbeats 1000000 in
/-- One round's value, at a place of the text. -/
theorem iter_in (n : Nat) (hn : 1 ≤ n) (l Bs B : Nat) (Xs : List Nat) (s : ByteArray) (hs : s.size ≤ 140737488351232) (J Jx : List Cur.Ln → World → Prop) (W : World)
    (hJ : AbidesFrom W.heap.size J)
    (hY : ∀ pre x W1, J pre W1 → pre ++ [x] <+: Cur.lines s.data.toList → YieldAt Fence.wide (n - 1) Tryd.prog l (encL x) W1 fun e W' =>
      (e = .returned (.bool true) ∧ J (pre ++ [x]) W' ∧ Kept Xs B W1 W') ∨ (e = .returned (.bool false) ∧ Jx (pre ++ [x]) W'))
    (hBs : W.heap[Bs]? = some (.cells #[.string s] 9 (0, 0))) (hB : B < W.heap.size) (hX : ∀ k ∈ Xs, k < W.heap.size) (hXs : Bs ∉ Xs) (hown : ∀ v k, W.cell? ⟨B, 0, none⟩ = some v → v.ownBlock = some k → k < W.heap.size ∧ k ≠ Bs) (h0 : J [] W) :
    CallsIn Fence.wide n Tryd.prog 25 #[.func (.yield l) #[] #[], .pointer (some ⟨Bs, 0, none⟩)] W fun e W' => (∃ v, e = .returned v) ∧
      ((∃ ys, ys = Cur.lines s.data.toList ∧ J ys W') ∨ (∃ pre, pre <+: Cur.lines s.data.toList ∧ Jx pre W')) := by
  refine callsIn_of_wp Tryd.func25 rfl trivial ?_ rfl
  simp only [Tryd.ntmps25, List.size_toArray, List.length_cons, List.length_nil, Nat.reduceAdd, Nat.reduceSub, Array.replicate_succ, Array.replicate_zero, List.push_toArray, List.append_toArray, List.nil_append, List.cons_append]
  gi_wp2
  gi_loopw [3] (fun p wr => ∃ (a : Nat) (pre rest : List Cur.Ln), p = .int .i64 a ∧ a ≤ s.size ∧ Cur.lines s.data.toList = pre ++ rest ∧ rest = Cur.ln a a false (s.data.toList.drop a) ∧ J pre wr ∧ Kept Xs B W wr)
    (fun p wr => s.size - (intOf p).toNat)
  case atStart => exact ⟨0, [], Cur.lines s.data.toList, rfl, Nat.zero_le _, rfl, rfl, h0, Kept.refl _ _ _⟩
  case round =>
    obtain ⟨a, pre, rest, rfl, ha, hx, hl, hJs, hK⟩ := hrel
    have hbs : wr.heap[Bs]? = some (.cells #[.string s] 9 (0, 0)) := hK.same Bs _ hBs rfl hXs (fun v hv e => (hown v Bs hv e).2 rfl)
    have hcs : wr.cell? ⟨Bs, 0, none⟩ = some (.string s) := Boxed.cell hbs
    by_cases hlt : a < s.size
    · have b1 : ((a : Int) < (s.size : Int)) = True := eq_true (by omega)
      obtain ⟨t, r, is, ht, hd, hr⟩ := cut_at (s.data.toList.drop a)
      have hcut : Calls Tryd.prog 26 #[.string (s.extract a s.size), .string ⟨#[10]⟩] wr fun e w' => e = .returned (.tuple #[.string (S t), .string (S r), .bool is]) ∧ wr.grownBy w' none ∧ w'.heap = wr.heap :=
        cut_walk _ t r is (by rw [ext_data, ← hd]; exact List.take_of_length_le (by rw [List.length_drop]; exact Nat.le_refl _)) ht hr (by rw [ByteArray.size_extract]; omega) wr
      have b2 : ((a : Int) ≤ (s.size : Int)) = True := eq_true (by omega)
      replace hcut := Aside0.mk hcut
      have htl : a + t.length + (if is then 1 else 0) ≤ s.size := by
        have h1 : (s.data.toList.drop a).length = s.size - a := by rw [List.length_drop]; rfl
        rw [hd] at h1
        cases is <;> simp at h1 ⊢ <;> omega
      obtain ⟨u, hu⟩ : ∃ u, S t = u := ⟨_, rfl⟩
      have huz : u.size = t.length := by rw [← hu, S_size']
      obtain ⟨u2, hu2⟩ : ∃ u2, S r = u2 := ⟨_, rfl⟩
      rw [hu, hu2] at hcut
      clear hr hu2
      obtain ⟨c, hc⟩ : ∃ c, (Lib.trimSuffix t [13]).length = c := ⟨_, rfl⟩
      have hcut2 : Aside0 (t.length - c = Cur.cut t ∧ c ≤ t.length) := ⟨by have := trim_cr t; have := Cur.cut_le t; omega⟩
      have htr : ∀ W, Calls Tryd.prog 27 #[.string u, .string ⟨#[13]⟩] W fun e w2 => (∃ v : ByteArray, v.size = c ∧ e = .returned (.string v)) ∧ w2 = W := fun W => by
        have := Any.strings_TrimSuffix Tryd.lays102 u ⟨#[13]⟩ W (by omega)
        rw [← hu, S_data'] at this
        rw [← hu]
        exact this.mono fun e w2 ⟨h1, h2⟩ => ⟨⟨_, by rw [← hc]; exact S_size' _, h1⟩, h2⟩
      replace htr := Aside0.mk htr
      have hln : Aside0 (Cur.ln a a false (s.data.toList.drop a) = ⟨a, if is then a + t.length - Cur.cut t else a + t.length, a + t.length + (if is then 1 else 0)⟩ :: Cur.ln (a + t.length + (if is then 1 else 0)) (a + t.length + (if is then 1 else 0)) false (s.data.toList.drop (a + t.length + (if is then 1 else 0)))) := ⟨by
        have h1 : (s.data.toList.drop a).length = s.size - a := by rw [List.length_drop]; rfl
        have h2 : ∀ k, s.data.toList.drop (a + k) = (s.data.toList.drop a).drop k := fun k => by rw [List.drop_drop]
        rw [Nat.add_assoc, h2, hd]
        rw [hd] at h1
        cases is with
        | true =>
          simp only [if_true]
          rw [Cur.ln_feed t r ht a, Nat.add_assoc]
          simp
        | false =>
          simp only [Bool.false_eq_true, if_false]
          have : t ≠ [] := fun e => by rw [e] at h1; simp at h1; omega
          rw [Cur.ln_last t ht a, if_neg this]
          simp [Cur.ln]⟩
      gi_upto_if 30 with (refine ⟨trivial, ?_⟩; gi_at_call 26; refine (callsIn_wide.2 hcut.out).mono ?_; rintro e w' ⟨rfl, hgw, hhw⟩)
      gi_cut [7] from 30 (fun v7 wq => ∃ f1 t1 n1 : Nat, v7 = .pointer (some ⟨wr.heap.size, 0, none⟩) ∧ wr.grownBy wq none ∧ wq.heap[wr.heap.size]? = some (.cells #[.int .i64 f1, .int .i64 t1, .int .i64 n1] 31 (0, 0)) ∧
          Cur.ln a a false (s.data.toList.drop a) = ⟨f1, t1, n1⟩ :: Cur.ln n1 n1 false (s.data.toList.drop n1) ∧ a < n1 ∧ n1 ≤ s.size)
      case first J' K' hJm hKm =>
        cases is with
        | true =>
          have htl1 : a + t.length + 1 ≤ s.size := by simpa using htl
          have hmx : Tryd.prog.follows .mixedOrders = true := by kernel_rfl
          obtain ⟨hcc, hcc2⟩ := hcut2
          gi_wp2
          gi_region_with_o (refine ⟨trivial, ?_⟩; gi_at_call 27; refine (callsIn_wide.2 (htr.out _)).mono ?_; rintro e w2 ⟨⟨v, rfl, rfl⟩, rfl⟩)
          all_goals gi_wp2
          all_goals gi_meet
          all_goals
            refine ⟨a, a + t.length - Cur.cut t, a + t.length + 1, rfl, grown_trans hgw (grown_trans (World.grownBy_alloc _ _ none) (grown_drewN _ 1 _)), ?_, by simpa using hln.out, by omega, htl1⟩
            rw [← hhw]
            refine (World.alloc_heap_new w' _).trans ?_
            rw [k64 ((t.length : Int) - (v.size : Int)) (by omega) (by omega), k64 _ (by omega) (by omega)]
            congr 6 <;> omega
        | false =>
          gi_wp2
          gi_meet
          have htl1 : a + t.length ≤ s.size := by simpa using htl
          have ht0 : 0 < t.length := by
            cases t with
            | nil =>
              have : (s.data.toList.drop a).length = s.size - a := by rw [List.length_drop]; rfl
              rw [hd] at this
              simp at this
              omega
            | cons c t => simp
          exact ⟨a, a + t.length, a + t.length, rfl, grown_trans hgw (World.grownBy_alloc _ _ none), by rw [← hhw]; exact World.alloc_heap_new w' _, by simpa using hln.out, by omega, htl1⟩
      case rest =>
        obtain ⟨f1, t1, n1, rfl, hgq, hbq, hl1, hn1, hn2⟩ := hcut
        have hgq' := hgq
        have hJq : J pre wc := hJ _ _ _ none hJs hgq' (fun r e => by cases e)
        have hBr : B < wr.heap.size := Nat.lt_of_lt_of_le hB hK.size
        have hKq : Kept Xs B wr wc := Kept.grown hgq' hBr (fun r e => by cases e)
        obtain ⟨fn, tmps, assign, body, hy, hR⟩ := hY pre ⟨f1, t1, n1⟩ wc hJq ⟨Cur.ln n1 n1 false (s.data.toList.drop n1), by rw [hx, hl, hl1]; simp⟩
        dsimp only [encL] at hy
        have k0 : wc.cell? ⟨wr.heap.size, 0, none⟩ = some (.int .i64 f1) := by simp [World.cell?, hbq]
        have k1 : wc.cell? ⟨wr.heap.size, 1, none⟩ = some (.int .i64 t1) := by simp [World.cell?, hbq]
        have k2 : wc.cell? ⟨wr.heap.size, 2, none⟩ = some (.int .i64 n1) := by simp [World.cell?, hbq]
        gi_wp2
        refine hR.mono ?_
        rintro e W3 (⟨rfl, hJ3, hk3⟩ | ⟨rfl, hJx3⟩)
        · have hq3 : W3.heap[wr.heap.size]? = _ := hk3.same _ _ hbq rfl (fun hm => by have := hX _ hm; have := hK.size; omega) (fun v hv e => by
            rw [World.cell?_of_block (hgq'.block B hBr (by simp))] at hv
            rcases hK.own _ v hv e with ⟨v', hv', e'⟩ | ⟨_, h2⟩
            · have := (hown v' _ hv' e').1
              have := hK.size
              omega
            · omega)
          have k3 : W3.cell? ⟨wr.heap.size, 2, none⟩ = some (.int .i64 n1) := by simp [World.cell?, hq3]
          gi_wp2
          go_roundw
          case rel => exact ⟨n1, pre ++ [⟨f1, t1, n1⟩], _, rfl, hn2, by rw [hx, hl, hl1]; simp, rfl, hJ3, hK.trans (hKq.trans hk3)⟩
          case measure => simp [intOf]; omega
        · gi_wp2
          refine bodyPost_ret (results_none rfl _ _ _) rfl ?_
          exact ⟨⟨_, rfl⟩, .inr ⟨pre ++ [⟨f1, t1, n1⟩], ⟨Cur.ln n1 n1 false (s.data.toList.drop n1), by rw [hx, hl, hl1]; simp⟩, hJx3⟩⟩
    · obtain rfl : a = s.size := by omega
      gi_wp2
      go_end0
      exact ⟨⟨_, rfl⟩, .inl ⟨pre, by rw [hx, hl, List.drop_of_length_le (show s.data.toList.length ≤ s.size from Nat.le_refl _)]; simp [Cur.ln], hJs⟩⟩
end Go.Proofs.YtfdeffjdhpdfeaaDoor
