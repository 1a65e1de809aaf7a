/- Fields of words, walked by hand: its closure, and the range over the text. Conditions: texts of at most 1000000000 bytes. -/
import Derived.RangeFuncBox
import Derived.RangeFuncNested
import Derived.WalkKit
import Derived.OwnWalkIn
import Derived.TacticsInMore
import Derived.Maps.AppendAt
import Derived.Maps.OwnIn
import Derived.Lib.OthersKept
import Derived.Test.YtbbkchifbinioaaDoorGivenC
namespace Go.Proofs.YtbbkchifbinioaaDoor
set_option linter.unusedVariables false
set_option linter.unusedSimpArgs false
open Go.RowKit Go.Proofs.YtbbkchifbinioaaDoor.PAll Go.Proofs.YtbbkchifbinioaaDoorW.PrintWords Go.Proofs.YtbbkchifbinioaaDoorW.PrintLast

def toS (x : Wd.Wo) : S24 := ⟨x.f, x.t⟩
def cellsW (x : Wd.Wo) : List Value := [.int .i64 x.f, .int .i64 x.t]
def flat (xs : List Wd.Wo) : List Value := xs.flatMap cellsW
theorem flat_snoc (xs : List Wd.Wo) (x : Wd.Wo) : flat (xs ++ [x]) = flat xs ++ cellsW x := by simp [flat]
theorem reps_flat (w : World) (base : Nat) (ok : Nat → Prop) (xs : List Wd.Wo) : Reps (k24.M w base ok) 2 (xs.map toS) (flat xs) := by
  suffices h : ∀ (ys xs : List Wd.Wo), Reps (k24.M w base ok) 2 (ys.map toS) (flat ys) → Reps (k24.M w base ok) 2 ((ys ++ xs).map toS) (flat (ys ++ xs)) from h [] xs (Reps.none _ _)
  intro ys xs
  induction xs generalizing ys with
  | nil => intro h; rwa [List.append_nil]
  | cons x xs ih =>
    intro h
    have := ih (ys ++ [x]) (by
      rw [List.map_append, flat_snoc]
      exact h.snoc (k24_mkM w base ok (toS x)) rfl)
    rwa [List.append_assoc] at this
theorem new_cells (w : World) (x : Wd.Wo) : ∀ j u, (cellsW x)[j]? = some u → (w.alloc (.cells #[.int .i64 x.f, .int .i64 x.t] 24)).cell? ((⟨w.heap.size, 0, none⟩ : Addr).add j) = some u := by
  intro j u hj
  have h := World.alloc_heap_new w (.cells #[.int .i64 x.f, .int .i64 x.t] 24)
  match j, hj with
  | 0, hj => simp [cellsW] at hj; subst hj; show World.cell? _ ⟨w.heap.size, _, none⟩ = _; unfold World.cell?; rw [h]; rfl
  | 1, hj => simp [cellsW] at hj; subst hj; show World.cell? _ ⟨w.heap.size, _, none⟩ = _; unfold World.cell?; rw [h]; rfl
  | j + 2, hj => simp [cellsW] at hj
theorem info24 : (Tryd.prog.info? 24).map (fun i => (i.zero, i.size, i.bytes)) = some (some (.agg #[(.int .i64 0), (.int .i64 0)]), 2, 16) := by kernel_rfl
theorem own_is {W : World} {base : Nat} {e : TypeId} {size : Nat} {v : Value} {k : Nat} {xs : List Value} (h : W.ownsRow base e size v k xs) : ∃ p c, v = .slice p k c := by
  rcases h.2 with ⟨rfl, rfl⟩ | ⟨g, cap, _, rfl, _⟩
  · exact ⟨none, 0, rfl⟩
  · exact ⟨_, _, rfl⟩

/-- The two boxes of Fields: the words so far, and where the open one began. -/
structure Fx (n₀ B0 B1 : Nat) (W : World) (bg : Int) (xs : List Wd.Wo) : Prop where
  begin_ : Boxed W B1 3 (.int .i64 bg)
  out : ∃ v, Boxed W B0 31 v ∧ W.ownsRow n₀ 24 2 v xs.length (flat xs)
  ne : B0 ≠ B1
  le0 : n₀ ≤ B0
  le1 : n₀ ≤ B1
  size : n₀ ≤ W.heap.size
theorem Fx.keep {n₀ B0 B1 : Nat} {W W' : World} {bg : Int} {xs : List Wd.Wo} (h : Fx n₀ B0 B1 W bg xs) {row : Option Nat} (hg : W.grownBy W' row) (hr : ∀ r, row = some r → ∃ o : Obj, W.heap[r]? = some o ∧ o.isCells = false) : Fx n₀ B0 B1 W' bg xs := by
  obtain ⟨v, hv, ho⟩ := h.out
  have hne : ∀ (B t u), Boxed W B t u → some B ≠ row := fun B t u hb e => by
    obtain ⟨o, hk, hc⟩ := hr B e.symm
    rw [show W.heap[B]? = _ from hb] at hk; cases hk; cases hc
  refine ⟨h.begin_.kept hg (hne _ _ _ h.begin_), ⟨v, hv.kept hg (hne _ _ _ hv), ho.kept hg ?_⟩, h.ne, h.le0, h.le1, Nat.le_trans h.size hg.size⟩
  rcases ho.2 with ⟨rfl, _⟩ | ⟨g, cap, cur, rfl, _, hgb, _⟩
  · exact .inl rfl
  · refine .inr fun e' => ?_
    obtain ⟨o, hk, hc⟩ := hr g (by simpa [Value.ownBlock] using e'.symm)
    rw [hgb] at hk; cases hk; cases hc
theorem Fx.setB {n₀ B0 B1 : Nat} {W : World} {bg : Int} {xs : List Wd.Wo} (h : Fx n₀ B0 B1 W bg xs) (bg' : Int) : Fx n₀ B0 B1 (W.setCell ⟨B1, 0, none⟩ (.int .i64 bg')) bg' xs := by
  obtain ⟨v, hv, ho⟩ := h.out
  exact ⟨h.begin_.set _, ⟨v, hv.other h.ne _, ho.kept (grownBy_setCell' W B1 _) (.inr (h.begin_.not_row (by decide) ho).symm)⟩, h.ne, h.le0, h.le1, by rw [World.size_setCell]; exact h.size⟩

attribute [local go_sem] Oper.semAt_some
set_option maxRecDepth 100000 in
set_option maxHeartbeats 2000000 in
theorem end_in (n : Nat) (n₀ B0 B1 : Nat) (W : World) (bg : Int) (xs : List Wd.Wo) (h : Fx n₀ B0 B1 W bg xs) (hl : xs.length ≤ 1000000000) (at_ : Nat) (xs' : List Wd.Wo) (hx : xs' = if 0 ≤ bg then xs ++ [⟨bg.toNat, at_⟩] else xs) :
    CallsIn Fence.wide n Tryd.prog 34 #[.int .i64 at_, .pointer (some ⟨B1, 0, none⟩), .pointer (some ⟨B0, 0, none⟩)] W fun e W' => (∃ v, e = .returned v) ∧ Fx n₀ B0 B1 W' (-1) xs' ∧ KeepsOthers W W' ∧ Below n₀ W W' := by
  obtain ⟨i0, hi, hz0, hz1, hz2⟩ := info_parts info24
  obtain ⟨v, hv, hrow⟩ := h.out
  have hc1 := h.begin_.cell
  have hf1 := h.begin_.frozen
  have hc0 := hv.cell
  by_cases hb : 0 ≤ bg
  · obtain ⟨b, rfl⟩ := Int.eq_ofNat_of_zero_le hb
    rw [if_pos hb, Int.toNat_natCast] at hx
    subst hx
    refine callsIn_of_wp Tryd.func34 rfl trivial ?_ rfl
    simp only [Tryd.ntmps34, List.size_toArray, List.length_cons, List.length_nil, Nat.reduceAdd, Nat.reduceSub, Array.replicate_succ, Array.replicate_zero, List.push_toArray, List.append_toArray, List.nil_append, List.cons_append]
    gi_wp2_with (gi_at_builtin; refine wpListIn_append_own_at _ rfl _ _ 31 rfl n₀ 24 i0 (.agg #[.int .i64 0, .int .i64 0]) 2 16 Tryd.underlying31 hi hz0 hz1 hz2 rfl (by decide) _ _ _ rfl (hrow.alloc _) ⟨W.heap.size, 0, none⟩ 1 1 (cellsW ⟨b, at_⟩) rfl rfl (new_cells W ⟨b, at_⟩) (by simp [cellsW, Value.oneCell']) (by simp only [maxLen]; omega) (by omega) (by have := h.size; simp; omega) ?_; intro v' w1 hown' hgrow _ hat; obtain ⟨g', cap', rfl⟩ := ownsRow_succ hown'; obtain ⟨hv1, hv2, hr2, hk2, hb2⟩ := hv.appended (by decide) hrow h.size h.le0 hown' hgrow; have hc2 := hv1.cell; have hf2 := hv1.frozen; have hbg1 := ((h.begin_.alloc _).kept hgrow (h.begin_.not_row (by decide) hrow)); have hbg2 := hbg1.other (Ne.symm h.ne) (.slice (some ⟨g', 0, none⟩) (xs.length + 1) cap'); have hc3 := hbg2.cell; have hf3 := hbg2.frozen)
    go_end0
    have hF : Fx n₀ B0 B1 (w1.setCell ⟨B0, 0, none⟩ (.slice (some ⟨g', 0, none⟩) (xs.length + 1) cap')) b (xs ++ [⟨b, at_⟩]) :=
      ⟨hbg2, ⟨_, hv2, by rw [flat_snoc, List.length_append]; exact hr2⟩, h.ne, h.le0, h.le1, Nat.le_trans h.size hb2.size⟩
    exact ⟨⟨_, rfl⟩, hF.setB (-1), hk2.trans (KeepsOthers.setCell _ _ _), hb2.setCell (p := ⟨B1, 0, none⟩) h.le1 _⟩
  · rw [if_neg hb] at hx
    subst hx
    have hb' : bg < 0 := by omega
    refine callsIn_of_wp Tryd.func34 rfl trivial ?_ rfl
    simp only [Tryd.ntmps34, List.size_toArray, List.length_cons, List.length_nil, Nat.reduceAdd, Nat.reduceSub, Array.replicate_succ, Array.replicate_zero, List.push_toArray, List.append_toArray, List.nil_append, List.cons_append]
    gi_wp2
    go_end0
    exact ⟨⟨_, rfl⟩, h.setB (-1), KeepsOthers.setCell _ _ _, (Below.refl n₀ W).setCell (p := ⟨B1, 0, none⟩) h.le1 _⟩
theorem end_calls (n₀ B0 B1 : Nat) (W : World) (bg : Int) (xs : List Wd.Wo) (h : Fx n₀ B0 B1 W bg xs) (hl : xs.length ≤ 1000000000) (at_ : Int) (h0 : 0 ≤ at_) (xs' : List Wd.Wo) (hx : xs' = if 0 ≤ bg then xs ++ [⟨bg.toNat, at_.toNat⟩] else xs) :
    Calls Tryd.prog 34 #[.int .i64 at_, .pointer (some ⟨B1, 0, none⟩), .pointer (some ⟨B0, 0, none⟩)] W fun e W' => (∃ v, e = .returned v) ∧ Fx n₀ B0 B1 W' (-1) xs' ∧ KeepsOthers W W' ∧ Below n₀ W W' := by
  obtain ⟨m, rfl⟩ := Int.eq_ofNat_of_zero_le h0
  rw [Int.toNat_natCast] at hx
  exact (callsIn_wide (n := 0)).1 (end_in 0 n₀ B0 B1 W bg xs h hl m xs' hx)
theorem isB_nat (c : UInt8) : (c.toNat == 32 || c.toNat == 9) = Wd.isB c := by
  unfold Wd.isB
  rw [Bool.eq_iff_iff]
  simp only [Bool.or_eq_true, beq_iff_eq]
  constructor
  · rintro (h | h)
    · exact .inl (UInt8.toNat_inj.1 (by rw [h]; rfl))
    · exact .inr (UInt8.toNat_inj.1 (by rw [h]; rfl))
  · rintro (h | h)
    · exact .inl (by rw [h]; rfl)
    · exact .inr (by rw [h]; rfl)
theorem isB_high (c : UInt8) (h : 128 ≤ c.toNat) : Wd.isB c = false := by
  rw [← isB_nat]; simp; omega
theorem grown_iterAt (w : World) (k : Nat) (s : ByteArray) (q : Nat) : w.grownBy (w.iterAt k s q) (some k) :=
  ⟨rfl, rfl, rfl, by rw [Lib.iterAt_size]; exact Nat.le_refl _, fun j _ hj => Lib.iterAt_other w k j s q (fun e => hj (by rw [e]))⟩
theorem iterPos_of {w : World} {k : Nat} {s : ByteArray} {q : Nat} (h : w.heap[k]? = some (.stringIter s q)) : w.iterPos k = q := by unfold World.iterPos; rw [h]
theorem drop_at (u : ByteArray) (p : Nat) (c : UInt8) (h : u.data.toList[p]? = some c) : u.data.toList.drop p = c :: u.data.toList.drop (p + 1) := by
  have hlt : p < u.data.toList.length := (List.getElem?_eq_some_iff.1 h).1
  rw [List.drop_eq_getElem_cons hlt]
  congr 1
  have := List.getElem?_eq_getElem hlt
  rw [h] at this
  exact (Option.some.inj this).symm
theorem fields_ret {R : Ending → World → Prop} {ts : Array Value} {W : World} {B : Nat} {v : Value} (h0 : Boxed W B 31 v) (hv : ∃ p n c, v = .slice p n c) (h6 : ts.getD 6 undef = .pointer (some ⟨B, 0, none⟩)) (hR : R (.returned v) W) :
    bodyPost Tryd.prog Tryd.f13 R Exit.ret { tmps := ts, defers := [] } W := by
  obtain ⟨p, n, c, rfl⟩ := hv
  refine bodyPost_ret (v := .slice p n c) ?_ rfl hR
  simp only [Array.getD_eq_getD_getElem?] at h6
  have hc := h0.cell
  simp [results, Tryd.f13, go_sem, hc, h6]
/-- Where a word began, as the box holds it. -/
def ob (bg : Int) : Option Nat := if 0 ≤ bg then some bg.toNat else none
theorem wd_len (l : List UInt8) : ∀ (b : Option Nat) (n : Nat), (Wd.wd b n l).length ≤ l.length + 1 := by
  induction l with
  | nil => intro b n; simp only [Wd.wd]; cases b <;> simp
  | cons c l ih =>
    intro b n
    cases hc : Wd.isB c with
    | true =>
      rw [Wd.wd_blank _ _ _ _ hc]
      cases l with
      | nil => cases b <;> simp [Wd.wd]
      | cons d l =>
        have := ih none (n + 1)
        rw [List.length_append, List.length_cons]
        cases b <;> simp at this ⊢ <;> omega
    | false =>
      rw [Wd.wd_sign _ _ _ _ hc]
      have := ih (some (b.getD n)) (n + 1)
      rw [List.length_cons]; omega

set_option maxRecDepth 100000 in
set_option maxHeartbeats 4000000 in
theorem fields_walk (s : ByteArray) (a b : Nat) (hab : a ≤ b) (hbs : b ≤ s.size) (hs : s.size ≤ 1000000000) (w : World) :
    Calls Tryd.prog 13 #[.string s, .int .i64 a, .int .i64 b] w fun e w' => ∃ v, e = .returned v ∧ w'.ownsRow w.heap.size 24 2 v (Wd.words s.data.toList a b).length (flat (Wd.words s.data.toList a b)) ∧ Below w.heap.size w w' := by
  have hpl : Aside0 (∀ W, Calls Tryd.prog 25 #[.string s, .int .i64 a, .int .i64 b] W fun e w' => e = .returned (.bool true) ∧ w' = W) := ⟨fun W => by
    have := places_walk s a b W
    rwa [decide_eq_true (by omega)] at this⟩
  have hb1 : ((a : Int) ≤ (b : Int)) = True := eq_true (by omega)
  have hb2 : ((b : Int) ≤ (s.size : Int)) = True := eq_true (by omega)
  obtain ⟨u, hu⟩ : ∃ u, s.extract a b = u := ⟨_, rfl⟩
  have hup : Aside0 (Wd.part s.data.toList a b = u.data.toList) := ⟨by rw [← hu, ext_data]; rfl⟩
  have huz : u.size = b - a := by rw [← hu, ByteArray.size_extract]; omega
  have hwl : Aside0 (Wd.words s.data.toList a b = Wd.wd none a u.data.toList) := ⟨by unfold Wd.words; rw [hup.out]⟩
  have hstep : Aside0 (∀ p, p < u.size → _) := ⟨rune_step u⟩
  have hblank : Aside0 (∀ n W, _) := ⟨blank_walk⟩
  go_enter Tryd.func13, Tryd.ntmps13
  go_wp2_with (go_at_call 25; refine (hpl.out _).mono ?_; rintro e w' ⟨rfl, rfl⟩)
  have bB : Boxed ((w.alloc (.cells #[.slice none 0 0] 31)).alloc (.cells #[.int .i64 (-1)] 3)) (w.heap.size + 1) 3 (.int .i64 (-1)) := by
    have := Boxed.new (w.alloc (.cells #[.slice none 0 0] 31)) 3 (.int .i64 (-1))
    rwa [World.size_alloc] at this
  have bO : Boxed ((w.alloc (.cells #[.slice none 0 0] 31)).alloc (.cells #[.int .i64 (-1)] 3)) w.heap.size 31 (.slice none 0 0) := (Boxed.new w 31 (.slice none 0 0)).alloc _
  have F0 : Fx w.heap.size w.heap.size (w.heap.size + 1) ((w.alloc (.cells #[.slice none 0 0] 31)).alloc (.cells #[.int .i64 (-1)] 3)) (-1) [] :=
    ⟨bB, ⟨_, bO, World.ownsRow_nil _ _ _ _⟩, by omega, Nat.le_refl _, Nat.le_succ _, by simp; omega⟩
  have H0 : Below w.heap.size w ((w.alloc (.cells #[.slice none 0 0] 31)).alloc (.cells #[.int .i64 (-1)] 3)) := ((Below.refl _ w).alloc (Nat.le_refl _) _).alloc (by simp) _
  have S0 : ((w.alloc (.cells #[.slice none 0 0] 31)).alloc (.cells #[.int .i64 (-1)] 3)).heap.size = w.heap.size + 2 := by simp
  obtain ⟨W1, hW1⟩ : ∃ W1, ((w.alloc (.cells #[.slice none 0 0] 31)).alloc (.cells #[.int .i64 (-1)] 3)) = W1 := ⟨_, rfl⟩
  rw [hW1] at bB bO F0 H0 S0
  have F0' : Fx w.heap.size w.heap.size (w.heap.size + 1) (W1.iter u 0) (-1) [] := F0.keep (World.grownBy_alloc W1 _ none) (fun _ e => by cases e)
  have H0' : Below w.heap.size w (W1.iter u 0) := H0.alloc H0.size _
  have I0 : (W1.iter u 0).heap[w.heap.size + 1 + 1]? = some (.stringIter u 0) := by
    have := World.alloc_heap_new W1 (.stringIter u 0)
    rw [S0] at this
    exact this
  replace F0' := Aside0.mk F0'
  replace I0 := Aside0.mk I0
  clear bB bO F0 H0 S0
  try rw [hW1]
  clear hW1
  go_loopw [9] (fun _ wr => ∃ (p : Nat) (xs : List Wd.Wo) (bg : Int), p ≤ u.size ∧ wr.heap[w.heap.size + 1 + 1]? = some (.stringIter u p) ∧ Fx w.heap.size w.heap.size (w.heap.size + 1) wr bg xs ∧ Below w.heap.size w wr ∧ -1 ≤ bg ∧ bg ≤ a + p ∧ xs.length ≤ p ∧ Wd.words s.data.toList a b = xs ++ Wd.wd (ob bg) (a + p) (u.data.toList.drop p)) (fun _ wr => u.size - wr.iterPos (w.heap.size + 1 + 1))
  case atStart => exact ⟨0, [], -1, Nat.zero_le _, I0.out, F0'.out, H0', by omega, by omega, Nat.le_refl _, hwl.out⟩
  case round =>
    obtain ⟨p, xs, bg, hp, hI, hF, hH, hg1, hg2, hxl, hsp⟩ := hrel
    replace hsp := Aside0.mk hsp
    have hpos : wr.iterPos (w.heap.size + 1 + 1) = p := by unfold World.iterPos; rw [hI]
    replace hpos := Aside0.mk hpos
    by_cases hlt : p < u.size
    · have hnx := fun ty => Lib.run_next_any_at (P := Tryd.prog) wr (w.heap.size + 1 + 1) u p ty hI hlt
      have hltu : u.data.toList.length = u.size := rfl
      have hal : a + u.size ≤ 1000000000 := by omega
      have stepF : ∀ q, Fx w.heap.size w.heap.size (w.heap.size + 1) (wr.iterAt (w.heap.size + 1 + 1) u q) bg xs := fun q => hF.keep (grown_iterAt wr _ u q) (fun r e => by cases e; exact ⟨_, hI, rfl⟩)
      have stepI : ∀ q, (wr.iterAt (w.heap.size + 1 + 1) u q).heap[w.heap.size + 1 + 1]? = some (.stringIter u q) := fun q => Lib.iterAt_heap wr _ u p q hI
      have stepH : ∀ q, Below w.heap.size w (wr.iterAt (w.heap.size + 1 + 1) u q) := fun q => Lib.below_iterAt hH (by omega) u q
      have sign : ∀ (q : Nat) (W1 : World), p < q → q ≤ u.size → Fx w.heap.size w.heap.size (w.heap.size + 1) W1 bg xs → W1.heap[w.heap.size + 1 + 1]? = some (.stringIter u q) → Below w.heap.size w W1 → Wd.wd (ob bg) (a + p) (u.data.toList.drop p) = Wd.wd (some ((ob bg).getD (a + p))) (a + q) (u.data.toList.drop q) →
          (¬ bg < 0 → q ≤ u.size ∧ W1.heap[w.heap.size + 1 + 1]? = some (.stringIter u q) ∧ Fx w.heap.size w.heap.size (w.heap.size + 1) W1 bg xs ∧ Below w.heap.size w W1 ∧ -1 ≤ bg ∧ bg ≤ a + q ∧ xs.length ≤ q ∧ Wd.words s.data.toList a b = xs ++ Wd.wd (ob bg) (a + q) (u.data.toList.drop q)) ∧
          (bg < 0 → q ≤ u.size ∧ (W1.setCell ⟨w.heap.size + 1, 0, none⟩ (.int .i64 ((a : Int) + p))).heap[w.heap.size + 1 + 1]? = some (.stringIter u q) ∧ Fx w.heap.size w.heap.size (w.heap.size + 1) (W1.setCell ⟨w.heap.size + 1, 0, none⟩ (.int .i64 ((a : Int) + p))) ((a : Int) + p) xs ∧ Below w.heap.size w (W1.setCell ⟨w.heap.size + 1, 0, none⟩ (.int .i64 ((a : Int) + p))) ∧ -1 ≤ (a : Int) + p ∧ (a : Int) + p ≤ a + q ∧ xs.length ≤ q ∧ Wd.words s.data.toList a b = xs ++ Wd.wd (ob ((a : Int) + p)) (a + q) (u.data.toList.drop q)) := by
        intro q W1 hq1 hq2 f1 i1 h1 hw
        refine ⟨fun hb => ⟨hq2, i1, f1, h1, hg1, by omega, by omega, ?_⟩, fun hb => ⟨hq2, ?_, f1.setB _, h1.setCell (p := ⟨w.heap.size + 1, 0, none⟩) (Nat.le_succ _) _, by omega, by omega, by omega, ?_⟩⟩
        · rw [hsp.out, hw]
          unfold ob
          rw [if_pos (by omega)]; rfl
        · rw [Below.heap_setCell _ _ _ _ (by show w.heap.size + 1 + 1 ≠ w.heap.size + 1; omega)]; exact i1
        · rw [hsp.out, hw]
          unfold ob
          rw [if_neg (by omega), if_pos (by omega)]
          rfl
      replace sign := Aside0.mk sign
      rcases hstep.out p hlt with ⟨c, h1, h2, h3⟩ | ⟨r, wd, h3, h4, h5, h6, h7, h8⟩
      · rw [h3] at hnx
        have hbl := hblank.out c.toNat
        rw [isB_nat] at hbl
        have hdr := drop_at u p c h2
        obtain ⟨W1, hW1⟩ : ∃ W1, wr.iterAt (w.heap.size + 1 + 1) u (p + 1) = W1 := ⟨_, rfl⟩
        have f1 := stepF (p + 1)
        have i1 := stepI (p + 1)
        have m1 := stepH (p + 1)
        replace hnx : ∀ ty, (Instr.next (.pointer (some ⟨w.heap.size + 1 + 1, 0, none⟩)) true ty).run Tryd.prog wr = .ok (.tuple #[.bool true, .int .i64 p, .int .i32 (c.toNat : Int)]) (wr.iterAt (w.heap.size + 1 + 1) u (p + 1)) := hnx
        rw [hW1] at f1 i1 m1 hnx
        cases hB : Wd.isB c with
        | true =>
          rw [hB] at hbl
          have hend := end_calls w.heap.size w.heap.size (w.heap.size + 1) W1 bg xs f1 (by omega) ((a : Int) + p) (by omega) _ rfl
          have hspec : Aside0 (Wd.words s.data.toList a b = (if 0 ≤ bg then xs ++ [(⟨bg.toNat, ((a : Int) + p).toNat⟩ : Wd.Wo)] else xs) ++ Wd.wd (ob (-1)) (a + (p + 1)) (u.data.toList.drop (p + 1))) := ⟨by
            rw [hsp.out, hdr, Wd.wd_blank _ _ _ _ hB]
            have e : ((a : Int) + p).toNat = a + p := by omega
            unfold ob
            by_cases h0 : 0 ≤ bg
            · rw [if_pos h0, if_pos h0, if_neg (by omega), e]; simp [Nat.add_assoc]
            · rw [if_neg h0, if_neg h0, if_neg (by omega)]; simp [Nat.add_assoc]⟩
          have hlen' : (if 0 ≤ bg then xs ++ [(⟨bg.toNat, ((a : Int) + p).toNat⟩ : Wd.Wo)] else xs).length ≤ p + 1 := by split <;> (try rw [List.length_append, List.length_singleton]) <;> omega
          replace hend := Aside0.mk hend
          replace hbl := Aside0.mk hbl
          replace f1 := Aside0.mk f1
          replace hlen' := Aside0.mk hlen'
          clear h1 h2 h3 hdr hW1 stepF stepI stepH hB
          go_wp2_with (first | (go_at_call 35; refine (hbl.out _).mono ?_; rintro e w' ⟨rfl, rfl⟩) | (go_at_call 34; refine hend.out.mono ?_; rintro e W2 ⟨⟨v, rfl⟩, f2, k2, b2⟩))
          have I2 := k2.same _ _ i1 rfl
          exact ⟨⟨p + 1, _, -1, by omega, I2, f2, m1.trans b2, by omega, by omega, hlen'.out, hspec.out⟩, by rw [iterPos_of I2, hpos.out]; omega⟩
        | false =>
          rw [hB] at hbl
          have hsg := Aside0.mk (sign.out (p + 1) W1 (by omega) (by omega) f1 i1 m1 (by rw [hdr, Wd.wd_sign _ _ _ _ hB]; rfl))
          have cB := f1.begin_.cell
          have fB := f1.begin_.frozen
          replace hbl := Aside0.mk hbl
          replace f1 := Aside0.mk f1
          clear h1 h2 h3 hdr hW1 stepF stepI stepH hB
          by_cases hb0 : bg < 0
          · go_wp2_with (go_at_call 35; refine (hbl.out _).mono ?_; rintro e w' ⟨rfl, rfl⟩)
            exact ⟨⟨p + 1, xs, (a : Int) + p, hsg.out.2 hb0⟩, by rw [iterPos_of (hsg.out.2 hb0).2.1, hpos.out]; omega⟩
          · have hb0' : 0 ≤ bg := by omega
            go_wp2_with (go_at_call 35; refine (hbl.out _).mono ?_; rintro e w' ⟨rfl, rfl⟩)
            exact ⟨⟨p + 1, xs, bg, hsg.out.1 (by omega)⟩, by rw [iterPos_of (hsg.out.1 (by omega)).2.1, hpos.out]; omega⟩
      · rw [h3] at hnx
        have hbl := hblank.out r
        rw [show (r == 32 || r == 9) = false by simp; omega] at hbl
        obtain ⟨W1, hW1⟩ : ∃ W1, wr.iterAt (w.heap.size + 1 + 1) u (p + wd) = W1 := ⟨_, rfl⟩
        have f1 := stepF (p + wd)
        have i1 := stepI (p + wd)
        have m1 := stepH (p + wd)
        replace hnx : ∀ ty, (Instr.next (.pointer (some ⟨w.heap.size + 1 + 1, 0, none⟩)) true ty).run Tryd.prog wr = .ok (.tuple #[.bool true, .int .i64 p, .int .i32 (r : Int)]) (wr.iterAt (w.heap.size + 1 + 1) u (p + wd)) := hnx
        rw [hW1] at f1 i1 m1 hnx
        have hsg := Aside0.mk (sign.out (p + wd) W1 (by omega) (by omega) f1 i1 m1 (by
          have := Wd.wd_many u.data.toList wd (ob bg) (a + p) p (fun j hj => by
            obtain ⟨c, g1, g2⟩ := h8 j hj
            exact ⟨c, g1, isB_high c g2⟩) (by omega)
          rwa [Nat.add_assoc] at this))
        have cB := f1.begin_.cell
        have fB := f1.begin_.frozen
        have hq : Aside0 (1 ≤ wd ∧ p + wd ≤ u.size) := ⟨⟨h6, h7⟩⟩
        replace hbl := Aside0.mk hbl
        replace f1 := Aside0.mk f1
        clear h3 h4 h5 h6 h7 h8 hW1 stepF stepI stepH
        by_cases hb0 : bg < 0
        · go_wp2_with (go_at_call 35; refine (hbl.out _).mono ?_; rintro e w' ⟨rfl, rfl⟩)
          exact ⟨⟨p + wd, xs, (a : Int) + p, hsg.out.2 hb0⟩, by rw [iterPos_of (hsg.out.2 hb0).2.1, hpos.out]; have := hq.out; omega⟩
        · have hb0' : 0 ≤ bg := by omega
          go_wp2_with (go_at_call 35; refine (hbl.out _).mono ?_; rintro e w' ⟨rfl, rfl⟩)
          exact ⟨⟨p + wd, xs, bg, hsg.out.1 (by omega)⟩, by rw [iterPos_of (hsg.out.1 (by omega)).2.1, hpos.out]; have := hq.out; omega⟩
    · have hpe : Aside0 (p = u.size) := ⟨by omega⟩
      have hne := fun ty => Lib.run_next_end_at (P := Tryd.prog) wr (w.heap.size + 1 + 1) u p ty hI (by omega)
      have hend := end_calls w.heap.size w.heap.size (w.heap.size + 1) wr bg xs hF (by omega) (b : Int) (by omega) _ rfl
      have hspec : Aside0 ((if 0 ≤ bg then xs ++ [(⟨bg.toNat, ((b : Int)).toNat⟩ : Wd.Wo)] else xs) = Wd.words s.data.toList a b) := ⟨by
        rw [hsp.out, List.drop_of_length_le (by show u.size ≤ p; omega)]
        unfold ob
        have e : a + p = b := by rw [hpe.out, huz]; omega
        rw [e, Int.toNat_natCast]
        by_cases h0 : 0 ≤ bg
        · rw [if_pos h0, if_pos h0]; rfl
        · rw [if_neg h0, if_neg h0]; simp [Wd.wd]⟩
      rw [hspec.out] at hend
      replace hend := Aside0.mk hend
      go_wp2_with (go_at_call 34; refine hend.out.mono ?_; rintro e W2 ⟨⟨v, rfl⟩, f2, k2, b2⟩; obtain ⟨vo, hvo, hro⟩ := f2.out; obtain ⟨pp, cc, rfl⟩ := own_is hro; have c2 := hvo.cell; have g2 := hvo.frozen)
      have hB2 : Below w.heap.size w W2 := hH.trans b2
      refine fields_ret (hvo.set _) ⟨_, _, _, rfl⟩ rfl ⟨_, rfl, ?_, hB2.setCell (p := ⟨w.heap.size, 0, none⟩) (Nat.le_refl _) _⟩
      exact hro.kept (grownBy_setCell' W2 w.heap.size _) (.inr (hvo.not_row (by decide) hro).symm)

set_option maxHeartbeats 1000000 in
theorem fields_not (s : ByteArray) (a b : Int) (h : ¬ (0 ≤ a ∧ a ≤ b ∧ b ≤ (s.size : Int))) (w : World) :
    Calls Tryd.prog 13 #[.string s, .int .i64 a, .int .i64 b] w fun e w' => e = .returned (.slice none 0 0) ∧ Below w.heap.size w w' := by
  have hpl : Aside0 (∀ W, Calls Tryd.prog 25 #[.string s, .int .i64 a, .int .i64 b] W fun e w' => e = .returned (.bool false) ∧ w' = W) := ⟨fun W => by
    have := places_walk s a b W
    rwa [decide_eq_false h] at this⟩
  clear h
  go_enter Tryd.func13, Tryd.ntmps13
  go_wp2_with (go_at_call 25; refine (hpl.out _).mono ?_; rintro e w' ⟨rfl, rfl⟩)
  refine fields_ret (B := w.heap.size) ?_ ⟨none, 0, 0, rfl⟩ rfl ⟨rfl, ?_⟩
  · first | exact Boxed.new w 31 _ | exact (Boxed.new w 31 _).set _
  · first | exact (Below.refl _ _).alloc (Nat.le_refl _) _ | exact ((Below.refl _ _).alloc (Nat.le_refl _) _).setCell (p := ⟨w.heap.size, 0, none⟩) (Nat.le_refl _) _
def wordsV (s : ByteArray) (a b : Int) : List Wd.Wo := if 0 ≤ a ∧ a ≤ b ∧ b ≤ (s.size : Int) then Wd.words s.data.toList a.toNat b.toNat else []
def words_Fields.f (a0 : ByteArray) (a1 a2 : Int) : Option (List S24) := if a0.size ≤ 1000000000 then some ((wordsV a0 a1 a2).map toS) else none
theorem words_Fields.calls (a0 : ByteArray) (a1 a2 : Int) (r : List S24) (w : World) (h : words_Fields.f a0 a1 a2 = some r) :
    Calls Tryd.prog 13 #[.string a0, .int .i64 a1, .int .i64 a2] w fun e w' => ∃ v0_ : Value, e = .returned (v0_) ∧ Kd.R k24 24 w' w.heap.size (fun _ => True) v0_ r ∧ Below w.heap.size w w' := by
  unfold words_Fields.f at h
  split at h
  · rename_i hs
    obtain rfl := Option.some.inj h
    unfold wordsV
    by_cases hp : 0 ≤ a1 ∧ a1 ≤ a2 ∧ a2 ≤ (a0.size : Int)
    · rw [if_pos hp]
      obtain ⟨a, rfl⟩ := Int.eq_ofNat_of_zero_le hp.1
      obtain ⟨b, rfl⟩ := Int.eq_ofNat_of_zero_le (show 0 ≤ a2 by omega)
      rw [Int.toNat_natCast, Int.toNat_natCast]
      refine (fields_walk a0 a b (by omega) (by omega) hs w).mono ?_
      rintro e W' ⟨v, rfl, hr, hb⟩
      exact ⟨v, rfl, ⟨fun _ _ => trivial, flat (Wd.words a0.data.toList a b), by rw [List.length_map]; exact hr, reps_flat _ _ _ _⟩, hb⟩
    · rw [if_neg hp]
      refine (fields_not a0 a1 a2 hp w).mono ?_
      rintro e W' ⟨rfl, hb⟩
      exact ⟨_, rfl, Kd.R_nil _ _ _ _ _, hb⟩
  · exact absurd h (by simp)
end Go.Proofs.YtbbkchifbinioaaDoor
