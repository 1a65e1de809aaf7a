/- The law DiagOrder, walked by hand: rows of rows; the law with its region of open order; the law at every input. Conditions: none beyond the row's. -/
import Derived.Test.YtgphciopondlaaaDoorGivenN
import Derived.Test.YtgphciopondlaaaDoorPAllx5
import Derived.Test.YtgphciopondlaaaDoorPlainE
import Derived.Test.YtgphciopondlaaaDoorEvC
import Derived.Test.YtgphciopondlaaaDoorEvD
namespace Go.Proofs.YtgphciopondlaaaDoor
set_option linter.unusedVariables false
set_option linter.unusedSimpArgs false
open Go.RowKit Go.Sort Go.Lib Go.Proofs.YtgphciopondlaaaDoor.PAll Go.Proofs.YtgphciopondlaaaDoorW.PrintWords Go.Proofs.YtgphciopondlaaaDoorW.PrintLast

/-- These values are slices of these lists. -/
def Lies (w : World) (vs : List Value) (ps : List (List S25)) : Prop :=
  vs.length = ps.length ∧ ∀ (j : Nat) p, ps[j]? = some p → ∃ A0 c0, vs[j]? = some (.slice A0 p.length c0) ∧ p.length ≤ c0 ∧ Kd.C k25 w A0 p.length p
theorem Lies.below {w w' : World} {vs : List Value} {ps : List (List S25)} (h : Lies w vs ps) (hb : Below w.heap.size w w') : Lies w' vs ps :=
  ⟨h.1, fun j p hp => by obtain ⟨A0, c0, h1, h2, h3⟩ := h.2 j p hp; exact ⟨A0, c0, h1, h2, Kd.C_below h3 hb⟩⟩
theorem Lies.nil (w : World) : Lies w [] [] := ⟨rfl, fun j p hp => by simp at hp⟩
theorem Lies.append {w : World} {vs us : List Value} {ps qs : List (List S25)} (h : Lies w vs ps) (g : Lies w us qs) : Lies w (vs ++ us) (ps ++ qs) := by
  refine ⟨by rw [List.length_append, List.length_append, h.1, g.1], fun j p hp => ?_⟩
  rcases Nat.lt_or_ge j ps.length with hlt | hge
  · rw [List.getElem?_append_left hlt] at hp
    rw [List.getElem?_append_left (by rw [h.1]; exact hlt)]
    exact h.2 j p hp
  · rw [List.getElem?_append_right hge] at hp
    rw [List.getElem?_append_right (by rw [h.1]; exact hge), h.1]
    exact g.2 _ p hp
theorem Lies.one {w : World} {A : Option Addr} {c : Nat} {p : List S25} (h1 : p.length ≤ c) (h2 : Kd.C k25 w A p.length p) : Lies w [.slice A p.length c] [p] :=
  ⟨rfl, fun j q hq => by
    cases j with
    | zero => simp at hq; subst hq; exact ⟨A, c, rfl, h1, h2⟩
    | succ j => simp at hq⟩
theorem Lies.take {w : World} {vs : List Value} {ps : List (List S25)} (h : Lies w vs ps) (n : Nat) : Lies w (vs.take n) (ps.take n) := by
  refine ⟨by rw [List.length_take, List.length_take, h.1], fun j p hp => ?_⟩
  rw [List.getElem?_take] at hp ⊢
  split at hp
  · rename_i hj; rw [if_pos hj]; exact h.2 j p hp
  · cases hp
theorem Lies.drop {w : World} {vs : List Value} {ps : List (List S25)} (h : Lies w vs ps) (n : Nat) : Lies w (vs.drop n) (ps.drop n) := by
  refine ⟨by rw [List.length_drop, List.length_drop, h.1], fun j p hp => ?_⟩
  rw [List.getElem?_drop] at hp ⊢
  exact h.2 _ p hp
theorem Lies.one' {w : World} {vs : List Value} {ps : List (List S25)} (h : Lies w vs ps) : ∀ u ∈ vs, u.oneCell' = true := by
  intro u hu
  obtain ⟨j, hj, rfl⟩ := List.getElem_of_mem hu
  obtain ⟨A0, c0, h1, _, _⟩ := h.2 j _ (List.getElem?_eq_getElem (by rw [← h.1]; exact hj))
  rw [List.getElem?_eq_getElem hj] at h1
  rw [Option.some.inj h1]; rfl
/-- A row of rows that came in: its values. -/
theorem lies_of_C {w : World} {A : Option Addr} {xss : List (List S25)} (h : Kd.C (Kd.slice 25 k25) w A xss.length xss) : ∃ vs, Lies w vs xss ∧ (0 < xss.length → ∃ ad, A = some ad ∧ ∀ (j : Nat) u, vs[j]? = some u → w.cell? (ad.add j) = some u) := by
  by_cases h0 : 0 < xss.length
  · obtain ⟨ad, e, hc⟩ := h.2.2 h0
    have each : ∀ j, j < xss.length → ∃ u : Value, w.cell? (ad.add j) = some u ∧ ∃ A0 c0, u = .slice A0 (rd_L2 xss (j : Int)).length c0 ∧ (rd_L2 xss (j : Int)).length ≤ c0 ∧ Kd.C k25 w A0 (rd_L2 xss (j : Int)).length (rd_L2 xss (j : Int)) := by
      intro j hj
      obtain ⟨ad', A0, c0, e', h1, h2, h3⟩ := at_L2 h (j : Int) (by omega) (by omega)
      rw [e] at e'
      obtain rfl := Option.some.inj e'
      rw [Int.toNat_natCast] at h1
      exact ⟨_, h1, A0, c0, rfl, h2, h3⟩
    obtain ⟨q, hq⟩ : ∃ q : Nat → Value, ∀ j, j < xss.length → w.cell? (ad.add j) = some (q j) ∧ ∃ A0 c0, q j = .slice A0 (rd_L2 xss (j : Int)).length c0 ∧ (rd_L2 xss (j : Int)).length ≤ c0 ∧ Kd.C k25 w A0 (rd_L2 xss (j : Int)).length (rd_L2 xss (j : Int)) := by
      refine ⟨fun j => if h : j < xss.length then Classical.choose (each j h) else .slice none 0 0, fun j h => ?_⟩
      simp only [dif_pos h]
      exact Classical.choose_spec (each j h)
    refine ⟨(List.range xss.length).map q, ⟨by simp, fun j p hp => ?_⟩, fun _ => ⟨ad, e, fun j u hu => ?_⟩⟩
    · obtain ⟨hj, rfl⟩ := List.getElem?_eq_some_iff.1 hp
      obtain ⟨_, A0, c0, h1, h2, h3⟩ := hq j hj
      have e2 : rd_L2 xss (j : Int) = xss[j] := by
        unfold rd_L2; rw [Int.toNat_natCast, List.getD_eq_getElem?_getD, List.getElem?_eq_getElem hj]; rfl
      rw [e2] at h1 h2 h3
      exact ⟨A0, c0, by simp [hj, h1], h2, h3⟩
    · obtain ⟨hj, e2⟩ := List.getElem?_eq_some_iff.1 hu
      rw [List.length_map, List.length_range] at hj
      simp at e2
      rw [← e2]; exact (hq j hj).1
  · obtain rfl : xss = [] := List.length_eq_zero_iff.1 (by omega)
    exact ⟨[], Lies.nil w, fun h => absurd h h0⟩
/-- An own row of such values reads as the row of rows. -/
theorem C_of_lies {w : World} {base : Nat} {v : Value} {vs : List Value} {ps : List (List S25)} (ho : w.ownsRow base 22 1 v ps.length vs) (h : Lies w vs ps) (hn : ps.length ≤ 1000000000) : ∃ A c, v = .slice A ps.length c ∧ ps.length ≤ c ∧ Kd.C (Kd.slice 25 k25) w A ps.length ps := by
  have hcell := fun {g : Nat} (hg : v.ownBlock = some g) => ho.cells hg
  rcases ho.2 with ⟨rfl, h0⟩ | ⟨g, cap, cur, rfl, hb, hg, hle, hmx, hs, ht⟩
  · obtain rfl : ps = [] := List.length_eq_zero_iff.1 h0
    exact ⟨none, 0, rfl, Nat.le_refl _, Kd.C_nil _ _⟩
  · refine ⟨_, cap, rfl, hle, rfl, by omega, fun _ => ⟨_, rfl, fun j p hp => ?_⟩⟩
    obtain ⟨A0, c0, h1, h2, h3⟩ := h.2 j p hp
    refine ⟨[.slice A0 p.length c0], rfl, ⟨A0, c0, rfl, h2, h3⟩, fun i u hu => ?_⟩
    have := hcell rfl j _ h1
    match i, hu with
    | 0, hu => simp at hu; rw [← hu]; show w.cell? (Addr.add _ (j * 1 + 0)) = _; rw [Nat.mul_one, Nat.add_zero]; exact this
/-! Appending rows of rows. -/
theorem info22 : (Tryd.prog.info? 22).map (fun i => (i.zero, i.size, i.bytes)) = some (some (.slice none 0 0), 1, 24) := by kernel_rfl
theorem run_append_none37 {w : World} (base : Nat) (ty : TypeId) (v : Value) (n c : Nat) (xs : List Value) (hown : w.ownsRow base 22 1 v n xs) :
    (Builtin.append_ #[37, 37] ty #[v, .slice none 0 c]).run Tryd.prog w = .ok v w := by
  obtain ⟨i0, hi, hz0, hz1, hz2⟩ := info_parts info22
  rcases hown.2 with ⟨rfl, rfl⟩ | ⟨g, cap, cur, rfl, _, _, hnc, _⟩
  · simp [Builtin.append_, run_underlying Tryd.underlying37, sizeOf, typeInfo, hi, Builtin.lenOf, Builtin.firstCells]
  · simp [Builtin.append_, run_underlying Tryd.underlying37, sizeOf, typeInfo, hi, Builtin.lenOf, Builtin.firstCells, hnc, storeCells]
/-- The row that append leaves, in plain words: for whatever source. -/
theorem run_append_rows {w : World} (base : Nat) (ty : TypeId) (v : Value) (n : Nat) (vs us : List Value) (hown : w.ownsRow base 22 1 v n vs) (A : Option Addr) (c : Nat)
    (hc : 0 < us.length → ∃ ad, A = some ad ∧ ∀ (j : Nat) u, us[j]? = some u → w.cell? (ad.add j) = some u) (h1 : ∀ u ∈ us, u.oneCell' = true) (hlen : n + us.length ≤ 1000000) (hbase : base ≤ w.heap.size) :
    ∃ v' w', (Builtin.append_ #[37, 37] ty #[v, .slice A us.length c]).run Tryd.prog w = .ok v' w' ∧ w'.ownsRow base 22 1 v' (n + us.length) (vs ++ us) ∧ w.grownBy w' v.ownBlock ∧ (v'.ownBlock = v.ownBlock ∨ v'.ownBlock = some w.heap.size) := by
  obtain ⟨i0, hi, hz0, hz1, hz2⟩ := info_parts info22
  cases A with
  | none =>
    have h0 : us = [] := by
      cases us with
      | nil => rfl
      | cons u us => obtain ⟨ad, e, _⟩ := hc (by simp); cases e
    subst h0
    exact ⟨v, w, run_append_none37 base ty v n c vs hown, by simpa using hown, ⟨rfl, rfl, rfl, Nat.le_refl _, fun _ _ _ => rfl⟩, .inl rfl⟩
  | some ad =>
    have hcell : ∀ j u, us[j]? = some u → w.cell? (ad.add j) = some u := fun j u hu => by
      obtain ⟨ad', e, h⟩ := hc (by have := (List.getElem?_eq_some_iff.1 hu).1; omega)
      obtain rfl := Option.some.inj e
      exact h j u hu
    obtain ⟨v', w', h2, h3, h4, _, h5⟩ := run_append_own_at w base 37 ty 22 i0 (.slice none 0 0) 1 24 Tryd.underlying37 hi hz0 hz1 hz2 rfl (by decide) v n vs hown ad us.length c us (by omega) hcell h1 (by simp only [maxLen]; omega) (by omega) hbase
    exact ⟨v', w', h2, h3, h4, h5⟩
end Go.Proofs.YtgphciopondlaaaDoor
namespace Go.Proofs.YtgphciopondlaaaDoor
set_option linter.unusedVariables false
set_option linter.unusedSimpArgs false
open Go.RowKit Go.Sort Go.Lib Go.Proofs.YtgphciopondlaaaDoor.PAll Go.Proofs.YtgphciopondlaaaDoorW.PrintWords Go.Proofs.YtgphciopondlaaaDoorW.PrintLast

/-- append of rows as a step of a region that draws its order. -/
theorem step_append_rows {ops : Array Oper} {o : Oper} {a : Act} {w : World} {Q : Exit → Act → World → Prop} {K : Act → World → Prop} (hw : Region.wanted o (yielded ops a.tmps) = true) (s x : Operand)
    (ho : o.op = .call { callee := .builtin .append, args := #[s, x], argTypes := #[37, 37] }) (base : Nat) (v : Value) (n : Nat) (vs us : List Value) (hs : a.eval s = v) (hown : w.ownsRow base 22 1 v n vs) (A : Option Addr) (m c : Nat) (hm : m = us.length) (hx : a.eval x = .slice A m c)
    (hc : 0 < us.length → ∃ ad, A = some ad ∧ ∀ (j : Nat) u, us[j]? = some u → w.cell? (ad.add j) = some u) (h1 : ∀ u ∈ us, u.oneCell' = true) (hlen : n + us.length ≤ 1000000) (hbase : base ≤ w.heap.size)
    (h : ∀ v' w', w'.ownsRow base 22 1 v' (n + us.length) (vs ++ us) → w.grownBy w' v.ownBlock → (v'.ownBlock = v.ownBlock ∨ v'.ownBlock = some w.heap.size) → K (a.put o.dst v') w') :
    if Region.wanted o (yielded ops a.tmps) = true then Oper.wp Tryd.prog o a w K Q else K (a.put o.dst undef) w := by
  subst hm
  rw [if_pos hw]
  obtain ⟨v', w', hr, h2, h3, h4⟩ := run_append_rows base o.type v n vs us hown A c hc h1 hlen hbase
  unfold Oper.wp execOp
  simp only [ho, resolve, invoke, builtin, Sem.run_bind, Sem.run_pure, Result.andThen_ok, List.map_toArray, List.map_cons, List.map_nil, hs, hx, hr]
  exact h v' w' h2 h3 h4
/-- A row of the call's own is another block than g. -/
def UB (v : Value) (g : Nat) (w : World) : Prop := ∀ k, v.ownBlock = some k → k < w.heap.size ∧ k ≠ g
theorem UB.nil (g : Nat) (w : World) : UB (.slice none 0 0) g w := fun k hk => by cases hk
theorem UB.up {v : Value} {g : Nat} {w w' : World} (h : UB v g w) (hs : w.heap.size ≤ w'.heap.size) : UB v g w' := fun k hk => ⟨Nat.lt_of_lt_of_le (h k hk).1 hs, (h k hk).2⟩
theorem UB.new {v : Value} {g : Nat} {w w' : World} (hv : v.ownBlock = some w.heap.size) (hg : g < w.heap.size) (hs : w.heap.size < w'.heap.size) : UB v g w' := fun k hk => by
  rw [hv] at hk; cases hk; exact ⟨hs, by omega⟩
theorem UB.g {v : Value} {g : Nat} {w : World} (h : UB v g w) (o : Obj) : UB v w.heap.size (w.alloc o) := fun k hk => ⟨by have := (h k hk).1; simp; omega, by have := (h k hk).1; omega⟩
theorem UB.app {v v' : Value} {g base n : Nat} {xs : List Value} {w w' : World} (hv : v'.ownBlock = v.ownBlock ∨ v'.ownBlock = some w.heap.size) (h : UB v g w) (hg : g < w.heap.size) (ho : w'.ownsRow base 22 1 v' n xs) (hgr : w.grownBy w' v.ownBlock) : UB v' g w' := fun k hk => by
  have hlt := (ho.lt k hk).2
  refine ⟨hlt, ?_⟩
  rcases hv with hv | hv
  · rw [hv] at hk; exact (h k hk).2
  · rw [hv] at hk; cases hk; omega
theorem gb_alloc {g : Nat} {w : World} {x : Obj} (h : w.heap[g]? = some x) (o : Obj) : (w.alloc o).heap[g]? = some x := by
  rw [Below.heap_alloc w o g (by
    rcases Nat.lt_or_ge g w.heap.size with h' | h'
    · exact h'
    · rw [Array.getElem?_eq_none h'] at h; cases h)]
  exact h
theorem gb_grown {g : Nat} {w w' : World} {x : Obj} {v : Value} (h : w.heap[g]? = some x) (hg : w.grownBy w' v.ownBlock) (hu : UB v g w) : w'.heap[g]? = some x := by
  have hlt : g < w.heap.size := by
    rcases Nat.lt_or_ge g w.heap.size with h' | h'
    · exact h'
    · rw [Array.getElem?_eq_none h'] at h; cases h
  rw [hg.block g hlt (fun e => (hu g e.symm).2 rfl)]; exact h
theorem gb_cell {g : Nat} {w : World} {x : Value} {t : TypeId} (h : w.heap[g]? = some (.cells #[x] t (0, 0))) (j : Nat) (u : Value) (hu : ([x] : List Value)[j]? = some u) : w.cell? ((⟨g, 0, none⟩ : Addr).add j) = some u := by
  match j, hu with
  | 0, hu => simp at hu; subst hu; simp [World.cell?, Addr.add, h]
theorem own_zero {w : World} {base : Nat} (hb : base ≤ w.heap.size) : (w.alloc (.cells #[] 22)).ownsRow base 22 1 (.slice (some ⟨w.heap.size, 0, none⟩) 0 0) 0 [] :=
  ⟨rfl, .inr ⟨_, 0, #[], rfl, hb, Array.getElem?_push_size, Nat.le_refl _, by unfold maxLen; omega, rfl, rfl⟩⟩
theorem own_alloc {w : World} {base n : Nat} {v : Value} {xs : List Value} (h : w.ownsRow base 22 1 v n xs) (o : Obj) : (w.alloc o).ownsRow base 22 1 v n xs := h.alloc o
theorem below_row {n : Nat} {w0 w w' : World} {v : Value} {xs : List Value} (hb : RowKit.Below w0.heap.size w0 w) (hg : w.grownBy w' v.ownBlock) (ho : w.ownsRow w0.heap.size 22 1 v n xs) : RowKit.Below w0.heap.size w0 w' :=
  hb.grown hg hb.size (fun k hk => (ho.lt k hk).1)
theorem lt_of_cell' {w : World} {a : Addr} {v : Value} (h : w.cell? a = some v) : a.block < w.heap.size := by
  rcases Nat.lt_or_ge a.block w.heap.size with h' | h'
  · exact h'
  · unfold World.cell? at h; rw [Array.getElem?_eq_none h'] at h; cases h
noncomputable def T4 : Bool × List (List Nat × List Nat) := rtab .any (opsOf Tryd.f7 4)
def B4 : List Nat := [0, 0, 0, 6, 15, 0, 0, 96, 255, 0, 0, 1536, 3584, 7680, 16383, 32767]
theorem tab4 : rtab .any (opsOf Tryd.f7 4) = T4 := rfl
theorem bits4 : waitsOk T4.2 B4 = true := by kernel_rfl
theorem base4 : baseOk T4.2 [0, 4, 8, 12, 13, 14, 15] = true := by kernel_rfl
/-- Rows of two types are two rows. -/
theorem own_apart {w : World} {base base' e e' s s' n n' : Nat} {v v' : Value} {xs xs' : List Value} (h : w.ownsRow base e s v n xs) (h' : w.ownsRow base' e' s' v' n' xs') (hne : e ≠ e') : v.ownBlock = none ∨ v.ownBlock ≠ v'.ownBlock := by
  rcases h.2 with ⟨hv, _⟩ | ⟨g, cap, cur, hv, _, hg, _⟩
  · exact .inl (by rw [hv]; rfl)
  · right
    rcases h'.2 with ⟨hv', _⟩ | ⟨g', cap', cur', hv', _, hg', _⟩
    · rw [hv, hv']; simp [Value.ownBlock]
    · rw [hv, hv']
      simp only [Value.ownBlock, ne_eq, Option.some.injEq]
      intro e0
      subst e0
      rw [hg] at hg'
      simp only [Option.some.injEq, Obj.cells.injEq] at hg'
      exact hne hg'.2.1
/-- The members alone count. -/
theorem allD_members {l m : List Dg.D} (h : ∀ x, x ∈ l ↔ x ∈ m) : allD l = allD m := by
  have e1 : allD l = Dg.putAll16 [] l := Dg.all_eq l
  have e2 : allD m = Dg.putAll16 [] m := Dg.all_eq m
  rw [e1, e2]
  have f1 : Dg.putAll16 [] l = (Dg.putAll [] l).take 16 := Dg.putAll16_eq l []
  have f2 : Dg.putAll16 [] m = (Dg.putAll [] m).take 16 := Dg.putAll16_eq m []
  rw [f1, f2]
  have h1 := Dg.putAll_ok l [] rfl
  have h2 := Dg.putAll_ok m [] rfl
  rw [Dg.strict_ext h1.1 h2.1 fun x => by rw [h1.2, h2.2, h]]
theorem allD_len (l : List Dg.D) : (allD l).length ≤ 16 := by unfold allD; rw [List.length_take]; omega
theorem tot_append (a b : List (List S25)) : tot (a ++ b) = tot a + tot b := by simp [tot]
/-- What a round of the turning keeps. -/
def RB (w3 : World) (m q : Nat) (MS : List Value) (mv : Value) (pD : List Dg.D) (j : Nat) (b7 : Value) (wr : World) : Prop :=
  wr.ownsRow w3.heap.size 25 2 b7 j (flat (pD.reverse.take j)) ∧ wr.ownsRow w3.heap.size 22 1 mv q MS ∧ RowKit.Below w3.heap.size w3 wr
set_option maxRecDepth 100000 in
set_option maxHeartbeats 8000000 in
theorem order_main (A : Option Addr) (c : Nat) (xss : List (List S25)) (y : Int) (kl ks : Nat) (w : World) (HT : Tab w) (hC : Kd.C (Kd.slice 25 k25) w A xss.length xss) (hc : xss.length ≤ c)
    (hl : entrepotlaw04_long.f kl xss = some false) (hs : entrepotlaw04_shown.f ks = some true) (hn : 0 < xss.length) (hx : xss.length ≤ 20) (hrow : ∀ i : Nat, i < xss.length → (rd_L2 xss (i : Int)).length ≤ 60) (ht : tot xss ≤ 200) (hy : 0 ≤ y ∧ y ≤ 255) :
    Calls Tryd.prog 7 #[.slice A xss.length c, .int .u8 y] w fun e w' => e = .returned (.bool true) ∧ Below w.heap.size w w' := by
  obtain ⟨vs, hL, hcell⟩ := lies_of_C hC
  obtain ⟨ad, rfl, hcell⟩ := hcell hn
  have hlong := entrepotlaw04_long.calls kl (some ad) c xss false w hC hc hl
  have hshown := fun W (h : Tab W) => entrepotlaw04_shown.calls ks true W h hs
  obtain ⟨n, hnn⟩ : ∃ n, xss.length = n := ⟨_, rfl⟩
  have HN := Aside0.mk hnn
  rw [hnn] at hlong hn hx hc ⊢
  obtain ⟨kk, hK⟩ : ∃ kk : Nat, Int.tmod y (n : Int) = (kk : Int) := by
    obtain ⟨m, rfl⟩ := Int.eq_ofNat_of_zero_le hy.1
    exact ⟨m % n, Int.ofNat_tmod m n⟩
  have hKn : kk < n := by
    obtain ⟨m, rfl⟩ := Int.eq_ofNat_of_zero_le hy.1
    have e : Int.tmod (m : Int) (n : Int) = ((m % n : Nat) : Int) := Int.ofNat_tmod m n
    have := Nat.mod_lt m hn
    omega
  have hwy : wrap64 y = y := IntWalk.wrap64_in _ ⟨by omega, by omega⟩
  have hn0 : ¬ ((n : Int) = 0) := by omega
  have hn0b : ((n : Int) == 0) = false := by simpa using hn0
  have hlong := Aside0.mk hlong
  have hshown := Aside0.mk hshown
  have hL := Aside0.mk hL
  have hcell := Aside0.mk hcell
  have HC := Aside0.mk hC
  have HT := Aside0.mk HT
  clear hC hs hl
  clear hnn
  go_enter Tryd.func7, Tryd.ntmps7
  go_wp2_with fail
  refine hlong.out.mono ?_
  rintro e W1 ⟨rfl, hd1⟩
  have hb1 := hd1.below
  have HT1 := Aside0.mk (HT.out.below hb1)
  replace hb1 := Aside0.mk hb1
  clear hd1
  go_wp2_with fail
  refine (hshown.out W1 HT1.out).mono ?_
  rintro e W2 ⟨rfl, hb2⟩
  have HB2 := Aside0.mk (hb1.out.trans (hb2.mono hb1.out.size))
  clear hb2
  go_wp2_with fail
  have hK0 : (0 : Int) ≤ (kk : Int) := by omega
  have hK1 : (kk : Int) ≤ (n : Int) := by omega
  have hK2 : (kk : Int) < (n : Int) := by omega
  have hnc : (n : Int) ≤ (c : Int) := by omega
  have hKc : kk ≤ c := by omega
  have hcK : ¬ (c = kk) := by omega
  refine start_ (n := 16) (S := fun w' => True) (ds := []) #[false, false, false, false, false, false, false, false, false, false, false, false, false, false, false, false] (by kernel_rfl) rfl rfl trivial (fun hHeld => ?_)
  refine with_tabW tab4 bits4 (fun HT_ HW_ => ?_)
  generalize hW3 : W2.drew = W3
  have hB3 : RowKit.Below w.heap.size w W3 := by rw [← hW3]; exact HB2.out.drew
  have hadl : ad.block < w.heap.size := by
    obtain ⟨ad', e, h⟩ := hcell.out (by have := HN.out; omega)
    cases e
    exact lt_of_cell' (h 0 _ (List.getElem?_eq_getElem (by have := HN.out; have := hL.out.1; omega)))
  have hcells : Aside0 (∀ w', RowKit.Below W3.heap.size W3 w' → ∀ (j : Nat) u, vs[j]? = some u → w'.cell? (ad.add j) = some u) := ⟨fun w' hb j u hu => by
    obtain ⟨ad', e, h⟩ := hcell.out (by have := HN.out; omega)
    cases e
    have h1 := h j u hu
    rw [hb.cell (p := ad.add j) (by rw [add_block]; exact Nat.lt_of_lt_of_le hadl hB3.size), hB3.cell (p := ad.add j) (by rw [add_block]; exact hadl)]
    exact h1⟩
  have hdrop : Aside0 (∀ w', RowKit.Below W3.heap.size W3 w' → ∀ (j : Nat) u, (vs.drop kk)[j]? = some u → w'.cell? ((ad.add kk).add j) = some u) := ⟨fun w' hb j u hu => by
    rw [List.getElem?_drop] at hu
    have := hcells.out w' hb _ u hu
    rw [add_add]; exact this⟩
  have htake : Aside0 (∀ w', RowKit.Below W3.heap.size W3 w' → ∀ (j : Nat) u, (vs.take kk)[j]? = some u → w'.cell? (ad.add j) = some u) := ⟨fun w' hb j u hu => by
    rw [List.getElem?_take] at hu
    split at hu
    · exact hcells.out w' hb _ u hu
    · cases hu⟩
  obtain ⟨pK, hpK⟩ : ∃ pK, xss[kk]? = some pK := ⟨_, List.getElem?_eq_getElem (show kk < xss.length by have := HN.out; omega)⟩
  obtain ⟨A0, c0, hv1, hv2, hv3⟩ := hL.out.2 kk pK hpK
  obtain ⟨vK, hvK⟩ : ∃ vK, vK = Value.slice A0 pK.length c0 := ⟨_, rfl⟩
  rw [← hvK] at hv1
  have hKc2 : Aside0 (∀ w', RowKit.Below W3.heap.size W3 w' → w'.cell? (ad.add kk) = some vK) := ⟨fun w' hb => hcells.out w' hb kk vK hv1⟩
  have hpos : 0 < W3.heap.size := Nat.lt_of_lt_of_le (Nat.lt_of_le_of_lt (Nat.zero_le _) hadl) hB3.size
  replace hv1 := Aside0.mk hv1
  replace hv2 := Aside0.mk hv2
  replace hv3 := Aside0.mk hv3
  replace hpK := Aside0.mk hpK
  replace hvK := Aside0.mk hvK
  replace hB3 := Aside0.mk hB3
  replace hadl := Aside0.mk hadl
  replace hW3 := Aside0.mk hW3
  have B : RowKit.Below W3.heap.size W3 W3 := RowKit.Below.refl _ _
  have U0 : UB (.slice none 0 0) 0 W3 := UB.nil _ _
  have U1 : UB (.slice none 0 0) 0 W3 := UB.nil _ _
  have U2 : UB (.slice none 0 0) 0 W3 := UB.nil _ _
  have GL : 0 < W3.heap.size := hpos
  refine pure_ (i := 1) (N := some 27) (v := ?_) (a' := ?_) #[false, true, false, false, false, false, false, false, false, false, false, false, false, false, false, false] rfl rfl (any_of HT_.out (by kernel_rfl)) (fun _ _ _ h => h) (Or.inl ⟨by rfl, ?_⟩) ?_ ?_
  rotate_left
  · intro w'
    go_simp
    with_reducible rfl
  rotate_left
  · simp only [Act.put, List.setIfInBounds_toArray, List.set_cons_zero, List.set_cons_succ, i64_w, i32_w]
    rfl
  refine pure_ (i := 2) (N := some 28) (v := ?_) (a' := ?_) #[false, true, true, false, false, false, false, false, false, false, false, false, false, false, false, false] rfl rfl (any_of HT_.out (by kernel_rfl)) (fun _ _ _ h => h) (Or.inl ⟨by rfl, ?_⟩) ?_ ?_
  rotate_left
  · intro w'
    go_simp
    with_reducible rfl
  rotate_left
  · simp only [Act.put, List.setIfInBounds_toArray, List.set_cons_zero, List.set_cons_succ, i64_w, i32_w]
    rfl
  refine pure_ (i := 3) (N := some 29) (v := ?_) (a' := ?_) #[false, true, true, true, false, false, false, false, false, false, false, false, false, false, false, false] rfl rfl (any_of HT_.out (by kernel_rfl)) (fun _ _ _ h => h) (Or.inl ⟨by rfl, ?_⟩) ?_ ?_
  rotate_left
  · intro w'
    go_simp
    with_reducible rfl
  rotate_left
  · simp only [Act.put, List.setIfInBounds_toArray, List.set_cons_zero, List.set_cons_succ, i64_w, i32_w]
    rfl
  refine pure_ (i := 5) (N := some 31) (v := ?_) (a' := ?_) #[false, true, true, true, false, true, false, false, false, false, false, false, false, false, false, false] rfl rfl (any_of HT_.out (by kernel_rfl)) (fun _ _ _ h => h) (Or.inl ⟨by rfl, ?_⟩) ?_ ?_
  rotate_left
  · intro w'
    go_simp
    with_reducible rfl
  rotate_left
  · simp only [Act.put, List.setIfInBounds_toArray, List.set_cons_zero, List.set_cons_succ, i64_w, i32_w]
    rfl
  refine pure_ (i := 6) (N := some 32) (v := ?_) (a' := ?_) #[false, true, true, true, false, true, true, false, false, false, false, false, false, false, false, false] rfl rfl (any_of HT_.out (by kernel_rfl)) (fun _ _ _ h => h) (Or.inl ⟨by rfl, ?_⟩) ?_ ?_
  rotate_left
  · intro w'
    go_simp
    with_reducible rfl
  rotate_left
  · simp only [Act.put, List.setIfInBounds_toArray, List.set_cons_zero, List.set_cons_succ, i64_w, i32_w]
    rfl
  refine pure_ (i := 7) (N := some 33) (v := ?_) (a' := ?_) #[false, true, true, true, false, true, true, true, false, false, false, false, false, false, false, false] rfl rfl (any_of HT_.out (by kernel_rfl)) (fun _ _ _ h => h) (Or.inl ⟨by rfl, ?_⟩) ?_ ?_
  rotate_left
  · intro w'
    go_simp
    with_reducible rfl
  rotate_left
  · simp only [Act.put, List.setIfInBounds_toArray, List.set_cons_zero, List.set_cons_succ, i64_w, i32_w]
    rfl
  refine pure_ (i := 9) (N := some 35) (v := ?_) (a' := ?_) #[false, true, true, true, false, true, true, true, false, true, false, false, false, false, false, false] rfl rfl (any_of HT_.out (by kernel_rfl)) (fun _ _ _ h => h) (Or.inl ⟨by rfl, ?_⟩) ?_ ?_
  rotate_left
  · intro w'
    go_simp
    with_reducible rfl
  rotate_left
  · simp only [Act.put, List.setIfInBounds_toArray, List.set_cons_zero, List.set_cons_succ, i64_w, i32_w]
    rfl
  refine pure_ (i := 10) (N := some 36) (v := ?_) (a' := ?_) #[false, true, true, true, false, true, true, true, false, true, true, false, false, false, false, false] rfl rfl (any_of HT_.out (by kernel_rfl)) (fun _ _ _ h => h) (Or.inl ⟨by rfl, ?_⟩) ?_ ?_
  rotate_left
  · intro w'
    go_simp
    with_reducible rfl
  rotate_left
  · simp only [Act.put, List.setIfInBounds_toArray, List.set_cons_zero, List.set_cons_succ, i64_w, i32_w]
    rfl
  refine pure_ (i := 11) (N := some 37) (v := ?_) (a' := ?_) #[false, true, true, true, false, true, true, true, false, true, true, true, false, false, false, false] rfl rfl (any_of HT_.out (by kernel_rfl)) (fun _ _ _ h => h) (Or.inl ⟨by rfl, ?_⟩) ?_ ?_
  rotate_left
  · intro w'
    go_simp
    with_reducible rfl
  rotate_left
  · simp only [Act.put, List.setIfInBounds_toArray, List.set_cons_zero, List.set_cons_succ, i64_w, i32_w]
    rfl
  refine inv_at [0, 4, 8, 12, 13, 14, 15] (fun a0_ b a w' => ∃ (v0 : Value) (v1 : Value) (v2 : Value) (v3 : Value) (g : Nat) (m13_ : Value) (m15_ : Value), a = putSel a0_ b [(0, 26, v0), (4, 30, v1), (8, 34, v2), (12, 38, vK), (13, 39, m13_), (14, 40, v3), (15, 6, m15_)] ∧ (RowKit.Below W3.heap.size W3 w') ∧ (b 0 = true → b 4 = false → w'.ownsRow W3.heap.size 22 1 v0 0 []) ∧ (b 4 = true → b 8 = false → w'.ownsRow W3.heap.size 22 1 v1 (0 + (vs.drop kk).length) ([] ++ vs.drop kk)) ∧ (b 8 = true → b 14 = false → w'.ownsRow W3.heap.size 22 1 v2 (0 + (vs.drop kk).length + (vs.take kk).length) ([] ++ vs.drop kk ++ vs.take kk)) ∧ (b 14 = true → w'.ownsRow W3.heap.size 22 1 v3 (0 + (vs.drop kk).length + (vs.take kk).length + [vK].length) ([] ++ vs.drop kk ++ vs.take kk ++ [vK])) ∧ (UB v0 g w') ∧ (UB v1 g w') ∧ (UB v2 g w') ∧ (g < w'.heap.size) ∧ (b 13 = true → b 14 = false → w'.heap[g]? = some (.cells #[vK] 22 (0, 0))) ∧ (b 13 = true → (m13_ : Value) = .slice (some ⟨g, 0, none⟩) 1 1) ∧ (b 15 = true → (m15_ : Value) = v3)) HT_.out HW_.out (by kernel_rfl) (by kernel_rfl) ?_ ?_ ?_
  · exact ⟨.slice none 0 0, .slice none 0 0, .slice none 0 0, .slice none 0 0, 0, .bool false, .bool false, by simp only [putSel, Bool.false_eq_true, if_false], B, fun h_ => absurd h_ (by decide), fun h_ => absurd h_ (by decide), fun h_ => absurd h_ (by decide), fun h_ => absurd h_ (by decide), U0, U1, U2, GL, fun h_ => absurd h_ (by decide), fun h_ => absurd h_ (by decide), fun h_ => absurd h_ (by decide)⟩
  · skip
    clear B GL U0 U1 U2
    refine steps_cons ?_ ?_
    · rintro b a w' ⟨v0, v1, v2, v3, g, m13_, m15_, ha, Q_B, Q_O0, Q_O1, Q_O2, Q_O3, Q_U0, Q_U1, Q_U2, Q_GL, Q_G, Q_X13_, Q_X15_⟩ hb_ hon hoff
      refine ⟨_, rfl, fun K hK => ?_⟩
      replace ha := Aside0.mk ha
      have B := Aside0.mk Q_B
      have U0 := Aside0.mk Q_U0
      have U1 := Aside0.mk Q_U1
      have U2 := Aside0.mk Q_U2
      have GL := Aside0.mk Q_GL
      refine value_ (w1 := w'.alloc (.cells #[] 22)) (v := .slice (some ⟨w'.heap.size, 0, none⟩) 0 0) (by rfl) rfl ?_ ?_
      · go_simp
      refine hK.out _ _ ⟨(.slice (some ⟨w'.heap.size, 0, none⟩) 0 0), v1, v2, v3, g, m13_, m15_, (by rw [ha.out]; exact putSel_upk 0 hb_ rfl rfl rfl), (B.out.alloc B.out.size _), fun _ _ => (own_zero B.out.size), fun h0_ _ => absurd ((hoff 4 (by kernel_rfl)).symm.trans h0_) (by decide), fun h0_ _ => absurd ((hoff 8 (by kernel_rfl)).symm.trans h0_) (by decide), fun h0_ => absurd ((hoff 14 (by kernel_rfl)).symm.trans h0_) (by decide), (UB.new rfl GL.out (by simp)), (U1.out.up (by simp)), (U2.out.up (by simp)), (by have := GL.out; simp; omega), fun h0_ h1_ => (gb_alloc (Q_G h0_ h1_) _), Q_X13_, fun h0_ => absurd ((hoff 15 (by kernel_rfl)).symm.trans h0_) (by decide)⟩
    refine steps_cons ?_ ?_
    · rintro b a w' ⟨v0, v1, v2, v3, g, m13_, m15_, ha, Q_B, Q_O0, Q_O1, Q_O2, Q_O3, Q_U0, Q_U1, Q_U2, Q_GL, Q_G, Q_X13_, Q_X15_⟩ hb_ hon hoff
      refine ⟨_, rfl, fun K hK => ?_⟩
      have e26 : a.tmps[26]? = some (v0) := by rw [ha]; exact putSel_on (e := (0, 26, v0)) 0 rfl rfl (hon 0 (by kernel_rfl)) rfl
      have e29 : a.tmps[29]? = some (.slice (some (ad.add kk)) (n - kk) (c - kk)) := by rw [ha]; exact (putSel_off rfl).trans rfl
      replace ha := Aside0.mk ha
      have B := Aside0.mk Q_B
      have O0 := Aside0.mk (Q_O0 (hon 0 (by kernel_rfl)) hb_)
      have U0 := Aside0.mk Q_U0
      have U1 := Aside0.mk Q_U1
      have U2 := Aside0.mk Q_U2
      have GL := Aside0.mk Q_GL
      refine step_append_rows (by rfl) (.tmp 26) (.tmp 29) rfl W3.heap.size v0 0 [] (vs.drop kk) (by simp only [Act.eval, Array.getD_eq_getD_getElem?, e26, Option.getD_some]) O0.out (some (ad.add kk)) (n - kk) (c - kk) (by have := HN.out; have := hL.out.1; rw [List.length_drop]; omega) (by simp only [Act.eval, Array.getD_eq_getD_getElem?, e29, Option.getD_some]) (fun _ => ⟨_, rfl, fun j u hu => hdrop.out w' B.out j u hu⟩) (hL.out.drop kk).one' (by have := HN.out; have := hL.out.1; simp only [List.length_drop, List.length_take, List.length_append, List.length_cons, List.length_nil]; omega) B.out.size ?_
      intro v' wn ho hg hwh
      refine hK.out _ _ ⟨v0, v', v2, v3, g, m13_, m15_, (by rw [ha.out]; exact putSel_upk 1 hb_ rfl rfl rfl), (below_row B.out hg O0.out), fun _ h1_ => absurd ((up_self b 4).symm.trans h1_) (by decide), fun _ _ => ho, fun h0_ _ => absurd ((hoff 8 (by kernel_rfl)).symm.trans h0_) (by decide), fun h0_ => absurd ((hoff 14 (by kernel_rfl)).symm.trans h0_) (by decide), (U0.out.up hg.size), (UB.app hwh U0.out GL.out ho hg), (U2.out.up hg.size), (Nat.lt_of_lt_of_le GL.out hg.size), fun h0_ h1_ => (gb_grown (Q_G h0_ h1_) hg U0.out), Q_X13_, fun h0_ => absurd ((hoff 15 (by kernel_rfl)).symm.trans h0_) (by decide)⟩
    refine steps_cons ?_ ?_
    · rintro b a w' ⟨v0, v1, v2, v3, g, m13_, m15_, ha, Q_B, Q_O0, Q_O1, Q_O2, Q_O3, Q_U0, Q_U1, Q_U2, Q_GL, Q_G, Q_X13_, Q_X15_⟩ hb_ hon hoff
      refine ⟨_, rfl, fun K hK => ?_⟩
      have e30 : a.tmps[30]? = some (v1) := by rw [ha]; exact putSel_on (e := (4, 30, v1)) 1 rfl rfl (hon 4 (by kernel_rfl)) rfl
      have e33 : a.tmps[33]? = some (.slice (some ad) kk c) := by rw [ha]; exact (putSel_off rfl).trans rfl
      replace ha := Aside0.mk ha
      have B := Aside0.mk Q_B
      have O1 := Aside0.mk (Q_O1 (hon 4 (by kernel_rfl)) hb_)
      have U0 := Aside0.mk Q_U0
      have U1 := Aside0.mk Q_U1
      have U2 := Aside0.mk Q_U2
      have GL := Aside0.mk Q_GL
      refine step_append_rows (by rfl) (.tmp 30) (.tmp 33) rfl W3.heap.size v1 (0 + (vs.drop kk).length) ([] ++ vs.drop kk) (vs.take kk) (by simp only [Act.eval, Array.getD_eq_getD_getElem?, e30, Option.getD_some]) O1.out (some ad) (kk) (c) (by have := HN.out; have := hL.out.1; rw [List.length_take]; omega) (by simp only [Act.eval, Array.getD_eq_getD_getElem?, e33, Option.getD_some]) (fun _ => ⟨_, rfl, fun j u hu => htake.out w' B.out j u hu⟩) (hL.out.take kk).one' (by have := HN.out; have := hL.out.1; simp only [List.length_drop, List.length_take, List.length_append, List.length_cons, List.length_nil]; omega) B.out.size ?_
      intro v' wn ho hg hwh
      refine hK.out _ _ ⟨v0, v1, v', v3, g, m13_, m15_, (by rw [ha.out]; exact putSel_upk 2 hb_ rfl rfl rfl), (below_row B.out hg O1.out), fun _ h1_ => absurd ((hon 4 (by kernel_rfl)).symm.trans h1_) (by decide), fun _ h1_ => absurd ((up_self b 8).symm.trans h1_) (by decide), fun _ _ => ho, fun h0_ => absurd ((hoff 14 (by kernel_rfl)).symm.trans h0_) (by decide), (U0.out.up hg.size), (U1.out.up hg.size), (UB.app hwh U1.out GL.out ho hg), (Nat.lt_of_lt_of_le GL.out hg.size), fun h0_ h1_ => (gb_grown (Q_G h0_ h1_) hg U1.out), Q_X13_, fun h0_ => absurd ((hoff 15 (by kernel_rfl)).symm.trans h0_) (by decide)⟩
    refine steps_cons ?_ ?_
    · rintro b a w' ⟨v0, v1, v2, v3, g, m13_, m15_, ha, Q_B, Q_O0, Q_O1, Q_O2, Q_O3, Q_U0, Q_U1, Q_U2, Q_GL, Q_G, Q_X13_, Q_X15_⟩ hb_ hon hoff
      refine ⟨_, rfl, fun K hK => ?_⟩
      have e37 : a.tmps[37]? = some (.pointer (some (ad.add kk))) := by rw [ha]; exact (putSel_off rfl).trans rfl
      replace ha := Aside0.mk ha
      have B := Aside0.mk Q_B
      have U0 := Aside0.mk Q_U0
      have U1 := Aside0.mk Q_U1
      have U2 := Aside0.mk Q_U2
      have GL := Aside0.mk Q_GL
      have hcl := hKc2.out w' B.out
      refine value_ (w1 := w') (v := vK) (by rfl) rfl ?_ ?_
      · go_simp
        (try simp only [i64_w])
        try rfl
      refine hK.out _ _ ⟨v0, v1, v2, v3, g, m13_, m15_, (by rw [ha.out]; exact putSel_upk 3 hb_ rfl rfl rfl), Q_B, Q_O0, Q_O1, Q_O2, fun h0_ => absurd ((hoff 14 (by kernel_rfl)).symm.trans h0_) (by decide), Q_U0, Q_U1, Q_U2, Q_GL, fun h0_ _ => absurd ((hoff 13 (by kernel_rfl)).symm.trans h0_) (by decide), fun h0_ => absurd ((hoff 13 (by kernel_rfl)).symm.trans h0_) (by decide), fun h0_ => absurd ((hoff 15 (by kernel_rfl)).symm.trans h0_) (by decide)⟩
    refine steps_cons ?_ ?_
    · rintro b a w' ⟨v0, v1, v2, v3, g, m13_, m15_, ha, Q_B, Q_O0, Q_O1, Q_O2, Q_O3, Q_U0, Q_U1, Q_U2, Q_GL, Q_G, Q_X13_, Q_X15_⟩ hb_ hon hoff
      refine ⟨_, rfl, fun K hK => ?_⟩
      have e38 : a.tmps[38]? = some (vK) := by rw [ha]; exact putSel_on (e := (12, 38, vK)) 3 rfl rfl (hon 12 (by kernel_rfl)) rfl
      replace ha := Aside0.mk ha
      have B := Aside0.mk Q_B
      have U0 := Aside0.mk Q_U0
      have U1 := Aside0.mk Q_U1
      have U2 := Aside0.mk Q_U2
      have GL := Aside0.mk Q_GL
      refine value_ (w1 := w'.alloc (.cells #[vK] 22)) (v := .slice (some ⟨w'.heap.size, 0, none⟩) 1 1) (by rfl) rfl ?_ ?_
      · rw [hvK.out] at *
        go_simp
      refine hK.out _ _ ⟨v0, v1, v2, v3, w'.heap.size, (.slice (some ⟨w'.heap.size, 0, none⟩) 1 1), m15_, (by rw [ha.out]; exact putSel_upk 4 hb_ rfl rfl rfl), (B.out.alloc B.out.size _), fun h0_ h1_ => (own_alloc (Q_O0 h0_ h1_) _), fun h0_ h1_ => (own_alloc (Q_O1 h0_ h1_) _), fun h0_ h1_ => (own_alloc (Q_O2 h0_ h1_) _), fun h0_ => absurd ((hoff 14 (by kernel_rfl)).symm.trans h0_) (by decide), (U0.out.g _), (U1.out.g _), (U2.out.g _), (by simp), fun _ _ => Array.getElem?_push_size, fun _ => rfl, fun h0_ => absurd ((hoff 15 (by kernel_rfl)).symm.trans h0_) (by decide)⟩
    refine steps_cons ?_ ?_
    · rintro b a w' ⟨v0, v1, v2, v3, g, m13_, m15_, ha, Q_B, Q_O0, Q_O1, Q_O2, Q_O3, Q_U0, Q_U1, Q_U2, Q_GL, Q_G, Q_X13_, Q_X15_⟩ hb_ hon hoff
      refine ⟨_, rfl, fun K hK => ?_⟩
      have e34 : a.tmps[34]? = some (v2) := by rw [ha]; exact putSel_on (e := (8, 34, v2)) 2 rfl rfl (hon 8 (by kernel_rfl)) rfl
      have e39 : a.tmps[39]? = some (m13_) := by rw [ha]; exact putSel_on (e := (13, 39, m13_)) 4 rfl rfl (hon 13 (by kernel_rfl)) rfl
      rw [Q_X13_ (hon 13 (by kernel_rfl))] at e39
      replace ha := Aside0.mk ha
      have B := Aside0.mk Q_B
      have O2 := Aside0.mk (Q_O2 (hon 8 (by kernel_rfl)) hb_)
      have U0 := Aside0.mk Q_U0
      have U1 := Aside0.mk Q_U1
      have U2 := Aside0.mk Q_U2
      have GL := Aside0.mk Q_GL
      have G := Aside0.mk (Q_G (hon 13 (by kernel_rfl)) hb_)
      refine step_append_rows (by rfl) (.tmp 34) (.tmp 39) rfl W3.heap.size v2 (0 + (vs.drop kk).length + (vs.take kk).length) ([] ++ vs.drop kk ++ vs.take kk) [vK] (by simp only [Act.eval, Array.getD_eq_getD_getElem?, e34, Option.getD_some]) O2.out (some ⟨g, 0, none⟩) (1) (1) rfl (by simp only [Act.eval, Array.getD_eq_getD_getElem?, e39, Option.getD_some]) (fun _ => ⟨_, rfl, fun j u hu => gb_cell G.out j u hu⟩) (fun u hu => by rw [List.mem_singleton] at hu; rw [hu, hvK.out]; rfl) (by have := HN.out; have := hL.out.1; simp only [List.length_drop, List.length_take, List.length_append, List.length_cons, List.length_nil]; omega) B.out.size ?_
      intro v' wn ho hg hwh
      refine hK.out _ _ ⟨v0, v1, v2, v', g, m13_, m15_, (by rw [ha.out]; exact putSel_upk 5 hb_ rfl rfl rfl), (below_row B.out hg O2.out), fun _ h1_ => absurd ((hon 4 (by kernel_rfl)).symm.trans h1_) (by decide), fun _ h1_ => absurd ((hon 8 (by kernel_rfl)).symm.trans h1_) (by decide), fun _ h1_ => absurd ((up_self b 14).symm.trans h1_) (by decide), fun _ => ho, (U0.out.up hg.size), (U1.out.up hg.size), (U2.out.up hg.size), (Nat.lt_of_lt_of_le GL.out hg.size), fun _ h1_ => absurd ((up_self b 14).symm.trans h1_) (by decide), Q_X13_, fun h0_ => absurd ((hoff 15 (by kernel_rfl)).symm.trans h0_) (by decide)⟩
    refine steps_cons ?_ ?_
    · rintro b a w' ⟨v0, v1, v2, v3, g, m13_, m15_, ha, Q_B, Q_O0, Q_O1, Q_O2, Q_O3, Q_U0, Q_U1, Q_U2, Q_GL, Q_G, Q_X13_, Q_X15_⟩ hb_ hon hoff
      refine ⟨_, rfl, fun K hK => ?_⟩
      have e40 : a.tmps[40]? = some (v3) := by rw [ha]; exact putSel_on (e := (14, 40, v3)) 5 rfl rfl (hon 14 (by kernel_rfl)) rfl
      replace ha := Aside0.mk ha
      have B := Aside0.mk Q_B
      have O3 := Aside0.mk (Q_O3 (hon 14 (by kernel_rfl)))
      have U0 := Aside0.mk Q_U0
      have U1 := Aside0.mk Q_U1
      have U2 := Aside0.mk Q_U2
      have GL := Aside0.mk Q_GL
      refine value_ (w1 := w') (v := v3) (by rfl) rfl ?_ ?_
      · go_simp
        (try simp only [i64_w])
        try rfl
      refine hK.out _ _ ⟨v0, v1, v2, v3, g, m13_, (v3), (by rw [ha.out]; exact putSel_upk 6 hb_ rfl rfl rfl), Q_B, fun _ h1_ => absurd ((hon 4 (by kernel_rfl)).symm.trans h1_) (by decide), fun _ h1_ => absurd ((hon 8 (by kernel_rfl)).symm.trans h1_) (by decide), fun _ h1_ => absurd ((hon 14 (by kernel_rfl)).symm.trans h1_) (by decide), Q_O3, Q_U0, Q_U1, Q_U2, Q_GL, fun _ h1_ => absurd ((hon 14 (by kernel_rfl)).symm.trans h1_) (by decide), Q_X13_, fun _ => rfl⟩
    exact steps_nil
  · rintro b a w' hall ⟨v0, v1, v2, v3, g, m13_, m15_, ha, Q_B, Q_O0, Q_O1, Q_O2, Q_O3, Q_U0, Q_U1, Q_U2, Q_GL, Q_G, Q_X13_, Q_X15_⟩
    clear B GL U0 U1 U2
    have hb0_ := hall 0 (by kernel_rfl)
    have hb4_ := hall 4 (by kernel_rfl)
    have hb8_ := hall 8 (by kernel_rfl)
    have hb12_ := hall 12 (by kernel_rfl)
    have hb13_ := hall 13 (by kernel_rfl)
    have hb14_ := hall 14 (by kernel_rfl)
    have hb15_ := hall 15 (by kernel_rfl)
    subst ha
    obtain rfl := Q_X13_ hb13_
    obtain rfl := Q_X15_ hb15_
    simp only [putSel, hb0_, hb4_, hb8_, hb12_, hb13_, hb14_, hb15_, if_true, Act.put, List.setIfInBounds_toArray, List.set_cons_zero, List.set_cons_succ]
    have B := Aside0.mk Q_B
    clear Q_B
    clear Q_O0
    clear Q_O1
    clear Q_O2
    have O3 := Aside0.mk (Q_O3 hb14_)
    clear Q_O3
    have U0 := Aside0.mk Q_U0
    clear Q_U0
    have U1 := Aside0.mk Q_U1
    clear Q_U1
    have U2 := Aside0.mk Q_U2
    clear Q_U2
    have GL := Aside0.mk Q_GL
    clear Q_GL
    clear Q_G
    clear hall hb0_ hb4_ hb8_ hb12_ hb13_ hb14_ hb15_
    clear U0 U1 U2 GL Q_X13_ Q_X15_
    obtain ⟨MS, hMS⟩ : ∃ MS, [] ++ vs.drop kk ++ vs.take kk ++ [vK] = MS := ⟨_, rfl⟩
    obtain ⟨q, hq⟩ : ∃ q, 0 + (vs.drop kk).length + (vs.take kk).length + [vK].length = q := ⟨_, rfl⟩
    rw [hMS, hq] at O3
    replace hMS := Aside0.mk hMS
    replace hq := Aside0.mk hq
    have B4 : RowKit.Below W3.heap.size W3 (w'.alloc (.cells #[] 25)) := B.out.alloc B.out.size _
    have cK : (w'.alloc (.cells #[] 25)).cell? (ad.add kk) = some (.slice A0 pK.length c0) := by rw [← hvK.out]; exact hKc2.out _ B4
    replace B4 := Aside0.mk B4
    have hm60 : pK.length ≤ 60 := by
      have := hrow kk (by have := HN.out; omega)
      rwa [show rd_L2 xss (kk : Int) = pK by unfold rd_L2; rw [Int.toNat_natCast, List.getD_eq_getElem?_getD, hpK.out]; rfl] at this
    obtain ⟨m, hm⟩ : ∃ m, pK.length = m := ⟨_, rfl⟩
    rw [hm] at cK hm60
    replace hm := Aside0.mk hm
    go_wp2_with fail
    have RB0 : RB W3 m q MS m15_ (pK.map toD) 0 (.slice (some ⟨w'.heap.size, 0, none⟩) 0 0) (w'.alloc (.cells #[] 25)) :=
      ⟨⟨rfl, .inr ⟨_, 0, #[], rfl, B.out.size, Array.getElem?_push_size, Nat.le_refl _, by unfold maxLen; omega, rfl, rfl⟩⟩, own_alloc O3.out _, B4.out⟩
    obtain ⟨pD, hpD⟩ : ∃ pD, pK.map toD = pD := ⟨_, rfl⟩
    rw [hpD] at RB0
    have hpl : pD.length = m := by rw [← hpD, List.length_map]; exact hm.out
    have hv4 : Aside0 (∀ W, RowKit.Below W3.heap.size W3 W → Rd W A0 pD) := ⟨fun W hb => by
      rw [← hpD]
      exact rd_of_C (Kd.C_below (Kd.C_below hv3.out hB3.out) hb)⟩
    replace hpD := Aside0.mk hpD
    have hpl' := Aside0.mk hpl
    clear hpl cK
    have RB0 := Aside0.mk RB0
    obtain ⟨i0, hi, hz0, hz1, hz2⟩ := info_parts info25
    go_loopw [7, 8] (fun b7 i8 wr => ∃ j : Nat, j ≤ m ∧ i8 = .int .i64 ((m : Int) - 1 - (j : Int)) ∧ RB W3 m q MS m15_ pD j b7 wr) (fun _ i8 _ => (intOf i8 + 1).toNat)
    case atStart => exact ⟨0, Nat.zero_le _, by go_num, RB0.out⟩
    case round =>
      obtain ⟨j, hj, hi8, hR⟩ := hrel
      by_cases hlt : j < m
      · obtain ⟨t, ht⟩ : ∃ t : Nat, (m : Int) - 1 - (j : Int) = (t : Int) := ⟨m - 1 - j, by omega⟩
        rw [ht] at hi8
        subst hi8
        have htm : t < m := by omega
        have htj : Aside0 (t = m - 1 - j) := ⟨by omega⟩
        have hRd := hv4.out wr hR.2.2
        obtain ⟨a0, e0, l0, l1⟩ := hRd t (by rw [hpl'.out]; exact htm)
        have cK : wr.cell? (ad.add kk) = some (.slice A0 m c0) := by rw [← hm.out, ← hvK.out]; exact hKc2.out _ hR.2.2
        obtain ⟨d, hd⟩ : ∃ d, pD[t]'(by rw [hpl'.out]; exact htm) = d := ⟨_, rfl⟩
        rw [hd] at l0 l1
        have hd' : Aside0 (pD[t]? = some d) := ⟨by rw [← hd]; exact List.getElem?_eq_getElem _⟩
        subst e0
        have hRa := Aside0.mk hR
        clear hd hR hRd ht
        have hO : Aside0 ((wr.alloc (.cells #[.int .i64 d.1, .int .i64 d.2] 25)).ownsRow W3.heap.size 25 2 u7 j (flat (pD.reverse.take j))) := ⟨hRa.out.1.alloc _⟩
        have hC : Aside0 (∀ k u, (enc d)[k]? = some u → (wr.alloc (.cells #[.int .i64 d.1, .int .i64 d.2] 25)).cell? ((⟨wr.heap.size, 0, none⟩ : Addr).add k) = some u) := ⟨fun k u hu => by
          match k, hu with
          | 0, hu => simp [enc] at hu; subst hu; simp [go_sem, Addr.add]
          | 1, hu => simp [enc] at hu; subst hu; simp [go_sem, Addr.add]⟩
        have hbs : W3.heap.size ≤ (wr.alloc (.cells #[.int .i64 d.1, .int .i64 d.2] 25)).heap.size := by have := hRa.out.2.2.size; simp; omega
        have hbl : (enc d).length = 1 * 2 := rfl
        go_wp2_with (at_builtin; refine wpList_append_own _ rfl _ _ 22 rfl W3.heap.size 25 i0 (.agg #[.int .i64 0, .int .i64 0]) 2 16 Tryd.underlying22 hi hz0 hz1 hz2 rfl (by decide) _ _ _ rfl hO.out ⟨wr.heap.size, 0, none⟩ 1 1 (enc d) rfl hbl hC.out (by intro u hu; simp [enc] at hu; rcases hu with rfl | rfl <;> rfl) (by simp only [maxLen]; omega) (by omega) hbs ?_)
        intro v' w1 hown hgrow hnil
        have hnew : RB W3 m q MS m15_ pD (j + 1) v' w1 := by
          refine ⟨?_, ?_, ?_⟩
          · have e : pD.reverse.take (j + 1) = pD.reverse.take j ++ [d] := by
              have hl : j < pD.reverse.length := by rw [List.length_reverse, hpl'.out]; exact hlt
              have hg : pD.reverse[j]? = some d := by
                rw [List.getElem?_reverse (by rw [List.length_reverse] at hl; exact hl), hpl'.out]
                rw [show m - 1 - j = t by rw [htj.out]]; exact hd'.out
              rw [List.take_add_one, hg]; rfl
            rw [e, flat_append]
            simpa [flat] using hown
          · refine (hRa.out.2.1.alloc _).kept hgrow ?_
            rcases hRa.out.2.1.2 with ⟨hv, _⟩ | ⟨g2, cap2, cur2, hv, hb2, hg2, _⟩
            · exact .inl (by rw [hv]; rfl)
            · right
              rw [hv]
              intro e
              have h1 := own_typed hO.out g2 (by rw [← e]; rfl)
              obtain ⟨cells, hcc⟩ := h1
              rw [Below.heap_alloc wr _ g2 (Array.getElem?_eq_some_iff.1 hg2).1] at hcc
              rw [hg2] at hcc
              cases hcc
          · exact (hRa.out.2.2.alloc hRa.out.2.2.size _).grown hgrow hbs (fun k hk => (hO.out.lt k hk).1)
        replace hnew := Aside0.mk hnew
        clear hown hgrow hnil
        go_wp2_with fail
        go_roundw
        case rel => exact ⟨j + 1, by omega, by rw [← (show (m : Int) - 1 - ((j + 1 : Nat) : Int) = (t : Int) - 1 by have := htj.out; omega)], hnew.out⟩
        case measure => simp [intOf]
      · obtain rfl : j = m := by omega
        have hm1 : (j : Int) - 1 - (j : Int) = -1 := by omega
        rw [hm1] at hi8
        subst hi8
        have hRa := Aside0.mk hR
        clear hR hm1
        have hrev : flat (pD.reverse.take j) = flat (pD.reverse) := by rw [List.take_of_length_le (by rw [List.length_reverse, hpl'.out]; exact Nat.le_refl _)]
        have hRb := hRa.out.1
        rw [hrev] at hRb
        have hR2 := R_of_own hRb
        have hps : pD.reverse.map toS = pK.reverse := by
          rw [← hpD.out, ← List.map_reverse, List.map_map]
          exact List.map_id' _
        rw [hps] at hR2
        obtain ⟨Ab, cb, rfl, hbc, hbC⟩ := Kd.R_reads hR2
        have hlr : pK.reverse.length = j := by rw [List.length_reverse]; exact hm.out
        obtain ⟨Am, cm, rfl⟩ : ∃ Am cm, m15_ = .slice Am q cm := by
          rcases hRa.out.2.1.2 with ⟨hv, h0⟩ | ⟨g2, cap2, cur2, hv, _⟩
          · exact ⟨none, 0, by rw [hv, h0]⟩
          · exact ⟨_, _, hv⟩
        have hOM : Aside0 ((wr.alloc (.cells #[.slice Ab j cb] 22)).ownsRow W3.heap.size 22 1 (.slice Am q cm) q MS) := ⟨hRa.out.2.1.alloc _⟩
        have hbs : W3.heap.size ≤ (wr.alloc (.cells #[.slice Ab j cb] 22)).heap.size := by have := hRa.out.2.2.size; simp; omega
        have hBW : Aside0 (RowKit.Below W3.heap.size W3 (wr.alloc (.cells #[.slice Ab j cb] 22))) := ⟨hRa.out.2.2.alloc hRa.out.2.2.size _⟩
        have hC : Aside0 (∀ k u, ([.slice Ab j cb] : List Value)[k]? = some u → (wr.alloc (.cells #[.slice Ab j cb] 22)).cell? ((⟨wr.heap.size, 0, none⟩ : Addr).add k) = some u) := ⟨fun k u hu => by
          match k, hu with
          | 0, hu => simp at hu; subst hu; simp [go_sem, Addr.add]⟩
        have hq20 : q ≤ 100 := by
          have := hL.out.1; have := HN.out
          rw [← hq.out]
          simp only [List.length_drop, List.length_take, List.length_cons, List.length_nil]
          omega
        have hbC' := Aside0.mk (Kd.C_below hbC ((RowKit.Below.refl _ _).alloc (Nat.le_refl _) (.cells #[.slice Ab j cb] 22)))
        replace hbc := Aside0.mk hbc
        replace hlr := Aside0.mk hlr
        rw [hlr.out] at hRa
        obtain ⟨i2, gi, gz0, gz1, gz2⟩ := info_parts info22
        have HRb := Aside0.mk hRb
        have HPS := Aside0.mk hps
        clear hRb hR2 hps hrev hbC hz0 hz1 hz2 hi
        rw [hlr.out]
        go_wp2_with (at_builtin; refine wpList_append_own _ rfl _ _ 37 rfl W3.heap.size 22 i2 (.slice none 0 0) 1 24 Tryd.underlying37 gi gz0 gz1 gz2 rfl (by decide) _ _ _ rfl hOM.out ⟨wr.heap.size, 0, none⟩ 1 1 [.slice Ab j cb] rfl rfl hC.out (by intro u hu; rw [List.mem_singleton] at hu; subst hu; rfl) (by simp only [maxLen]; omega) (by omega) hbs ?_)
        intro v' w5 hown hgrow hnil
        have hB5 : RowKit.Below W3.heap.size W3 w5 := hBW.out.grown hgrow hbs (fun k hk => (hOM.out.lt k hk).1)
        have hbC5 : Kd.C k25 w5 Ab pK.reverse.length pK.reverse := by
          have h1 : w5.ownsRow W3.heap.size 25 2 (.slice Ab pK.reverse.length cb) j (flat pD.reverse) := (HRb.out.alloc (.cells #[.slice Ab j cb] 22)).kept hgrow (own_apart (HRb.out.alloc _) hOM.out (by decide))
          have h2 := R_of_own h1
          rw [HPS.out] at h2
          exact (Kd.R_reads' h2).2.2
        have hLies : Lies w5 (MS ++ [.slice Ab j cb]) (xss.drop kk ++ xss.take kk ++ [pK] ++ [pK.reverse]) := by
          have hw5 := RowKit.Below.trans hB3.out (hB5.mono hB3.out.size)
          have hL5 := hL.out.below hw5
          rw [← hMS.out, List.nil_append]
          refine ((hL5.drop kk).append (hL5.take kk)).append ?_ |>.append ?_
          · rw [hvK.out]
            exact Lies.one hv2.out (Kd.C_below hv3.out hw5)
          · have := Lies.one (c := cb) hbc.out hbC5
            rwa [hlr.out] at this
        have hlen : (xss.drop kk ++ xss.take kk ++ [pK] ++ [pK.reverse]).length = q + 1 := by
          have := hL.out.1
          rw [← hq.out]
          simp only [List.length_append, List.length_drop, List.length_take, List.length_cons, List.length_nil]
          omega
        obtain ⟨X, hX⟩ : ∃ X, xss.drop kk ++ xss.take kk ++ [pK] ++ [pK.reverse] = X := ⟨_, rfl⟩
        rw [hX] at hlen hLies
        have hXm : ∀ x, x ∈ xss.flatten ↔ x ∈ X.flatten := fun x => by
          have hpm : pK ∈ xss := List.mem_of_getElem? hpK.out
          rw [← hX]
          simp only [List.flatten_append, List.flatten_cons, List.flatten_nil, List.append_nil, List.mem_append, List.mem_reverse]
          have h3 : x ∈ xss.flatten ↔ x ∈ (xss.take kk).flatten ∨ x ∈ (xss.drop kk).flatten := by
            rw [← List.mem_append, ← List.flatten_append, List.take_append_drop]
          constructor
          · intro hx
            rcases h3.1 hx with h4 | h4
            · exact .inl (.inl (.inr h4))
            · exact .inl (.inl (.inl h4))
          · rintro ((( h4 | h4) | h4) | h4)
            · exact h3.2 (.inr h4)
            · exact h3.2 (.inl h4)
            · exact List.mem_flatten.2 ⟨pK, hpm, h4⟩
            · exact List.mem_flatten.2 ⟨pK, hpm, h4⟩
        have hXt : tot X ≤ 1000 := by
          have h4 := tot_le xss kk
          have h5 : tot xss = tot (xss.take kk) + tot (xss.drop kk) := by rw [← tot_append, List.take_append_drop]
          have h6 : tot [pK] = pK.length := by simp [tot]
          have h7 : tot [pK.reverse] = pK.length := by simp [tot]
          rw [← hX, tot_append, tot_append, tot_append, h6, h7]
          have := hm.out
          omega
        have hAeq : allD (X.flatten.map toD) = allD (xss.flatten.map toD) := allD_members fun x => by
          simp only [List.mem_map]
          constructor
          · rintro ⟨z, hz, rfl⟩; exact ⟨z, (hXm z).2 hz, rfl⟩
          · rintro ⟨z, hz, rfl⟩; exact ⟨z, (hXm z).1 hz, rfl⟩
        obtain ⟨A5, c5, rfl, hc5, hC5⟩ := C_of_lies (by rw [hlen]; exact hown) hLies (by rw [hlen]; omega)
        have hw5 : RowKit.Below w.heap.size w w5 := hB3.out.trans (hB5.mono hB3.out.size)
        have hall1 : Aside0 (Calls Tryd.prog 17 #[.slice (some ad) n c] w5 fun e w' => ∃ v0_ : Value, e = .returned (v0_) ∧ Kd.R k25 25 w' w5.heap.size (fun _ => True) v0_ ((allD (xss.flatten.map toD)).map toS) ∧ RowKit.Below w5.heap.size w5 w') := ⟨by
          have := diag_All.calls (some ad) c xss ((allD (xss.flatten.map toD)).map toS) w5 (Kd.C_below HC.out hw5) (by have := HN.out; omega) (by unfold diag_All.f; rw [if_pos ⟨by omega, by have := HN.out; omega⟩])
          rwa [HN.out] at this⟩
        have hall2 : Aside0 (∀ W, RowKit.Below w5.heap.size w5 W → Calls Tryd.prog 17 #[.slice A5 (q + 1) c5] W fun e w' => ∃ v0_ : Value, e = .returned (v0_) ∧ Kd.R k25 25 w' W.heap.size (fun _ => True) v0_ ((allD (xss.flatten.map toD)).map toS) ∧ RowKit.Below W.heap.size W w') := ⟨fun W hW => by
          have := diag_All.calls A5 c5 X ((allD (xss.flatten.map toD)).map toS) W (Kd.C_below hC5 hW) hc5 (by unfold diag_All.f; rw [if_pos ⟨by omega, by omega⟩, hAeq])
          rwa [hlen] at this⟩
        have hRl : ((allD (xss.flatten.map toD)).map toS).length ≤ 20 := by rw [List.length_map]; have := allD_len (xss.flatten.map toD); omega
        obtain ⟨R, hRq⟩ : ∃ R, (allD (xss.flatten.map toD)).map toS = R := ⟨_, rfl⟩
        rw [hRq] at hall1 hall2 hRl
        obtain ⟨ks2, hS2⟩ := (Go.Proofs.YtgphciopondlaaaDoor.Evs.refSame R hRl).rounds
        have hS2 := Aside0.mk hS2
        replace hw5 := Aside0.mk hw5
        rw [hlen]
        clear hRq hAeq hXt hXm hX hC5 hc5 hLies hbC5 hB5 hown hgrow hnil hlen hRl
        go_wp2_with fail
        refine hall1.out.mono ?_
        rintro e w6 ⟨vA, rfl, hRA, hb6⟩
        obtain ⟨A6, c6, rfl, hc6, hC6⟩ := Kd.R_reads hRA
        have hall2' := Aside0.mk (hall2.out w6 hb6)
        replace hb6 := Aside0.mk hb6
        replace hc6 := Aside0.mk hc6
        replace hC6 := Aside0.mk hC6
        clear hRA hall2
        go_wp2_with fail
        refine hall2'.out.mono ?_
        rintro e w7 ⟨vB, rfl, hRB, hb7⟩
        obtain ⟨A7, c7, rfl, hc7, hC7⟩ := Kd.R_reads hRB
        have hsame := Aside0.mk (entrepotref04_Same.calls ks2 A6 c6 R A7 c7 R true w7 (Kd.C_below hC6.out hb7) hc6.out hC7 hc7 hS2.out)
        replace hb7 := Aside0.mk hb7
        clear hRB hC7 hc7
        go_wp2_with fail
        refine hsame.out.mono ?_
        rintro e w8 ⟨rfl, hd8⟩
        have hfin := Aside0.mk (((hw5.out.trans (hb6.out.mono hw5.out.size)).trans (hb7.out.mono (Nat.le_trans hw5.out.size hb6.out.size))).trans (hd8.below.mono (Nat.le_trans (Nat.le_trans hw5.out.size hb6.out.size) hb7.out.size)))
        clear hd8
        go_wp2_with fail
        go_ret
        exact ⟨rfl, hfin.out⟩
end Go.Proofs.YtgphciopondlaaaDoor
namespace Go.Proofs.YtgphciopondlaaaDoor
set_option linter.unusedVariables false
set_option linter.unusedSimpArgs false
open Go.RowKit Go.Sort Go.Lib Go.Proofs.YtgphciopondlaaaDoor.PAll Go.Proofs.YtgphciopondlaaaDoorW.PrintWords Go.Proofs.YtgphciopondlaaaDoorW.PrintLast
set_option maxRecDepth 100000 in
set_option maxHeartbeats 2000000 in
theorem order_calls (A : Option Addr) (c : Nat) (xss : List (List S25)) (y : Int) (w : World) (HT : Tab w) (hC : Kd.C (Kd.slice 25 k25) w A xss.length xss) (hc : xss.length ≤ c) (hy : 0 ≤ y ∧ y ≤ 255) :
    Calls Tryd.prog 7 #[.slice A xss.length c, .int .u8 y] w fun e w' => e = .returned (.bool true) ∧ Below w.heap.size w w' := by
  obtain ⟨B, hB, hB2⟩ := Evs.long_ xss
  obtain ⟨kl, hl⟩ := hB.rounds
  obtain ⟨ks, hs⟩ := Evs.shown_ev.rounds
  have hlong := entrepotlaw04_long.calls kl A c xss B w hC hc hl
  have hshown := fun W (h : Tab W) => entrepotlaw04_shown.calls ks true W h hs
  cases B with
  | false =>
    by_cases hn : 0 < xss.length
    · obtain ⟨h1, h2, h3⟩ := hB2 rfl
      exact order_main A c xss y kl ks w HT hC hc hl hs hn h1 h3 h2 hy
    · have h0 : xss.length = 0 := by omega
      rw [h0] at hlong ⊢
      have hlong := Aside0.mk hlong
      have hshown := Aside0.mk hshown
      have HT := Aside0.mk HT
      clear hB hB2 hl hs hC hc hn h0
      go_enter Tryd.func7, Tryd.ntmps7
      go_wp2_with fail
      refine hlong.out.mono ?_
      rintro e W1 ⟨rfl, hd1⟩
      have hb1 := hd1.below
      have HT1 := Aside0.mk (HT.out.below hb1)
      replace hb1 := Aside0.mk hb1
      clear hd1
      go_wp2_with fail
      refine (hshown.out W1 HT1.out).mono ?_
      rintro e W2 ⟨rfl, hb2⟩
      have HB2 := Aside0.mk (hb1.out.trans (hb2.mono hb1.out.size))
      clear hb2
      go_wp2_with fail
      go_ret
      exact ⟨rfl, HB2.out⟩
  | true =>
    have hlong := Aside0.mk hlong
    have hshown := Aside0.mk hshown
    have HT := Aside0.mk HT
    obtain ⟨n, hn⟩ : ∃ n, xss.length = n := ⟨_, rfl⟩
    rw [hn] at hlong ⊢
    clear hB hB2 hl hs hC hc hn
    go_enter Tryd.func7, Tryd.ntmps7
    go_wp2_with fail
    refine hlong.out.mono ?_
    rintro e W1 ⟨rfl, hd1⟩
    have hb1 := hd1.below
    have HT1 := Aside0.mk (HT.out.below hb1)
    replace hb1 := Aside0.mk hb1
    clear hd1
    go_wp2_with fail
    refine (hshown.out W1 HT1.out).mono ?_
    rintro e W2 ⟨rfl, hb2⟩
    have HB2 := Aside0.mk (hb1.out.trans (hb2.mono hb1.out.size))
    clear hb2
    go_wp2_with fail
    go_ret
    exact ⟨rfl, HB2.out⟩
end Go.Proofs.YtgphciopondlaaaDoor
