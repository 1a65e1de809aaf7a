/- jsonic's writer: its state; take, walked by hand. Conditions: the writer lies as told. -/
import Derived.Test.YtainnkpoibgkcaaDoorGivenP
namespace Go.Proofs.YtainnkpoibgkcaaDoor
set_option linter.unusedVariables false
set_option linter.unusedSimpArgs false
open Go.RowKit Go.Proofs.YtainnkpoibgkcaaDoor.PAll Go.Proofs.YtainnkpoibgkcaaDoorW.PrintWords Go.Proofs.YtainnkpoibgkcaaDoorW.PrintLast

/-- Items that lie below a block. -/
def RdI (w : World) (base : Nat) : Option Addr → List S38 → Prop
  | _, [] => True
  | A, x :: l => ∃ g o, A = some ⟨g, o, none⟩ ∧ g < base ∧ w.cell? ⟨g, o, none⟩ = some (.int .i64 x.f0) ∧ w.cell? ⟨g, o + 1, none⟩ = some (.int .i64 x.f1) ∧ w.cell? ⟨g, o + 2, none⟩ = some (.string x.f2) ∧ w.cell? ⟨g, o + 3, none⟩ = some (.int .i64 x.f3) ∧ RdI w base (some ⟨g, o + 4, none⟩) l
theorem RdI.below {w w' : World} {base : Nat} : ∀ {l : List S38} {A : Option Addr}, RdI w base A l → Below base w w' → RdI w' base A l
  | [], _, _, _ => trivial
  | x :: l, A, ⟨g, o, h1, h2, h3, h4, h5, h6, h7⟩, hb => by
    have e : ∀ j, w'.cell? ⟨g, j, none⟩ = w.cell? ⟨g, j, none⟩ := fun j => World.cell?_of_block (hb.block g h2)
    exact ⟨g, o, h1, h2, by rw [e]; exact h3, by rw [e]; exact h4, by rw [e]; exact h5, by rw [e]; exact h6, RdI.below h7 hb⟩
/-- The writer: what it has written, and what is left of the items. -/
def WS (w : World) (base wb : Nat) (l : List S38) (bs : List UInt8) : Prop :=
  ∃ A c, Bld 52 [.slice A l.length c] base wb (Lib.byteCells bs) w ∧ RdI w base A l ∧ l.length ≤ c
theorem WS.base_le {w : World} {base wb : Nat} {l : List S38} {bs : List UInt8} (h : WS w base wb l bs) : base ≤ wb ∧ wb < w.heap.size := by
  obtain ⟨A, c, h1, _⟩ := h; exact ⟨h1.1, h1.lt⟩
theorem WS.keep {w w' : World} {base wb : Nat} {l : List S38} {bs : List UInt8} (h : WS w base wb l bs) (hb : Below w.heap.size w w') : WS w' base wb l bs := by
  have hl := h.base_le
  obtain ⟨A, c, h1, h2, h3⟩ := h
  exact ⟨A, c, h1.below hb, h2.below (hb.mono (by omega)), h3⟩
def it (x : S38) : Value := .agg #[.int .i64 x.f0, .int .i64 x.f1, .string x.f2, .int .i64 x.f3]
def noIt : Value := .agg #[.int .i64 0, .int .i64 0, .string ⟨#[]⟩, .int .i64 0]
/-- What a step of the writer leaves. -/
def BK (base wb : Nat) (w w' : World) : Prop := Below base w w' ∧ Kp wb w w'
theorem BK.trans {base wb : Nat} {a b c : World} (h : BK base wb a b) (k : BK base wb b c) : BK base wb a c := ⟨h.1.trans k.1, h.2.trans k.2⟩
theorem BK.of_below {base wb : Nat} {w w' : World} (hb : base ≤ w.heap.size) (h : Below w.heap.size w w') : BK base wb w w' :=
  ⟨h.mono hb, fun k o hk _ _ => by rw [h.block k (Array.getElem?_eq_some_iff.1 hk).1]; exact hk⟩
def TPost (w : World) (base wb : Nat) (l : List S38) (bs : List UInt8) (kd : Int) (e : Ending) (w' : World) : Prop := BK base wb w w' ∧ match l with
  | [] => e = .returned (.tuple #[noIt, .bool false]) ∧ WS w' base wb [] bs
  | x :: r => if x.f0 = kd then e = .returned (.tuple #[it x, .bool true]) ∧ WS w' base wb r bs else e = .returned (.tuple #[noIt, .bool false]) ∧ WS w' base wb (x :: r) bs
theorem WS.cells {w : World} {base wb : Nat} {l : List S38} {bs : List UInt8} (h : WS w base wb l bs) : ∃ A c, w.cell? ⟨wb, 2, none⟩ = some (.slice A l.length c) ∧ w.frozen? ⟨wb, 2, none⟩ = false ∧ RdI w base A l ∧ l.length ≤ c ∧ ∀ A' l' c' w', w'.heap[wb]? = (w.setCell ⟨wb, 2, none⟩ (.slice A' l'.length c')).heap[wb]? → w.grownBy w' (some wb) → RdI w' base A' l' → l'.length ≤ c' → WS w' base wb l' bs := by
  obtain ⟨A, c, ⟨hB, p, v, hp, hb, ho⟩, h2, h3⟩ := h
  refine ⟨A, c, by rw [Lib.cell_of_heap hb]; rfl, Lib.frozen_of_heap hb 2, h2, h3, fun A' l' c' w' hw hg hr hc => ⟨A', c', ⟨hB, p, v, hp, ?_, ?_⟩, hr, hc⟩⟩
  · rw [hw, setCell_heap hb]; rfl
  · exact ho.kept hg (.inr (Lib.ownBlock_ne ho hb (by decide)))
theorem RdI.next {w : World} {base g o c : Nat} {r : List S38} (h : RdI w base (some ⟨g, o + 4, none⟩) r) (hc : r.length + 1 ≤ c) : RdI w base (if c = 1 then some ⟨g, o, none⟩ else some ⟨g, o + 4, none⟩) r := by
  by_cases h1 : c = 1
  · have : r = [] := List.eq_nil_of_length_eq_zero (by omega)
    subst this; trivial
  · rw [if_neg h1]; exact h
set_option maxRecDepth 100000 in
set_option maxHeartbeats 2000000 in
theorem take_walk {w : World} {base wb : Nat} {l : List S38} {bs : List UInt8} (h : WS w base wb l bs) (kd : Int) : Calls Tryd.prog 29 #[.pointer (some ⟨wb, 0, none⟩), .int .i64 kd] w fun e w' => TPost w base wb l bs kd e w' := by
  have hbl := h.base_le
  obtain ⟨A, c, hc2, hf2, hR, hlc, hput⟩ := h.cells
  have H := Aside0.mk h
  have HP := Aside0.mk hput
  have HR := Aside0.mk hR
  have f2 : (w.alloc (.cells #[.int .i64 0, .int .i64 0, .string ⟨#[]⟩, .int .i64 0] 38)).frozen? ⟨wb, 2, none⟩ = false := by
    obtain ⟨_, _, _, h, _⟩ := (h.keep ((Below.refl _ _).alloc (Nat.le_refl _) (.cells #[.int .i64 0, .int .i64 0, .string ⟨#[]⟩, .int .i64 0] 38))).cells
    exact h
  have c2 : (w.alloc (.cells #[.int .i64 0, .int .i64 0, .string ⟨#[]⟩, .int .i64 0] 38)).cell? ⟨wb, 2, none⟩ = some (.slice A l.length c) := cell_alloc hc2
  clear h hput hR
  cases l with
  | nil =>
    clear hc2
    go_enter Tryd.func29, Tryd.ntmps29
    go_wp2
    refine bodyPost_ret (v := .tuple #[noIt, .bool false]) ?_ rfl ?_
    · simp [results, go_sem, noIt]
    · exact ⟨BK.of_below (by omega) ((Below.refl _ _).alloc (Nat.le_refl _) _), rfl, H.out.keep ((Below.refl _ _).alloc (Nat.le_refl _) _)⟩
  | cons x r =>
    obtain ⟨g, o, rfl, hg, d0, d1, d2, d3, hr⟩ := HR.out
    have e0 : (w.alloc (.cells #[.int .i64 0, .int .i64 0, .string ⟨#[]⟩, .int .i64 0] 38)).cell? ⟨g, o, none⟩ = some (.int .i64 x.f0) := cell_alloc d0
    have e1 : (w.alloc (.cells #[.int .i64 0, .int .i64 0, .string ⟨#[]⟩, .int .i64 0] 38)).cell? ⟨g, o + 1, none⟩ = some (.int .i64 x.f1) := cell_alloc d1
    have e2 : (w.alloc (.cells #[.int .i64 0, .int .i64 0, .string ⟨#[]⟩, .int .i64 0] 38)).cell? ⟨g, o + 2, none⟩ = some (.string x.f2) := cell_alloc d2
    have e3 : (w.alloc (.cells #[.int .i64 0, .int .i64 0, .string ⟨#[]⟩, .int .i64 0] 38)).cell? ⟨g, o + 3, none⟩ = some (.int .i64 x.f3) := cell_alloc d3
    obtain ⟨n, hn⟩ : ∃ n, r.length = n := ⟨_, rfl⟩
    have HN := Aside0.mk hn
    simp only [List.length_cons, hn] at c2 hlc
    simp only [List.length_cons, hn] at hc2
    have D := Aside0.mk (And.intro hc2 (And.intro d0 (And.intro d1 (And.intro d2 d3))))
    have Hr := Aside0.mk hr
    clear hc2 d0 d1 d2 d3 hr hn
    have hwg : wb ≠ w.heap.size := by omega
    have hgw : g ≠ w.heap.size := by omega
    by_cases hk : x.f0 = kd
    · subst hk
      have hk' : (x.f0 != x.f0) = false := by simp
      have hn1 : ((1 : Int) ≤ (n : Int) + 1) = True := eq_true (by omega)
      go_enter Tryd.func29, Tryd.ntmps29
      go_wp2
      refine start_ (n := 16) (S := fun w' => w'.cell? ⟨wb, 2, none⟩ = some (.slice (some ⟨g, o, none⟩) (n + 1) c) ∧ w'.cell? ⟨g, o, none⟩ = some (.int .i64 x.f0) ∧ w'.cell? ⟨g, o + 1, none⟩ = some (.int .i64 x.f1) ∧ w'.cell? ⟨g, o + 2, none⟩ = some (.string x.f2) ∧ w'.cell? ⟨g, o + 3, none⟩ = some (.int .i64 x.f3)) (ds := [15]) #[false, false, false, false, false, false, false, false, false, false, false, false, false, false, false, false] (by kernel_rfl) rfl rfl ⟨c2, e0, e1, e2, e3⟩ (fun hHeld => ?_)
      refine pure_ (i := 0) (N := some 24) (v := ?_) (a' := ?_) #[true, false, false, false, false, false, false, false, false, false, false, false, false, false, false, false] rfl rfl (by kernel_rfl) (fun _ _ _ h => h) (Or.inl ⟨by rfl, ?_⟩) ?_ ?_
      rotate_left
      · intro w'
        go_simp
        with_reducible rfl
      rotate_left
      · simp only [Act.put, List.setIfInBounds_toArray, List.set_cons_zero, List.set_cons_succ, i64_w, i32_w]
        rfl
      refine pure_ (i := 1) (N := some 25) (v := ?_) (a' := ?_) #[true, true, false, false, false, false, false, false, false, false, false, false, false, false, false, false] rfl rfl (by kernel_rfl) (fun _ _ _ h => h) (Or.inl ⟨by rfl, ?_⟩) ?_ ?_
      rotate_left
      · intro w'
        go_simp
        with_reducible rfl
      rotate_left
      · simp only [Act.put, List.setIfInBounds_toArray, List.set_cons_zero, List.set_cons_succ, i64_w, i32_w]
        rfl
      refine pure_ (i := 2) (N := some 26) (v := ?_) (a' := ?_) #[true, true, true, false, false, false, false, false, false, false, false, false, false, false, false, false] rfl rfl (by kernel_rfl) (fun _ _ _ h => h) (Or.inl ⟨by rfl, ?_⟩) ?_ ?_
      rotate_left
      · intro w'
        go_simp
        with_reducible rfl
      rotate_left
      · simp only [Act.put, List.setIfInBounds_toArray, List.set_cons_zero, List.set_cons_succ, i64_w, i32_w]
        rfl
      refine pure_ (i := 3) (N := some 27) (v := ?_) (a' := ?_) #[true, true, true, true, false, false, false, false, false, false, false, false, false, false, false, false] rfl rfl (by kernel_rfl) (fun _ _ _ h => h) (Or.inl ⟨by rfl, ?_⟩) ?_ ?_
      rotate_left
      · intro w'
        go_simp
        with_reducible rfl
      rotate_left
      · simp only [Act.put, List.setIfInBounds_toArray, List.set_cons_zero, List.set_cons_succ, i64_w, i32_w]
        rfl
      refine pure_ (i := 7) (N := some 31) (v := ?_) (a' := ?_) #[true, true, true, true, false, false, false, true, false, false, false, false, false, false, false, false] rfl rfl (by kernel_rfl) (fun _ _ _ h => h) (Or.inl ⟨by rfl, ?_⟩) ?_ ?_
      rotate_left
      · intro w'
        go_simp
        with_reducible rfl
      rotate_left
      · simp only [Act.put, List.setIfInBounds_toArray, List.set_cons_zero, List.set_cons_succ, i64_w, i32_w]
        rfl
      refine pure_ (i := 8) (N := some 32) (v := ?_) (a' := ?_) #[true, true, true, true, false, false, false, true, true, false, false, false, false, false, false, false] rfl rfl (by kernel_rfl) (fun _ _ _ h => h) (Or.inl ⟨by rfl, ?_⟩) ?_ ?_
      rotate_left
      · intro w'
        go_simp
        with_reducible rfl
      rotate_left
      · simp only [Act.put, List.setIfInBounds_toArray, List.set_cons_zero, List.set_cons_succ, i64_w, i32_w]
        rfl
      refine pure_ (i := 9) (N := some 33) (v := ?_) (a' := ?_) #[true, true, true, true, false, false, false, true, true, true, false, false, false, false, false, false] rfl rfl (by kernel_rfl) (fun _ _ _ h => h) (Or.inl ⟨by rfl, ?_⟩) ?_ ?_
      rotate_left
      · intro w'
        go_simp
        with_reducible rfl
      rotate_left
      · simp only [Act.put, List.setIfInBounds_toArray, List.set_cons_zero, List.set_cons_succ, i64_w, i32_w]
        rfl
      refine take_ (i := 4) (N := some 28) (v := ?_) (a' := ?_) #[true, true, true, true, true, false, false, true, true, true, false, false, false, false, false, false] rfl rfl (by kernel_rfl) (fun _ _ _ h => h) (Or.inl ⟨by rfl, ?_⟩) hHeld ?_ ?_
      rotate_left
      · rintro w' ⟨s0, s1, s2, s3, s4⟩
        go_simp
        with_reducible rfl
      rotate_left
      · simp only [Act.put, List.setIfInBounds_toArray, List.set_cons_zero, List.set_cons_succ, i64_w, i32_w]
        rfl
      refine pure_ (i := 5) (N := some 29) (v := ?_) (a' := ?_) #[true, true, true, true, true, true, false, true, true, true, false, false, false, false, false, false] rfl rfl (by kernel_rfl) (fun _ _ _ h => h) (Or.inl ⟨by rfl, ?_⟩) ?_ ?_
      rotate_left
      · intro w'
        go_simp
        with_reducible rfl
      rotate_left
      · simp only [Act.put, List.setIfInBounds_toArray, List.set_cons_zero, List.set_cons_succ, i64_w, i32_w]
        rfl
      refine take_ (i := 6) (N := some 30) (v := ?_) (a' := ?_) #[true, true, true, true, true, true, true, true, true, true, false, false, false, false, false, false] rfl rfl (by kernel_rfl) (fun _ _ _ h => h) (Or.inl ⟨by rfl, ?_⟩) hHeld ?_ ?_
      rotate_left
      · rintro w' ⟨s0, s1, s2, s3, s4⟩
        go_simp
        with_reducible rfl
      rotate_left
      · simp only [Act.put, List.setIfInBounds_toArray, List.set_cons_zero, List.set_cons_succ, i64_w, i32_w]
        rfl
      refine take_ (i := 10) (N := some 34) (v := ?_) (a' := ?_) #[true, true, true, true, true, true, true, true, true, true, true, false, false, false, false, false] rfl rfl (by kernel_rfl) (fun _ _ _ h => h) (Or.inl ⟨by rfl, ?_⟩) hHeld ?_ ?_
      rotate_left
      · rintro w' ⟨s0, s1, s2, s3, s4⟩
        go_simp
        with_reducible rfl
      rotate_left
      · simp only [Act.put, List.setIfInBounds_toArray, List.set_cons_zero, List.set_cons_succ, i64_w, i32_w]
        rfl
      refine pure_ (i := 11) (N := some 35) (v := ?_) (a' := ?_) #[true, true, true, true, true, true, true, true, true, true, true, true, false, false, false, false] rfl rfl (by kernel_rfl) (fun _ _ _ h => h) (Or.inl ⟨by rfl, ?_⟩) ?_ ?_
      rotate_left
      · intro w'
        go_simp
        with_reducible rfl
      rotate_left
      · simp only [Act.put, List.setIfInBounds_toArray, List.set_cons_zero, List.set_cons_succ, i64_w, i32_w]
        rfl
      refine one_ (i := 12) (N := none) #[true, true, true, true, true, true, true, true, true, true, true, true, true, false, false, false] rfl rfl (by kernel_rfl) (by decide) (fun K hK => ?_)
      refine skip_ (w1 := ?_) (by rfl) rfl ?_ ?_
      rotate_left
      · go_simp
        rfl
      refine hK.out _ _ ⟨(cell_alloc D.out.1), (cell_alloc D.out.2.1), (cell_alloc D.out.2.2.1), (cell_alloc D.out.2.2.2.1), (cell_alloc D.out.2.2.2.2)⟩ (fun hHeld => ?_)
      clear hK K
      refine pure_ (i := 13) (N := some 36) (v := ?_) (a' := ?_) #[true, true, true, true, true, true, true, true, true, true, true, true, true, true, false, false] rfl rfl (by kernel_rfl) (fun _ _ _ h => h) (Or.inl ⟨by rfl, ?_⟩) ?_ ?_
      rotate_left
      · intro w'
        go_simp
        with_reducible rfl
      rotate_left
      · simp only [Act.put, List.setIfInBounds_toArray, List.set_cons_zero, List.set_cons_succ, i64_w, i32_w]
        rfl
      refine pure_ (i := 14) (N := some 37) (v := ?_) (a' := ?_) #[true, true, true, true, true, true, true, true, true, true, true, true, true, true, true, false] rfl rfl (by kernel_rfl) (fun _ _ _ h => h) (Or.inl ⟨by rfl, ?_⟩) ?_ ?_
      rotate_left
      · intro w'
        go_simp
        with_reducible rfl
      rotate_left
      · simp only [Act.put, List.setIfInBounds_toArray, List.set_cons_zero, List.set_cons_succ, i64_w, i32_w]
        rfl
      refine last_ (i := 15) (N := none) #[true, true, true, true, true, true, true, true, true, true, true, true, true, true, true, true] rfl rfl (by kernel_rfl) (by decide) (fun K hK => ?_)
      refine skip_ (w1 := ?_) (by rfl) rfl ?_ ?_
      rotate_left
      · go_simp
        rfl
      refine hK.out _ _ ?_
      clear hK K
      refine done_ (by kernel_rfl) ?_

      have hW : WS (((w.setCell ⟨wb, 2, none⟩ (.slice (if c = 1 then some ⟨g, o, none⟩ else some ⟨g, o + 4, none⟩) n (c - 1))).alloc (.cells #[.int .i64 x.f0, .int .i64 x.f1, .string x.f2, .int .i64 x.f3] 38)).drew) base wb r bs := by
        have hbw : Below base w (((w.setCell ⟨wb, 2, none⟩ (.slice (if c = 1 then some ⟨g, o, none⟩ else some ⟨g, o + 4, none⟩) n (c - 1))).alloc (.cells #[.int .i64 x.f0, .int .i64 x.f1, .string x.f2, .int .i64 x.f3] 38)).drew) :=
          (((Below.refl _ _).setCell (p := ⟨wb, 2, none⟩) hbl.1 _).alloc (by simp [World.setCell]; omega) _).drew
        refine HP.out _ r (c - 1) _ ?_ (grown_trans' (grown_set w wb 2 _) ⟨rfl, rfl, rfl, by simp [World.drew], fun k hk _ => Below.heap_alloc _ _ k hk⟩) ((Hr.out.next (by rw [HN.out]; exact hlc)).below hbw) (by rw [HN.out]; omega)
        rw [HN.out]
        exact Below.heap_alloc _ _ wb (by simp [World.setCell]; exact hbl.2)
      have hbw : BK base wb w (((w.setCell ⟨wb, 2, none⟩ (.slice (if c = 1 then some ⟨g, o, none⟩ else some ⟨g, o + 4, none⟩) n (c - 1))).alloc (.cells #[.int .i64 x.f0, .int .i64 x.f1, .string x.f2, .int .i64 x.f3] 38)).drew) :=
        ⟨(((Below.refl _ _).setCell (p := ⟨wb, 2, none⟩) hbl.1 _).alloc (by simp [World.setCell]; omega) _).drew, ((((Kp.refl _ _).setCell ⟨wb, 2, none⟩ rfl _).alloc _).drew)⟩
      have HF := Aside0.mk (And.intro hW hbw)
      clear hW hbw
      have z : (w.setCell ⟨wb, 2, none⟩ (.slice (if c = 1 then some ⟨g, o, none⟩ else some ⟨g, o + 4, none⟩) n (c - 1))).heap.size = w.heap.size := by simp [World.setCell]
      generalize (if c = 1 then (some ⟨g, o, none⟩ : Option Addr) else some ⟨g, o + 4, none⟩) = A' at HF z ⊢
      go_wp2
      refine bodyPost_ret (v := .tuple #[it x, .bool true]) ?_ rfl ?_
      · rw [← z]
        simp [results, go_sem, it]
      · refine ⟨HF.out.2, ?_⟩
        show if _ then _ else _
        rw [if_pos rfl]
        exact ⟨rfl, HF.out.1⟩
    · have hk' : (x.f0 != kd) = true := by simpa using hk
      go_enter Tryd.func29, Tryd.ntmps29
      go_wp2
      refine bodyPost_ret (v := .tuple #[noIt, .bool false]) ?_ rfl ?_
      · simp [results, go_sem, noIt]
      · refine ⟨BK.of_below (by omega) ((Below.refl _ _).alloc (Nat.le_refl _) _), ?_⟩
        show if _ then _ else _
        rw [if_neg hk]
        exact ⟨rfl, H.out.keep ((Below.refl _ _).alloc (Nat.le_refl _) _)⟩
theorem take_yes {w : World} {base wb : Nat} {x : S38} {r : List S38} {bs : List UInt8} (h : WS w base wb (x :: r) bs) (kd : Int) (hk : x.f0 = kd) : Calls Tryd.prog 29 #[.pointer (some ⟨wb, 0, none⟩), .int .i64 kd] w fun e w' => e = .returned (.tuple #[it x, .bool true]) ∧ WS w' base wb r bs ∧ BK base wb w w' := by
  refine (take_walk h kd).mono ?_
  rintro e w' ⟨hb, hh⟩
  simp only [if_pos hk] at hh
  exact ⟨hh.1, hh.2, hb⟩
theorem take_no {w : World} {base wb : Nat} {l : List S38} {bs : List UInt8} (h : WS w base wb l bs) (kd : Int) (hk : ∀ x r, l = x :: r → x.f0 ≠ kd) : Calls Tryd.prog 29 #[.pointer (some ⟨wb, 0, none⟩), .int .i64 kd] w fun e w' => e = .returned (.tuple #[noIt, .bool false]) ∧ WS w' base wb l bs ∧ BK base wb w w' := by
  refine (take_walk h kd).mono ?_
  rintro e w' ⟨hb, hh⟩
  cases l with
  | nil => exact ⟨hh.1, hh.2, hb⟩
  | cons x r => simp only [if_neg (hk x r rfl)] at hh; exact ⟨hh.1, hh.2, hb⟩
theorem ws_string {w : World} {base wb : Nat} {l : List S38} {bs : List UInt8} (h : WS w base wb l bs) (s : ByteArray) (hlen : bs.length + s.size ≤ 140737488355328) : Calls Tryd.prog 23 #[.pointer (some ⟨wb, 0, none⟩), .string s] w fun e w' => e = .returned (.tuple #[.int .i64 s.size, .nilIface]) ∧ WS w' base wb l (bs ++ s.data.toList) ∧ BK base wb w w' := by
  obtain ⟨A, c, h1, h2, h3⟩ := h
  have hl : (Lib.byteCells bs).length = bs.length := Lib.byteCells_length bs
  refine (writeString_calls (rest := [.slice A l.length c]) begins52 h1 s (hl ▸ hlen)).mono ?_
  rintro e w' ⟨rfl, m, b, k⟩
  refine ⟨rfl, ⟨A, c, ?_, h2.below b, h3⟩, b, k⟩
  rw [show Lib.byteCells (bs ++ s.data.toList) = Lib.byteCells bs ++ Lib.strCells s by simp [Lib.byteCells, Lib.strCells]]
  exact m
theorem ws_byte {w : World} {base wb : Nat} {l : List S38} {bs : List UInt8} (h : WS w base wb l bs) (c : UInt8) (hlen : bs.length + 1 ≤ 140737488355328) : Calls Tryd.prog 21 #[.pointer (some ⟨wb, 0, none⟩), .int .u8 (c.toNat : Int)] w fun e w' => e = .returned .nilIface ∧ WS w' base wb l (bs ++ [c]) ∧ BK base wb w w' := by
  obtain ⟨A, c', h1, h2, h3⟩ := h
  have hl : (Lib.byteCells bs).length = bs.length := Lib.byteCells_length bs
  refine (writeByte_calls (rest := [.slice A l.length c']) begins52 h1 (hl ▸ hlen) (c.toNat : Int)).mono ?_
  rintro e w' ⟨rfl, m, b, k⟩
  refine ⟨rfl, ⟨A, c', ?_, h2.below b, h3⟩, b, k⟩
  rw [← bytes_snoc]
  exact m
theorem Js.qall_len (l : List UInt8) : (Js.qall l).length ≤ 6 * l.length := by
  induction l with
  | nil => simp [Js.qall]
  | cons c l ih =>
    have h1 : (Js.q1 c).length ≤ 6 := by unfold Js.q1; (iterate 6 (split; simp)); simp
    simp only [Js.qall, List.flatMap_cons, List.length_append, List.length_cons] at ih ⊢
    omega
theorem Js.quote_len {l q : List UInt8} (h : Js.quote l = some q) : q.length ≤ 6 * l.length + 2 := by
  unfold Js.quote at h
  split at h
  · obtain rfl := Option.some.inj h
    have := Js.qall_len l
    simp; omega
  · cases h
set_option maxRecDepth 100000 in
set_option maxHeartbeats 2000000 in
theorem quoted_walk {w : World} {base wb : Nat} {l : List S38} {bs : List UInt8} (h : WS w base wb l bs) (t : ByteArray) (ht : t.size ≤ 1000000000) (hlen : bs.length + (6 * t.size + 2) ≤ 140737488355328) : Calls Tryd.prog 31 #[.pointer (some ⟨wb, 0, none⟩), .string t] w fun e w' => BK base wb w w' ∧ match Js.quote t.data.toList with
    | some q => e = .returned (.bool true) ∧ WS w' base wb l (bs ++ q)
    | none => e = .returned (.bool false) := by
  have hbl := h.base_le
  have hq := Aside0.mk (quote_walk t w ht)
  have H := Aside0.mk h
  clear h
  cases hc : Js.quote t.data.toList with
  | none =>
    have HC := Aside0.mk hc
    clear hc
    go_enter Tryd.func31, Tryd.ntmps31
    go_wp2_with fail
    refine hq.out.mono ?_
    rintro e W1 ⟨hb1, hh⟩
    rw [HC.out] at hh
    subst hh
    have hws := Aside0.mk (ws_string (H.out.keep hb1) ByteArray.empty (by have : ByteArray.empty.size = 0 := rfl; omega))
    have hb := Aside0.mk (BK.of_below (wb := wb) (show base ≤ w.heap.size by omega) hb1)
    clear hb1 hq
    go_wp2_with fail
    refine hws.out.mono ?_
    rintro e W2 ⟨rfl, m2, b2⟩
    have HF := Aside0.mk (hb.out.trans b2)
    clear m2 b2
    go_wp2_with fail
    go_ret
    exact ⟨HF.out, rfl⟩
  | some q =>
    have HC := Aside0.mk hc
    have hql := Js.quote_len hc
    rw [size_len] at hql
    clear hc
    go_enter Tryd.func31, Tryd.ntmps31
    go_wp2_with fail
    refine hq.out.mono ?_
    rintro e W1 ⟨hb1, hh⟩
    rw [HC.out] at hh
    simp only at hh
    subst hh
    have hws := Aside0.mk (ws_string (H.out.keep hb1) (S q) (by rw [S_size]; omega))
    have hb := Aside0.mk (BK.of_below (wb := wb) (show base ≤ w.heap.size by omega) hb1)
    clear hb1 hq hql
    obtain ⟨sq, hsq⟩ : ∃ sq, S q = sq := ⟨_, rfl⟩
    have hsd : sq.data.toList = q := by rw [← hsq, S_data]
    rw [hsq] at hws ⊢
    replace hsd := Aside0.mk hsd
    clear hsq
    go_wp2_with fail
    refine hws.out.mono ?_
    rintro e W2 ⟨rfl, m2, b2⟩
    rw [hsd.out] at m2
    have HF := Aside0.mk (And.intro m2 (hb.out.trans b2))
    clear m2 b2
    go_wp2_with fail
    go_ret
    exact ⟨HF.out.2, rfl, HF.out.1⟩
end Go.Proofs.YtainnkpoibgkcaaDoor
