/- Put of diag, walked by hand. Conditions: strictly sorted lists of at most 1000000000. -/
import Derived.Test.YtgphciopondlaaaDoorGivenH
namespace Go.Proofs.YtgphciopondlaaaDoor
set_option linter.unusedVariables false
set_option linter.unusedSimpArgs false
open Go.RowKit Go.Sort Go.Lib Go.Proofs.YtgphciopondlaaaDoor.PAll Go.Proofs.YtgphciopondlaaaDoorW.PrintWords Go.Proofs.YtgphciopondlaaaDoorW.PrintLast

theorem insert_calls (A : Option Addr) (c base vb i : Nat) (l : List Dg.D) (d : Dg.D) (w : World) (hlen : l.length ≤ 1000000000) (ho : w.ownsRow base 25 2 (.slice A l.length c) l.length (flat l)) (hbase : base ≤ w.heap.size)
    (hvA : ∀ g, A = some ⟨g, 0, none⟩ → vb ≠ g) (hv : w.heap[vb]? = some (.cells #[.int .i64 d.1, .int .i64 d.2] 25 (0, 0))) (hi : i ≤ l.length) :
    Calls Tryd.prog 26 #[.slice A l.length c, .int .i64 i, .slice (some ⟨vb, 0, none⟩) 1 1] w fun e w' => ∃ v, e = .returned v ∧ w'.ownsRow base 25 2 v (l.length + 1) (flat (l.take i ++ d :: l.drop i)) ∧ Below base w w' := by
  by_cases hie : i = l.length
  · subst hie
    have h := insert_end A c base vb l d w hlen ho hbase (by simp [World.cell?, hv]) (by simp [World.cell?, hv])
    rw [List.take_length, List.drop_length]
    exact h
  · rcases ho.2 with ⟨e0, h0⟩ | ⟨g, cap, cur, e0, hb, hg, hn, hm, hs, ht⟩
    · omega
    · injection e0 with e1 _ e3
      subst e1; subst e3
      by_cases hroom : l.length + 1 ≤ c
      · exact insert_room g c base vb i cur l d w hlen hg hb hs hm hroom ht (by omega) (hvA g rfl) hv
      · exact insert_grow g c base vb i cur l d w hlen hg hbase hs (by omega) ht (by omega) hv
theorem own_take {w : World} {base n c m : Nat} {A : Option Addr} {l : List Dg.D} (h : w.ownsRow base 25 2 (.slice A n c) n (flat l)) (hm : m ≤ n) : w.ownsRow base 25 2 (.slice A m c) m (flat (l.take m)) := by
  have hl : l.length = n := by have := h.1; rw [flat_len] at this; omega
  refine ⟨by rw [flat_len, List.length_take]; omega, ?_⟩
  rcases h.2 with ⟨e0, h0⟩ | ⟨g, cap, cur, e0, hb, hg, hn, hmx, hs, ht⟩
  · left
    injection e0 with e1 _ e3
    subst e1; subst e3
    exact ⟨by rw [show m = 0 by omega], by omega⟩
  · right
    injection e0 with e1 _ e3
    subst e1; subst e3
    refine ⟨g, c, cur, rfl, hb, hg, by omega, hmx, hs, ?_⟩
    rw [flat_take, ← ht, List.take_take, Nat.min_eq_left (by omega)]
theorem own_below {w w' : World} {base n : Nat} {v : Value} {xs : List Value} (h : w.ownsRow base 25 2 v n xs) (hb : Below w.heap.size w w') : w'.ownsRow base 25 2 v n xs := own_move h fun k hk => by
  obtain ⟨cells, hc⟩ := own_typed h k hk
  refine hb.block k ?_
  rcases Nat.lt_or_ge k w.heap.size with h' | h'
  · exact h'
  · rw [Array.getElem?_eq_none h'] at hc; cases hc
theorem own_base {w : World} {base base' n : Nat} {v : Value} {xs : List Value} (h : w.ownsRow base 25 2 v n xs) (hb : base' ≤ base) : w.ownsRow base' 25 2 v n xs := by
  refine ⟨h.1, ?_⟩
  rcases h.2 with h2 | ⟨g, cap, cur, e0, h1, r⟩
  · exact .inl h2
  · exact .inr ⟨g, cap, cur, e0, Nat.le_trans hb h1, r⟩
theorem own_cap {w : World} {base n c : Nat} {A : Option Addr} {xs : List Value} (h : w.ownsRow base 25 2 (.slice A n c) n xs) : n ≤ c := by
  rcases h.2 with ⟨e0, h0⟩ | ⟨g, cap, cur, e0, _, _, h1, _⟩
  · omega
  · injection e0 with _ _ e3; omega
theorem own_lt {w : World} {base n g c : Nat} {xs : List Value} (h : w.ownsRow base 25 2 (.slice (some ⟨g, 0, none⟩) n c) n xs) : g < w.heap.size := by
  obtain ⟨cells, hc⟩ := own_typed h g (by simp [Value.ownBlock])
  rcases Nat.lt_or_ge g w.heap.size with h' | h'
  · exact h'
  · rw [Array.getElem?_eq_none h'] at hc; cases hc
def toD (x : S25) : Dg.D := (x.f0, x.f1)
def toS (x : Dg.D) : S25 := ⟨x.1, x.2⟩
theorem toS_toD (x : S25) : toS (toD x) = x := rfl
theorem toD_toS (x : Dg.D) : toD (toS x) = x := rfl
theorem rd_of_C {w : World} {A : Option Addr} {n : Nat} {xs : List S25} (h : Kd.C k25 w A n xs) : Rd w A (xs.map toD) := fun i hi => by
  have hi' : i < xs.length := by simpa using hi
  have hn : xs.length = n := h.1
  obtain ⟨ad, e, h0, h1⟩ := at_T25 h (i : Int) (by omega) (by omega)
  rw [Int.toNat_natCast] at h0 h1
  have hr : rd_T25 xs (i : Int) = xs[i] := by
    unfold rd_T25
    rw [Int.toNat_natCast, List.getD_eq_getElem?_getD, List.getElem?_eq_getElem hi']; rfl
  rw [hr] at h0 h1
  rw [List.getElem_map]
  exact ⟨ad, e, h0, h1⟩
theorem reps_flat (w : World) (base : Nat) (ok : Nat → Prop) (xs : List Dg.D) : Reps (k25.M w base ok) 2 (xs.map toS) (flat xs) := by
  suffices h : ∀ (ys xs : List Dg.D), Reps (k25.M w base ok) 2 (ys.map toS) (flat ys) → Reps (k25.M w base ok) 2 ((ys ++ xs).map toS) (flat (ys ++ xs)) from h [] xs (Reps.none _ _)
  intro ys xs
  induction xs generalizing ys with
  | nil => intro h; rwa [List.append_nil]
  | cons x xs ih =>
    intro h
    have := ih (ys ++ [x]) (by
      rw [List.map_append, flat_append]
      have e : flat [x] = enc x := by simp [flat]
      rw [e]
      exact h.snoc (k25_mkM w base ok (toS x)) rfl)
    rwa [List.append_assoc] at this
theorem R_of_own {w : World} {base n : Nat} {v : Value} {l : List Dg.D} (h : w.ownsRow base 25 2 v n (flat l)) : Kd.R k25 25 w base (fun _ => True) v (l.map toS) := by
  have hl : l.length = n := by have := h.1; rw [flat_len] at this; omega
  exact ⟨fun _ _ => trivial, flat l, by rw [List.length_map, hl]; exact h, reps_flat _ _ _ _⟩
set_option maxRecDepth 100000 in
set_option maxHeartbeats 2000000 in
theorem put_walk (A : Option Addr) (c : Nat) (l : List Dg.D) (d : Dg.D) (w : World) (hl : Dg.strict l = true) (hlen : l.length ≤ 1000000) (hr : Rd w A l) :
    Calls Tryd.prog 10 #[.slice A l.length c, .agg #[.int .i64 d.1, .int .i64 d.2]] w fun e w' => ∃ v, e = .returned v ∧ w'.ownsRow w.heap.size 25 2 v ((Dg.put l d).take 16).length (flat ((Dg.put l d).take 16)) ∧ Below w.heap.size w w' := by
  have HL := Aside0.mk hl
  have HR := Aside0.mk hr
  clear hl hr
  obtain ⟨n, hn⟩ : ∃ n, l.length = n := ⟨_, rfl⟩
  have HN := Aside0.mk hn
  have hcl : ∀ W, Rd W A l → Calls Tryd.prog 23 #[.slice A l.length c] W fun e W1 => ∃ A' c', e = .returned (.slice A' l.length c') ∧ W1.ownsRow W.heap.size 25 2 (.slice A' l.length c') l.length (flat l) ∧ Rd W1 A' l ∧ Below W.heap.size W W1 := fun W h => by
    refine (clone_calls A c l W (by omega) h).mono ?_
    rintro e W1 ⟨v, rfl, ho, hb⟩
    obtain ⟨A', c', rfl, _, hr⟩ := rd_of_own ho
    exact ⟨A', c', rfl, ho, hr, hb⟩
  replace hcl := Aside0.mk hcl
  have hpl : Aside0 (Dg.pos l d ≤ n) := ⟨by have := Dg.pos_le l d; omega⟩
  have hP : Aside0 (Dg.put l d = if l[Dg.pos l d]? = some d then l else l.take (Dg.pos l d) ++ d :: l.drop (Dg.pos l d)) := ⟨rfl⟩
  have hbs := fun A' c' W h => bsearch_calls A' c' l d W HL.out (by omega) h
  have hins := fun A' c' base vb W h1 h2 h3 h4 => insert_calls A' c' base vb (Dg.pos l d) l d W (by omega) h1 h2 h3 h4 (Dg.pos_le l d)
  replace hbs := Aside0.mk hbs
  replace hins := Aside0.mk hins
  obtain ⟨p, hp⟩ : ∃ p, Dg.pos l d = p := ⟨_, rfl⟩
  rw [hp] at hpl hP hbs hins
  clear hp
  rw [hn] at hcl hbs hins hlen ⊢
  clear hn
  obtain ⟨W0, hW0⟩ : ∃ W0, w.alloc (.cells #[.int .i64 d.1, .int .i64 d.2] 25) = W0 := ⟨_, rfl⟩
  have hB0 : Below w.heap.size w W0 := by rw [← hW0]; exact (Below.refl _ _).alloc (Nat.le_refl _) _
  have hz0 : W0.heap.size = w.heap.size + 1 := by rw [← hW0]; simp
  have b0 : W0.cell? ⟨w.heap.size, 0, none⟩ = some (.int .i64 d.1) := by rw [← hW0]; simp [go_sem]
  have b1 : W0.cell? ⟨w.heap.size, 1, none⟩ = some (.int .i64 d.2) := by rw [← hW0]; simp [go_sem]
  have hR0 := Aside0.mk (HR.out.below hB0)
  replace hB0 := Aside0.mk hB0
  replace hz0 := Aside0.mk hz0
  obtain ⟨m, hm⟩ : ∃ m, min n 16 = m := ⟨_, rfl⟩
  have hmn : m ≤ n := by omega
  have hmI : min (n : Int) 16 = (m : Int) := by omega
  obtain ⟨m1, hm1⟩ : ∃ m1, min (n + 1) 16 = m1 := ⟨_, rfl⟩
  have hmn1 : m1 ≤ n + 1 := by omega
  have hmI1 : min ((n : Int) + 1) 16 = (m1 : Int) := by omega
  replace hm := Aside0.mk hm
  replace hm1 := Aside0.mk hm1
  by_cases hf : l[p]? = some d
  · have hdec : decide (l[p]? = some d) = true := decide_eq_true hf
    rw [hdec] at hbs
    have hPE : Aside0 (Dg.put l d = l) := ⟨by rw [hP.out, if_pos hf]⟩
    clear hf hdec
    go_enter Tryd.func10, Tryd.ntmps10
    go_wp2_with (first
      | (go_at_call 23; refine (hcl.out W0 hR0.out).mono ?_; rintro e W1 ⟨A', c', rfl, ho, hr1, hb1⟩; have c0 := (hb1.cell (p := ⟨w.heap.size, 0, none⟩) (by have := hz0.out; show w.heap.size < _; omega)).trans b0; have c1 := (hb1.cell (p := ⟨w.heap.size, 1, none⟩) (by have := hz0.out; show w.heap.size < _; omega)).trans b1; clear b0 b1; have hnc := own_cap ho; have hmc : m ≤ c' := Nat.le_trans hmn hnc; replace ho := Aside0.mk ho; replace hr1 := Aside0.mk hr1; replace hb1 := Aside0.mk hb1)
      | (go_at_call 24; refine (hbs.out A' c' W1 hr1.out).mono ?_; rintro e W2 ⟨rfl, hb2⟩; clear c0 c1; replace hb2 := Aside0.mk hb2))
    go_ret
    have hpm : ((Dg.put l d).take 16).length = m ∧ (Dg.put l d).take 16 = l.take m := by
      rw [hPE.out]
      have := hm.out; have := HN.out
      refine ⟨by rw [List.length_take]; omega, ?_⟩
      by_cases h16 : n ≤ 16
      · rw [List.take_of_length_le (by omega), List.take_of_length_le (by omega)]
      · rw [show m = 16 by omega]
    rw [hpm.1, hpm.2]
    exact ⟨_, rfl, own_base (own_take (own_below ho.out hb2.out) hmn) (by have := hz0.out; omega), (hB0.out.trans (hb1.out.mono (by have := hz0.out; omega))).trans (hb2.out.mono (by have := hz0.out; have := hb1.out.size; omega))⟩
  · have hdec : decide (l[p]? = some d) = false := decide_eq_false hf
    rw [hdec] at hbs
    have hPE : Aside0 (Dg.put l d = l.take p ++ d :: l.drop p) := ⟨by rw [hP.out, if_neg hf]⟩
    clear hf hdec
    go_enter Tryd.func10, Tryd.ntmps10
    go_wp2_with fail
    refine (hcl.out W0 hR0.out).mono ?_
    rintro e W1 ⟨A', c', rfl, ho, hr1, hb1⟩
    have c0 := (hb1.cell (p := ⟨w.heap.size, 0, none⟩) (by have := hz0.out; show w.heap.size < _; omega)).trans b0
    have c1 := (hb1.cell (p := ⟨w.heap.size, 1, none⟩) (by have := hz0.out; show w.heap.size < _; omega)).trans b1
    clear b0 b1
    have hlt1 : w.heap.size < W1.heap.size := by (have := hz0.out; have := hb1.size; omega)
    replace ho := Aside0.mk ho
    replace hr1 := Aside0.mk hr1
    replace hb1 := Aside0.mk hb1
    go_wp2_with fail
    refine (hbs.out A' c' W1 hr1.out).mono ?_
    rintro e W2 ⟨rfl, hb2⟩
    have d0 := (hb2.cell (p := ⟨w.heap.size, 0, none⟩) hlt1).trans c0
    have d1 := (hb2.cell (p := ⟨w.heap.size, 1, none⟩) hlt1).trans c1
    clear c0 c1
    have ho2 := Aside0.mk (own_base (base' := w.heap.size) (own_below ho.out hb2) (by have := hz0.out; omega))
    replace hb2 := Aside0.mk hb2
    go_wp2_with fail
    have hvb : (W2.alloc (.cells #[.int .i64 d.1, .int .i64 d.2] 25)).heap[W2.heap.size]? = some (.cells #[.int .i64 d.1, .int .i64 d.2] 25 (0, 0)) := Array.getElem?_push_size
    have hBa : Below W2.heap.size W2 (W2.alloc (.cells #[.int .i64 d.1, .int .i64 d.2] 25)) := (Below.refl _ _).alloc (Nat.le_refl _) _
    have hle2 : w.heap.size ≤ W2.heap.size := by have := hb2.out.size; omega
    have hin := hins.out A' c' w.heap.size W2.heap.size (W2.alloc (.cells #[.int .i64 d.1, .int .i64 d.2] 25)) (own_below ho2.out hBa) (by simp; omega) (fun g e => by
      have h := ho2.out
      rw [e] at h
      have := own_lt h
      omega) hvb
    replace hin := Aside0.mk hin
    clear hvb hBa hle2 d0 d1
    refine hin.out.mono ?_
    rintro e W4 ⟨v, rfl, ho4, hb4⟩
    have hll : (l.take p ++ d :: l.drop p).length = n + 1 := by
      have := HN.out; have := hpl.out
      rw [List.length_append, List.length_take, List.length_cons, List.length_drop]; omega
    obtain ⟨A4, c4, rfl, _, _⟩ := rd_of_own ho4
    rw [hll] at ho4 ⊢
    have hnc := own_cap ho4
    have hmc : m1 ≤ c4 := Nat.le_trans hmn1 hnc
    have hmI2 : min (((n + 1 : Nat)) : Int) 16 = (m1 : Int) := by omega
    have hfin := own_take ho4 hmn1
    have hbel : Below w.heap.size w W4 := by
      have hA : Below w.heap.size w W2 := (hB0.out.trans (hb1.out.mono (by have := hz0.out; omega))).trans (hb2.out.mono (by have := hz0.out; have := hb1.out.size; omega))
      exact (hA.alloc hA.size _).trans hb4
    have hpm : ((Dg.put l d).take 16).length = m1 ∧ (Dg.put l d).take 16 = (l.take p ++ d :: l.drop p).take m1 := by
      rw [hPE.out]
      have := hm1.out
      refine ⟨by rw [List.length_take, hll]; omega, ?_⟩
      by_cases h16 : n + 1 ≤ 16
      · rw [List.take_of_length_le (i := 16) (l := l.take p ++ d :: l.drop p) (by rw [hll]; exact h16), List.take_of_length_le (i := m1) (l := l.take p ++ d :: l.drop p) (by rw [hll]; omega)]
      · rw [show m1 = 16 by omega]
    have HF := Aside0.mk (And.intro hfin (And.intro hbel hpm))
    clear ho4 hfin hbel hpm hll
    go_wp2
    go_ret
    rw [HF.out.2.2.1, HF.out.2.2.2]
    exact ⟨_, rfl, HF.out.1, HF.out.2.1⟩
def strictS (l : List S25) : Bool := Dg.strict (l.map toD)
def diag_Put.f (l0 : List S25) (a1_0 a1_1 : Int) : Option (List S25) := if strictS l0 = true ∧ l0.length ≤ 1000000 then some (((Dg.put (l0.map toD) (a1_0, a1_1)).take 16).map toS) else none
theorem diag_Put.calls (A0 : Option Addr) (c0 : Nat) (l0 : List S25) (a1_0 a1_1 : Int) (r : List S25) (w : World) (hr0 : Kd.C k25 w A0 l0.length l0) (hc0 : l0.length ≤ c0) (h : diag_Put.f l0 a1_0 a1_1 = some r) :
    Calls Tryd.prog 10 #[.slice A0 l0.length c0, .agg #[.int .i64 a1_0, .int .i64 a1_1]] w fun e w' => ∃ v0_ : Value, e = .returned (v0_) ∧ Kd.R k25 25 w' w.heap.size (fun _ => True) v0_ r ∧ Below w.heap.size w w' := by
  unfold diag_Put.f at h
  split at h
  · rename_i hs
    obtain rfl := Option.some.inj h
    have hw := put_walk A0 c0 (l0.map toD) (a1_0, a1_1) w hs.1 (by rw [List.length_map]; exact hs.2) (rd_of_C hr0)
    rw [List.length_map] at hw
    refine hw.mono ?_
    rintro e w' ⟨v, rfl, ho, hb⟩
    exact ⟨v, rfl, R_of_own ho, hb⟩
  · exact absurd h (by simp)
end Go.Proofs.YtgphciopondlaaaDoor
