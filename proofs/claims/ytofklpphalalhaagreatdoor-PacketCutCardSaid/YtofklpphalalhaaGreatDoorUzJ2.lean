/- Texts of this claim, joined: GivenE, GivenF. Each as it was, cut to what the claim uses. Conditions: each theorem's own. -/
import Derived.Test.YtofklpphalalhaaGreatDoorUzJ1
import Derived.Laws.AppendOwn
import Derived.RegionTactic
import Derived.Lib.OwnBridge
section
namespace Go.Proofs.YtofklpphalalhaaGreatDoor
set_option linter.unusedVariables false
set_option linter.unusedSimpArgs false
open Go.RowKit Go.Proofs.YtofklpphalalhaaGreatDoor.PAll Go.Proofs.YtofklpphalalhaaGreatDoorW.PrintWords Go.Proofs.YtofklpphalalhaaGreatDoorW.PrintLast Go.Proofs.YtofklpphalalhaaGreatDoorW.PrintMore
namespace Cn
def coord (x : In) (d : S71) : Bool := (sgn d.f0 && sgn d.f1) && (x.metric != 0 || bits .or .i64 d.f0 d.f1 == 0)
def demand (x : In) (d : S71) (i : Int) : Bool := if x.kind = 1 ∨ i = 0 then d.f2 == 0 else if x.kind = 4 then sgn d.f2 else num d.f2
def window (x : In) (d : S71) : Bool := if timed x = true then (num d.f3 && num d.f4) && decide (d.f3 ≤ d.f4) else bits .or .i64 d.f3 d.f4 == 0
def service (x : In) (d : S71) : Bool := if timed x = true then num d.f5 else d.f5 == 0
def nodeAt (x : In) (m : Int) : S71 := rd_T71 x.nodes m
def mate (x : In) (d : S71) (i : Int) : Bool :=
  if x.kind ≠ 4 ∨ i = 0 then d.f6 == 0
  else if ¬ (1 ≤ d.f6 ∧ d.f6 ≤ (x.nodes.length : Int) - 1) ∨ d.f6 = i then false
  else ((nodeAt x d.f6).f6 == i && d.f2 != 0) && (nodeAt x d.f6).f2 == wrap64 (-d.f2)
end Cn
/-- A node's cells; a node, as a value; one, as a value. -/
abbrev ncs (d : S71) : List Value := [.int .i64 d.f0, .int .i64 d.f1, .int .i64 d.f2, .int .i64 d.f3, .int .i64 d.f4, .int .i64 d.f5, .int .i64 d.f6]
abbrev nodeV (d : S71) : Value := .agg #[.int .i64 d.f0, .int .i64 d.f1, .int .i64 d.f2, .int .i64 d.f3, .int .i64 d.f4, .int .i64 d.f5, .int .i64 d.f6]
abbrev oneV (kb : Nat) (d : S71) (i : Int) : Value := .agg #[.pointer (some ⟨kb, 0, none⟩), .int .i64 d.f0, .int .i64 d.f1, .int .i64 d.f2, .int .i64 d.f3, .int .i64 d.f4, .int .i64 d.f5, .int .i64 d.f6, .int .i64 i]
abbrev oneB (kb : Nat) (d : S71) (i : Int) : Obj := .cells #[.pointer (some ⟨kb, 0, none⟩), .int .i64 d.f0, .int .i64 d.f1, .int .i64 d.f2, .int .i64 d.f3, .int .i64 d.f4, .int .i64 d.f5, .int .i64 d.f6, .int .i64 i] 209
theorem C_lit (w : World) (n : Nat) (hn : w.heap.size = n) (l : List Int) (t : Nat) (hl : l.length ≤ 9223372036854775807) : Kd.C (Kd.int .i64) (w.alloc (.cells (l.map (Value.int .i64)).toArray t)) (some ⟨n, 0, none⟩) l.length l := by
  subst hn
  refine ⟨rfl, hl, fun _ => ⟨_, rfl, fun j p hp => ⟨[.int .i64 p], rfl, rfl, fun i u hu => ?_⟩⟩⟩
  have hj := (List.getElem?_eq_some_iff.1 hp).1
  match i, hu with
  | 0, hu =>
    obtain rfl : Value.int .i64 p = u := by simpa using hu
    show (w.alloc _).cell? ((⟨w.heap.size, 0, none⟩ : Addr).add (j * 1 + 0)) = _
    have ha : (⟨w.heap.size, 0, none⟩ : Addr).add (j * 1 + 0) = ⟨w.heap.size, j, none⟩ := by
      unfold Addr.add; split <;> simp_all
    rw [ha, World.cell?_alloc_new]
    simp [hp]
theorem below_two (w : World) (o o' : Obj) : Below w.heap.size w ((w.alloc o).alloc o') := ((Below.refl _ _).alloc (Nat.le_refl _) _).alloc (by simp) _
theorem below_one (w : World) (o : Obj) : Below w.heap.size w (w.alloc o) := (Below.refl _ _).alloc (Nat.le_refl _) _
set_option maxRecDepth 100000 in
set_option maxHeartbeats 4000000 in
theorem coord_walk {w : World} {kb : Nat} {x : Cn.In} {v6 v7 v8 : Value} (h : LK w kb x v6 v7 v8) (d : S71) (i : Int) : Calls Tryz.prog 161 #[oneV kb d i] w fun e w' => e = .returned (.bool (Cn.coord x d)) ∧ Below w.heap.size w w' := by
  have h1 := h.below (below_one w (oneB kb d i))
  have h2 := h1.below (below_one (w.alloc (oneB kb d i)) (.cells #[.int .i64 d.f0, .int .i64 d.f1] 3))
  have c2 := h2.c2
  have hT : Cn.coord x d = ([d.f0, d.f1].all Cn.sgn && (x.metric != 0 || bits .or .i64 d.f0 d.f1 == 0)) := by
    unfold Cn.coord; simp [List.all_cons]
  have hs := sgn_walk (some ⟨w.heap.size + 1, 0, none⟩) 2 [d.f0, d.f1] _ (C_lit (w.alloc (oneB kb d i)) (w.heap.size + 1) (by simp) [d.f0, d.f1] 3 (by simp))
  rw [hT]
  generalize [d.f0, d.f1].all Cn.sgn = b at hs
  generalize x.metric = m at c2
  obtain ⟨mb, hmb⟩ : ∃ mb, (m != 0) = mb := ⟨_, rfl⟩
  rw [hmb]
  have HS := Aside0.mk hs
  clear h h1 h2 hT hs
  unfold oneB at c2 HS
  simp only [List.map_cons, List.map_nil, List.length_cons, List.length_nil] at HS
  go_enter Tryz.func161, Tryz.ntmps161
  go_wp2_with fail
  refine HS.out.mono ?_
  rintro e w' ⟨rfl, rfl⟩
  cases b with
  | false =>
    go_wp2
    go_ret
    exact ⟨rfl, below_two _ _ _⟩
  | true =>
    cases mb
    all_goals
      go_wp2
      go_ret
      exact ⟨rfl, below_two _ _ _⟩
set_option maxRecDepth 100000 in
set_option maxHeartbeats 4000000 in
theorem demand_walk {w : World} {kb : Nat} {x : Cn.In} {v6 v7 v8 : Value} (h : LK w kb x v6 v7 v8) (d : S71) (i : Int) : Calls Tryz.prog 162 #[oneV kb d i] w fun e w' => e = .returned (.bool (Cn.demand x d i)) ∧ Below w.heap.size w w' := by
  have h1 := h.below (below_one w (oneB kb d i))
  have h2 := h1.below (below_one (w.alloc (oneB kb d i)) (.cells #[.int .i64 d.f2] 3))
  have c1 := h1.c1
  have hs := sgn_walk (some ⟨w.heap.size + 1, 0, none⟩) 1 [d.f2] _ (C_lit (w.alloc (oneB kb d i)) (w.heap.size + 1) (by simp) [d.f2] 3 (by simp))
  have hn := num_walk (some ⟨w.heap.size + 1, 0, none⟩) 1 [d.f2] _ (C_lit (w.alloc (oneB kb d i)) (w.heap.size + 1) (by simp) [d.f2] 3 (by simp))
  have hT : Cn.demand x d i = if x.kind = 1 ∨ i = 0 then d.f2 == 0 else if x.kind = 4 then [d.f2].all Cn.sgn else [d.f2].all Cn.num := by
    unfold Cn.demand; simp [List.all_cons]
  rw [hT]
  generalize [d.f2].all Cn.sgn = b at hs
  generalize [d.f2].all Cn.num = b2 at hn
  generalize x.kind = m at c1
  have HS := Aside0.mk hs
  have HN := Aside0.mk hn
  clear h h1 h2 hT hs hn
  unfold oneB at c1 HS HN
  simp only [List.map_cons, List.map_nil, List.length_cons, List.length_nil] at HS HN
  by_cases hm : m = 1
  · subst hm
    rw [if_pos (.inl rfl)]
    go_enter Tryz.func162, Tryz.ntmps162
    go_wp2
    go_ret
    exact ⟨rfl, below_one _ _⟩
  · have e1 : (m == 1) = false := by simpa using hm
    by_cases hi : i = 0
    · subst hi
      rw [if_pos (.inr rfl)]
      go_enter Tryz.func162, Tryz.ntmps162
      go_wp2
      go_ret
      exact ⟨rfl, below_one _ _⟩
    · have e2 : (i == 0) = false := by simpa using hi
      rw [if_neg (fun h => h.elim hm hi)]
      by_cases h4 : m = 4
      · subst h4
        rw [if_pos rfl]
        clear hm e1 hi
        go_enter Tryz.func162, Tryz.ntmps162
        go_wp2_with fail
        refine HS.out.mono ?_
        rintro e w' ⟨rfl, rfl⟩
        go_wp2
        go_ret
        exact ⟨rfl, below_two _ _ _⟩
      · have e3 : (m == 4) = false := by simpa using h4
        rw [if_neg h4]
        clear hm hi h4
        go_enter Tryz.func162, Tryz.ntmps162
        go_wp2_with fail
        refine HN.out.mono ?_
        rintro e w' ⟨rfl, rfl⟩
        go_wp2
        go_ret
        exact ⟨rfl, below_two _ _ _⟩
set_option maxRecDepth 100000 in
set_option maxHeartbeats 4000000 in
theorem service_walk {w : World} {kb : Nat} {x : Cn.In} {v6 v7 v8 : Value} (h : LK w kb x v6 v7 v8) (d : S71) (i : Int) : Calls Tryz.prog 164 #[oneV kb d i] w fun e w' => e = .returned (.bool (Cn.service x d)) ∧ Below w.heap.size w w' := by
  have h1 := h.below (below_one w (oneB kb d i))
  have ht := timed_walk h1
  have hn := num_walk (some ⟨w.heap.size + 1, 0, none⟩) 1 [d.f5] _ (C_lit (w.alloc (oneB kb d i)) (w.heap.size + 1) (by simp) [d.f5] 3 (by simp))
  have hT : Cn.service x d = if Cn.timed x = true then [d.f5].all Cn.num else d.f5 == 0 := by
    unfold Cn.service; simp [List.all_cons]
  rw [hT]
  generalize [d.f5].all Cn.num = b at hn
  generalize Cn.timed x = tb at ht
  have HT := Aside0.mk ht
  have HN := Aside0.mk hn
  clear h h1 hT ht hn
  unfold oneB at HT HN
  simp only [List.map_cons, List.map_nil, List.length_cons, List.length_nil] at HN
  go_enter Tryz.func164, Tryz.ntmps164
  go_wp2_with fail
  refine HT.out.mono ?_
  rintro e w' ⟨rfl, rfl⟩
  cases tb with
  | false =>
    go_wp2
    go_ret
    exact ⟨rfl, below_one _ _⟩
  | true =>
    go_wp2_with fail
    refine HN.out.mono ?_
    rintro e w' ⟨rfl, rfl⟩
    go_wp2
    go_ret
    exact ⟨rfl, below_two _ _ _⟩
set_option maxRecDepth 100000 in
set_option maxHeartbeats 4000000 in
theorem window_walk {w : World} {kb : Nat} {x : Cn.In} {v6 v7 v8 : Value} (h : LK w kb x v6 v7 v8) (d : S71) (i : Int) : Calls Tryz.prog 163 #[oneV kb d i] w fun e w' => e = .returned (.bool (Cn.window x d)) ∧ Below w.heap.size w w' := by
  have h1 := h.below (below_one w (oneB kb d i))
  have ht := timed_walk h1
  have hn := num_walk (some ⟨w.heap.size + 1, 0, none⟩) 2 [d.f3, d.f4] _ (C_lit (w.alloc (oneB kb d i)) (w.heap.size + 1) (by simp) [d.f3, d.f4] 3 (by simp))
  have hT : Cn.window x d = if Cn.timed x = true then [d.f3, d.f4].all Cn.num && decide (d.f3 ≤ d.f4) else bits .or .i64 d.f3 d.f4 == 0 := by
    unfold Cn.window; simp [List.all_cons]
  rw [hT]
  generalize [d.f3, d.f4].all Cn.num = b at hn
  generalize Cn.timed x = tb at ht
  have HT := Aside0.mk ht
  have HN := Aside0.mk hn
  clear h h1 hT ht hn
  unfold oneB at HT HN
  simp only [List.map_cons, List.map_nil, List.length_cons, List.length_nil] at HN
  go_enter Tryz.func163, Tryz.ntmps163
  go_wp2_with fail
  refine HT.out.mono ?_
  rintro e w' ⟨rfl, rfl⟩
  cases tb with
  | false =>
    go_wp2
    go_ret
    exact ⟨rfl, below_one _ _⟩
  | true =>
    go_wp2_with fail
    refine HN.out.mono ?_
    rintro e w' ⟨rfl, rfl⟩
    cases b
    all_goals
      go_wp2
      go_ret
      exact ⟨rfl, below_two _ _ _⟩
set_option maxRecDepth 100000 in
set_option maxHeartbeats 4000000 in
theorem mate_plain {w : World} {kb : Nat} {x : Cn.In} {v6 v7 v8 : Value} (h : LK w kb x v6 v7 v8) (d : S71) (i : Int) (hc : x.kind ≠ 4 ∨ i = 0) : Calls Tryz.prog 165 #[oneV kb d i] w fun e w' => e = .returned (.bool (Cn.mate x d i)) ∧ Below w.heap.size w w' := by
  have h1 := h.below (below_one w (oneB kb d i))
  have c1 := h1.c1
  have hT : Cn.mate x d i = (d.f6 == 0) := by unfold Cn.mate; rw [if_pos hc]
  rw [hT]
  generalize x.kind = m at c1 hc
  clear h h1 hT
  unfold oneB at c1
  by_cases h4 : m = 4
  · subst h4
    obtain rfl : i = 0 := by rcases hc with h | h; exact absurd rfl h; exact h
    clear hc
    go_enter Tryz.func165, Tryz.ntmps165
    go_wp2
    go_ret
    exact ⟨rfl, below_one _ _⟩
  · have e1 : (m != 4) = true := by simpa using h4
    clear hc h4
    go_enter Tryz.func165, Tryz.ntmps165
    go_wp2
    go_ret
    exact ⟨rfl, below_one _ _⟩
set_option maxRecDepth 100000 in
set_option maxHeartbeats 4000000 in
theorem mate_no {w : World} {kb : Nat} {x : Cn.In} {A6 : Option Addr} {c6 : Nat} {v7 v8 : Value} (h : LK w kb x (.slice A6 x.nodes.length c6) v7 v8) (d : S71) (i : Int) (hk : x.kind = 4) (hi : i ≠ 0) (hn : x.nodes.length ≤ 400) (hno : ¬ (1 ≤ d.f6 ∧ d.f6 ≤ (x.nodes.length : Int) - 1) ∨ d.f6 = i) : Calls Tryz.prog 165 #[oneV kb d i] w fun e w' => e = .returned (.bool (Cn.mate x d i)) ∧ Below w.heap.size w w' := by
  have h1 := h.below (below_one w (oneB kb d i))
  have c1 := h1.c1
  have c6 := h1.c6
  have hT : Cn.mate x d i = false := by unfold Cn.mate; rw [if_neg (fun h => h.elim (fun h => h hk) hi), if_pos hno]
  rw [hT]
  rw [hk] at c1
  obtain ⟨n, hnn⟩ : ∃ n, x.nodes.length = n := ⟨_, rfl⟩
  rw [hnn] at c6 hn hno
  have hb := btw_walk d.f6 1 ((n : Int) - 1) (w.alloc (oneB kb d i))
  have hbb : Cn.btw d.f6 1 ((n : Int) - 1) = true → (d.f6 == i) = true := fun hb => by
    rcases hno with h | h
    · exact absurd (of_decide_eq_true hb) h
    · simpa using h
  have e1 : (i == 0) = false := by simpa using hi
  generalize Cn.btw d.f6 1 ((n : Int) - 1) = b at hb hbb
  have HB := Aside0.mk hb
  clear h h1 hT hk hi hno hb hnn
  unfold oneB at c1 c6 HB
  cases b with
  | false =>
    clear hbb
    go_enter Tryz.func165, Tryz.ntmps165
    go_wp2_with fail
    refine HB.out.mono ?_
    rintro e w' ⟨rfl, rfl⟩
    go_wp2
    go_ret
    exact ⟨rfl, below_one _ _⟩
  | true =>
    have e2 := hbb rfl
    clear hbb
    go_enter Tryz.func165, Tryz.ntmps165
    go_wp2_with fail
    refine HB.out.mono ?_
    rintro e w' ⟨rfl, rfl⟩
    go_wp2
    go_ret
    exact ⟨rfl, below_one _ _⟩
set_option maxRecDepth 100000 in
set_option maxHeartbeats 4000000 in
theorem mate_yes {w : World} {kb : Nat} {x : Cn.In} {A6 : Option Addr} {c6 : Nat} {v7 v8 : Value} (h : LK w kb x (.slice A6 x.nodes.length c6) v7 v8) (hC : Kd.C k71 w A6 x.nodes.length x.nodes) (d : S71) (i : Int) (hk : x.kind = 4) (hi : i ≠ 0) (hn : x.nodes.length ≤ 400) (h1m : 1 ≤ d.f6) (hmn : d.f6 ≤ (x.nodes.length : Int) - 1) (hmi : d.f6 ≠ i) : Calls Tryz.prog 165 #[oneV kb d i] w fun e w' => e = .returned (.bool (Cn.mate x d i)) ∧ Below w.heap.size w w' := by
  have h1 := h.below (below_one w (oneB kb d i))
  have hC1 := Kd.C_below hC (below_one w (oneB kb d i))
  have c1 := h1.c1
  have c6 := h1.c6
  have hT : Cn.mate x d i = (((rd_T71 x.nodes d.f6).f6 == i && d.f2 != 0) && (rd_T71 x.nodes d.f6).f2 == wrap64 (-d.f2)) := by unfold Cn.mate Cn.nodeAt; rw [if_neg (fun h => h.elim (fun h => h hk) hi), if_neg (fun h => h.elim (fun h => h ⟨h1m, hmn⟩) hmi)]
  rw [hT]
  rw [hk] at c1
  obtain ⟨ad, e, x0, x1, x2, x3, x4, x5, x6⟩ := at_T71 hC1 d.f6 (by omega) (by omega)
  subst e
  generalize rd_T71 x.nodes d.f6 = o at x0 x1 x2 x3 x4 x5 x6
  obtain ⟨n, hnn⟩ : ∃ n, x.nodes.length = n := ⟨_, rfl⟩
  rw [hnn] at c6 hn hmn
  have hb := btw_walk d.f6 1 ((n : Int) - 1) (w.alloc (oneB kb d i))
  have hbb : Cn.btw d.f6 1 ((n : Int) - 1) = true := decide_eq_true ⟨h1m, hmn⟩
  rw [hbb] at hb
  have e1 : (i == 0) = false := by simpa using hi
  have e2 : (d.f6 == i) = false := by simpa using hmi
  have hm0 : 0 ≤ d.f6 := by omega
  have hm1 : d.f6 < (n : Int) := by omega
  obtain ⟨b1, hb1⟩ : ∃ b, (o.f6 == i) = b := ⟨_, rfl⟩
  obtain ⟨b2, hb2⟩ : ∃ b, (d.f2 != 0) = b := ⟨_, rfl⟩
  rw [hb1, hb2]
  have HB := Aside0.mk hb
  clear h h1 hT hk hi hb hnn hC hC1 hmi hbb
  unfold oneB at c1 c6 HB x0 x1 x2 x3 x4 x5 x6
  go_enter Tryz.func165, Tryz.ntmps165
  go_wp2_with fail
  refine HB.out.mono ?_
  rintro e w' ⟨rfl, rfl⟩
  cases b1
  · go_wp2
    go_ret
    exact ⟨rfl, below_two _ _ _⟩
  · cases b2
    · go_wp2
      go_ret
      exact ⟨rfl, below_two _ _ _⟩
    · go_wp2
      go_ret
      exact ⟨rfl, below_two _ _ _⟩
theorem mate_walk {w : World} {kb : Nat} {x : Cn.In} {A6 : Option Addr} {c6 : Nat} {v7 v8 : Value} (h : LK w kb x (.slice A6 x.nodes.length c6) v7 v8) (hC : Kd.C k71 w A6 x.nodes.length x.nodes) (hn : x.nodes.length ≤ 400) (d : S71) (i : Int) : Calls Tryz.prog 165 #[oneV kb d i] w fun e w' => e = .returned (.bool (Cn.mate x d i)) ∧ Below w.heap.size w w' := by
  by_cases hc : x.kind ≠ 4 ∨ i = 0
  · exact mate_plain h d i hc
  · have hk : x.kind = 4 := Classical.byContradiction fun h => hc (.inl h)
    have hi : i ≠ 0 := fun h => hc (.inr h)
    by_cases hno : ¬ (1 ≤ d.f6 ∧ d.f6 ≤ (x.nodes.length : Int) - 1) ∨ d.f6 = i
    · exact mate_no h d i hk hi hn hno
    · have hy : 1 ≤ d.f6 ∧ d.f6 ≤ (x.nodes.length : Int) - 1 := Classical.byContradiction fun h => hno (.inl h)
      exact mate_yes h hC d i hk hi hn hy.1 hy.2 (fun h => hno (.inr h))
end Go.Proofs.YtofklpphalalhaaGreatDoor
end
section
namespace Go.Proofs.YtofklpphalalhaaGreatDoor
set_option linter.unusedVariables false
set_option linter.unusedSimpArgs false
open Go.RowKit Go.Proofs.YtofklpphalalhaaGreatDoor.PAll Go.Proofs.YtofklpphalalhaaGreatDoorW.PrintWords Go.Proofs.YtofklpphalalhaaGreatDoorW.PrintLast Go.Proofs.YtofklpphalalhaaGreatDoorW.PrintMore
/-- A fault's cells. -/
def fac (x : S169) : List Value := [.int .i64 x.f0, .int .i64 x.f1]
def flatF (l : List S169) : List Value := l.flatMap fac
theorem flatF_append (a b : List S169) : flatF (a ++ b) = flatF a ++ flatF b := by simp [flatF]
theorem info169 : (Tryz.prog.info? 169).map (fun i => (i.zero, i.size, i.bytes)) = some (some (.agg #[.int .i64 0, .int .i64 0]), 2, 16) := by kernel_rfl
/-- What Check has: the looker, the variable that its closure captures, and the faults so far. -/
def CK (w : World) (base p kb : Nat) (x : Cn.In) (v6 v7 : Value) (fs : List S169) : Prop :=
  w.heap[p]? = some (.cells #[.pointer (some ⟨kb, 0, none⟩)] 204 (0, 0)) ∧ base ≤ p ∧ base ≤ kb ∧ ∃ v8, LK w kb x v6 v7 v8 ∧ w.ownsRow base 169 2 v8 fs.length (flatF fs)
theorem own169_ne {w : World} {base n B T : Nat} {v : Value} {xs : List Value} {cs : Array Value} {fr : Nat × Nat} (hown : w.ownsRow base 169 2 v n xs) (hb : w.heap[B]? = some (.cells cs T fr)) (hT : T ≠ 169) : v.ownBlock ≠ some B := by
  rcases hown.2 with ⟨rfl, _⟩ | ⟨g, cap, cur, rfl, _, hg, _⟩
  · simp [Value.ownBlock]
  · intro h
    simp only [Value.ownBlock, Option.some.injEq] at h
    subst h
    rw [hg] at hb
    simp only [Option.some.injEq, Obj.cells.injEq] at hb
    exact hT hb.2.1.symm
section
variable {w w' : World} {base p kb : Nat} {x : Cn.In} {v6 v7 : Value} {fs : List S169}
theorem CK.below (h : CK w base p kb x v6 v7 fs) (hb : Below w.heap.size w w') : CK w' base p kb x v6 v7 fs := by
  obtain ⟨h1, h2, h3, v8, h4, h5⟩ := h
  refine ⟨(hb.block p (Array.getElem?_eq_some_iff.1 h1).1).trans h1, h2, h3, v8, h4.below hb, ?_⟩
  refine ⟨h5.1, ?_⟩
  rcases h5.2 with h6 | ⟨g, cap, cur, rfl, h7, hg, h8⟩
  · exact .inl h6
  · exact .inr ⟨g, cap, cur, rfl, h7, by rw [hb.block g (Array.getElem?_eq_some_iff.1 hg).1]; exact hg, h8⟩
theorem CK.base_le (h : CK w base p kb x v6 v7 fs) : base ≤ w.heap.size := by
  have := (Array.getElem?_eq_some_iff.1 h.1).1
  have := h.2.1
  omega
theorem CK.cp (h : CK w base p kb x v6 v7 fs) : w.cell? ⟨p, 0, none⟩ = some (.pointer (some ⟨kb, 0, none⟩)) := by rw [Lib.cell_of_heap h.1]; rfl
end
/-- All blocks but kb, and but rows of faults, stay. -/
def NK (kb : Nat) (w w' : World) : Prop := ∀ k o, w.heap[k]? = some o → k ≠ kb → (∀ c f, o ≠ .cells c 169 f) → w'.heap[k]? = some o
theorem NK.refl (kb : Nat) (w : World) : NK kb w w := fun _ _ h _ _ => h
theorem NK.trans {kb : Nat} {a b c : World} (h : NK kb a b) (k : NK kb b c) : NK kb a c := fun i o hi hb ho => k i o (h i o hi hb ho) hb ho
theorem NK.of_below {kb : Nat} {w w' : World} (h : Below w.heap.size w w') : NK kb w w' := fun k o hk _ _ => (h.block k (Array.getElem?_eq_some_iff.1 hk).1).trans hk
theorem cell_alloc {w : World} {a : Addr} {v : Value} {o : Obj} (h : w.cell? a = some v) : (w.alloc o).cell? a = some v := by
  have hb := World.block_lt_of_cell? w _ h
  rw [World.cell?_of_block (w := w) (Below.heap_alloc w o a.block hb)]; exact h
theorem own_form {w : World} {base e z n : Nat} {v : Value} {xs : List Value} (h : w.ownsRow base e z v (n + 1) xs) : ∃ g cap, v = .slice (some ⟨g, 0, none⟩) (n + 1) cap := by
  rcases h.2 with ⟨_, h0⟩ | ⟨g, cap, cur, hv, _⟩
  · omega
  · exact ⟨g, cap, hv⟩
theorem grown_set (w : World) (B j : Nat) (u : Value) : w.grownBy (w.setCell ⟨B, j, none⟩ u) (some B) :=
  ⟨rfl, rfl, rfl, by simp [World.setCell], fun k _ hk => Below.heap_setCell _ _ _ _ (fun e => hk (by simp [e]))⟩
/-- append of one fault, as a step of a region that draws its order. -/
theorem step_append_fault {ops : Array Oper} {o : Oper} {a : Act} {w : World} {Q : Exit → Act → World → Prop} {K : Act → World → Prop} (hw : Region.wanted o (yielded ops a.tmps) = true) (s x : Operand)
    (ho : o.op = .call { callee := .builtin .append, args := #[s, x], argTypes := #[166, 166] }) (base : Nat) (v : Value) (n : Nat) (vs : List Value) (hs : a.eval s = v) (hown : w.ownsRow base 169 2 v n vs) (g : Nat) (hx : a.eval x = .slice (some ⟨g, 0, none⟩) 1 1) (y : S169)
    (hg : w.heap[g]? = some (.cells (fac y).toArray 169 (0, 0))) (hlen : n ≤ 1000000000) (hbase : base ≤ w.heap.size)
    (h : ∀ v' w', w'.ownsRow base 169 2 v' (n + 1) (vs ++ fac y) → w.grownBy w' v.ownBlock → K (a.put o.dst v') w') :
    if Region.wanted o (yielded ops a.tmps) = true then Oper.wp Tryz.prog o a w K Q else K (a.put o.dst undef) w := by
  rw [if_pos hw]
  obtain ⟨i0, hi, hz0, hz1, hz2⟩ := info_parts info169
  obtain ⟨v', w', hr, h2, h3, _⟩ := run_append_own w base 166 o.type 169 i0 _ 2 16 Tryz.underlying166 hi hz0 hz1 hz2 rfl (by decide) v n vs hown ⟨g, 0, none⟩ 1 1 (fac y) rfl (fun j u hj => by
    match j, hj with
    | 0, hj => simp [fac] at hj; subst hj; simp [World.cell?, Addr.add, hg, fac]
    | 1, hj => simp [fac] at hj; subst hj; simp [World.cell?, Addr.add, hg, fac]) (fun u hu => by simp [fac] at hu; rcases hu with rfl | rfl <;> rfl) (by simp only [maxLen]; omega) (by omega) hbase
  unfold Oper.wp execOp
  simp only [ho, resolve, invoke, builtin, Sem.run_bind, Sem.run_pure, Result.andThen_ok, List.map_toArray, List.map_cons, List.map_nil, hs, hx, hr]
  exact h v' w' h2 h3
theorem note_fine {w : World} {base p kb : Nat} {x : Cn.In} {v6 v7 : Value} {fs : List S169} (h : CK w base p kb x v6 v7 fs) (f n : Int) :
    Calls Tryz.prog 156 #[.bool true, .int .i64 f, .int .i64 n, .pointer (some ⟨p, 0, none⟩)] w fun e w' => e = .returned (.tuple #[]) ∧ CK w' base p kb x v6 v7 fs ∧ Below base w w' ∧ NK kb w w' := by
  have HF := Aside0.mk (And.intro h (And.intro (Below.refl base w) (NK.refl kb w)))
  clear h
  go_enter Tryz.func156, Tryz.ntmps156
  go_wp2
  go_end0
  exact ⟨rfl, HF.out⟩
set_option maxRecDepth 100000 in
set_option maxHeartbeats 4000000 in
theorem note_fault {w : World} {base p kb : Nat} {x : Cn.In} {v6 v7 : Value} {fs : List S169} (h : CK w base p kb x v6 v7 fs) (hn : fs.length ≤ 1000000000) (f n : Int) :
    Calls Tryz.prog 156 #[.bool false, .int .i64 f, .int .i64 n, .pointer (some ⟨p, 0, none⟩)] w fun e w' => e = .returned (.tuple #[]) ∧ CK w' base p kb x v6 v7 (fs ++ [⟨f, n⟩]) ∧ Below base w w' ∧ NK kb w w' := by
  have hbw := h.base_le
  have c0 := h.cp
  obtain ⟨hp, hbp, hbk, v, hK, ho⟩ := h
  have c8 := hK.c8
  have HP := Aside0.mk hp
  have HM := Aside0.mk hK
  have HO := Aside0.mk ho
  clear hp hK ho
  obtain ⟨m, hm'⟩ : ∃ m, fs.length = m := ⟨_, rfl⟩
  rw [hm'] at HO hn
  replace hm' := Aside0.mk hm'
  go_enter Tryz.func156, Tryz.ntmps156
  go_wp2_with fail
  refine start_ (n := 13) (S := fun w' => w'.cell? ⟨p, 0, none⟩ = some (.pointer (some ⟨kb, 0, none⟩)) ∧ w'.cell? ⟨kb, 8, none⟩ = some v) (ds := [12]) #[false, false, false, false, false, false, false, false, false, false, false, false, false] (by kernel_rfl) rfl rfl ⟨c0, c8⟩ (fun hHeld => ?_)
  refine pure_ (i := 5) (N := some 14) (v := ?_) (a' := ?_) #[false, false, false, false, false, true, false, false, false, false, false, false, false] rfl rfl (by kernel_rfl) (fun _ _ _ h => h) (Or.inl ⟨by rfl, ?_⟩) ?_ ?_
  rotate_left
  · intro w'
    go_simp
    with_reducible rfl
  rotate_left
  · simp only [Act.put, List.setIfInBounds_toArray, List.set_cons_zero, List.set_cons_succ, i64_w, i32_w]
    rfl
  refine pure_ (i := 6) (N := some 15) (v := ?_) (a' := ?_) #[false, false, false, false, false, true, true, false, false, false, false, false, false] rfl rfl (by kernel_rfl) (fun _ _ _ h => h) (Or.inl ⟨by rfl, ?_⟩) ?_ ?_
  rotate_left
  · intro w'
    go_simp
    with_reducible rfl
  rotate_left
  · simp only [Act.put, List.setIfInBounds_toArray, List.set_cons_zero, List.set_cons_succ, i64_w, i32_w]
    rfl
  refine pure_ (i := 7) (N := some 16) (v := ?_) (a' := ?_) #[false, false, false, false, false, true, true, true, false, false, false, false, false] rfl rfl (by kernel_rfl) (fun _ _ _ h => h) (Or.inl ⟨by rfl, ?_⟩) ?_ ?_
  rotate_left
  · intro w'
    go_simp
    with_reducible rfl
  rotate_left
  · simp only [Act.put, List.setIfInBounds_toArray, List.set_cons_zero, List.set_cons_succ, i64_w, i32_w]
    rfl
  refine take_ (i := 0) (N := some 9) (v := ?_) (a' := ?_) #[true, false, false, false, false, true, true, true, false, false, false, false, false] rfl rfl (by kernel_rfl) (fun _ _ _ h => h) (Or.inl ⟨by rfl, ?_⟩) hHeld ?_ ?_
  rotate_left
  · rintro w' ⟨s0, s1⟩
    go_simp
    with_reducible rfl
  rotate_left
  · simp only [Act.put, List.setIfInBounds_toArray, List.set_cons_zero, List.set_cons_succ, i64_w, i32_w]
    rfl
  refine take_ (i := 1) (N := some 10) (v := ?_) (a' := ?_) #[true, true, false, false, false, true, true, true, false, false, false, false, false] rfl rfl (by kernel_rfl) (fun _ _ _ h => h) (Or.inl ⟨by rfl, ?_⟩) hHeld ?_ ?_
  rotate_left
  · rintro w' ⟨s0, s1⟩
    go_simp
    with_reducible rfl
  rotate_left
  · simp only [Act.put, List.setIfInBounds_toArray, List.set_cons_zero, List.set_cons_succ, i64_w, i32_w]
    rfl
  refine pure_ (i := 2) (N := some 11) (v := ?_) (a' := ?_) #[true, true, true, false, false, true, true, true, false, false, false, false, false] rfl rfl (by kernel_rfl) (fun _ _ _ h => h) (Or.inl ⟨by rfl, ?_⟩) ?_ ?_
  rotate_left
  · intro w'
    go_simp
    with_reducible rfl
  rotate_left
  · simp only [Act.put, List.setIfInBounds_toArray, List.set_cons_zero, List.set_cons_succ, i64_w, i32_w]
    rfl
  refine pure_ (i := 3) (N := some 12) (v := ?_) (a' := ?_) #[true, true, true, true, false, true, true, true, false, false, false, false, false] rfl rfl (by kernel_rfl) (fun _ _ _ h => h) (Or.inl ⟨by rfl, ?_⟩) ?_ ?_
  rotate_left
  · intro w'
    go_simp
    with_reducible rfl
  rotate_left
  · simp only [Act.put, List.setIfInBounds_toArray, List.set_cons_zero, List.set_cons_succ, i64_w, i32_w]
    rfl
  refine take_ (i := 4) (N := some 13) (v := ?_) (a' := ?_) #[true, true, true, true, true, true, true, true, false, false, false, false, false] rfl rfl (by kernel_rfl) (fun _ _ _ h => h) (Or.inl ⟨by rfl, ?_⟩) hHeld ?_ ?_
  rotate_left
  · rintro w' ⟨s0, s1⟩
    go_simp
    with_reducible rfl
  rotate_left
  · simp only [Act.put, List.setIfInBounds_toArray, List.set_cons_zero, List.set_cons_succ, i64_w, i32_w]
    rfl
  refine one_ (i := 8) (N := some 17) #[true, true, true, true, true, true, true, true, true, false, false, false, false] rfl rfl (by kernel_rfl) (by decide) (fun K hK => ?_)
  refine value_ (w1 := ?_) (v := ?_) (by rfl) rfl ?_ ?_
  rotate_left 2
  · go_simp
    constructor
    · rfl
    · rfl
  refine hK.out _ _ ⟨cell_alloc c0, cell_alloc c8⟩ (fun hHeld => ?_)
  clear hK K
  refine norm_ (a' := ?_) ?_ ?_
  rotate_left
  · show Act.put _ (some 17) _ = _
    simp only [Act.put, List.setIfInBounds_toArray, List.set_cons_zero, List.set_cons_succ, i64_w, i32_w]
    rfl
  refine one_ (i := 9) (N := some 18) #[true, true, true, true, true, true, true, true, true, true, false, false, false] rfl rfl (by kernel_rfl) (by decide) (fun K hK => ?_)
  refine step_append_fault (by rfl) (.tmp 13) (.tmp 17) rfl base v m (flatF fs) (by rfl) (HO.out.alloc _) w.heap.size (by rfl) ⟨f, n⟩ Array.getElem?_push_size hn (by simp; omega) ?_
  intro v' w3 hown hgrow
  obtain ⟨g', cap', rfl⟩ := own_form hown
  have hB2 : Below w.heap.size w ((w.alloc (.cells #[.int .i64 f, .int .i64 n] 169)).drew) := (below_one _ _).drew
  have hM3 : Aside0 (LK w3 kb x v6 v7 v) := ⟨(hgrow.block kb (by have := (HM.out.below hB2).lt; exact this) (fun e => own169_ne HO.out HM.out (by decide) e.symm)).trans (HM.out.below hB2)⟩
  have hP3 : Aside0 (w3.heap[p]? = some (.cells #[.pointer (some ⟨kb, 0, none⟩)] 204 (0, 0))) := ⟨(hgrow.block p (Nat.lt_of_lt_of_le (Array.getElem?_eq_some_iff.1 HP.out).1 hB2.size) (fun e => own169_ne HO.out HP.out (by decide) e.symm)).trans ((hB2.block p (Array.getElem?_eq_some_iff.1 HP.out).1).trans HP.out)⟩
  have hB3 : Aside0 (Below base w w3) := ⟨(hB2.mono hbw).grown hgrow (by simp; omega) (fun k hk => (HO.out.lt k hk).1)⟩
  have hN3 : Aside0 (NK kb w w3) := ⟨fun k o hk hkb hty => by rw [hgrow.block k (Nat.lt_of_lt_of_le (Array.getElem?_eq_some_iff.1 hk).1 hB2.size) (fun e => by obtain ⟨c, hc⟩ := own_typed HO.out k e.symm; rw [hk] at hc; exact hty _ _ (Option.some.inj hc))]; exact (hB2.block k (Array.getElem?_eq_some_iff.1 hk).1).trans hk⟩
  have f3 := blk_frozen hM3.out 8
  have c3 := hM3.out.c8
  refine hK.out _ _ ⟨(show w3.cell? ⟨p, 0, none⟩ = some (.pointer (some ⟨kb, 0, none⟩)) by rw [Lib.cell_of_heap hP3.out]; rfl), hM3.out.c8⟩ (fun hHeld => ?_)
  clear hK K
  refine norm_ (a' := ?_) ?_ ?_
  rotate_left
  · show Act.put _ (some 18) _ = _
    simp only [Act.put, List.setIfInBounds_toArray, List.set_cons_zero, List.set_cons_succ, i64_w, i32_w]
    rfl
  refine pure_ (i := 10) (N := some 19) (v := ?_) (a' := ?_) #[true, true, true, true, true, true, true, true, true, true, true, false, false] rfl rfl (by kernel_rfl) (fun _ _ _ h => h) (Or.inl ⟨by rfl, ?_⟩) ?_ ?_
  rotate_left
  · intro w'
    go_simp
    with_reducible rfl
  rotate_left
  · simp only [Act.put, List.setIfInBounds_toArray, List.set_cons_zero, List.set_cons_succ, i64_w, i32_w]
    rfl
  refine pure_ (i := 11) (N := some 20) (v := ?_) (a' := ?_) #[true, true, true, true, true, true, true, true, true, true, true, true, false] rfl rfl (by kernel_rfl) (fun _ _ _ h => h) (Or.inl ⟨by rfl, ?_⟩) ?_ ?_
  rotate_left
  · intro w'
    go_simp
    with_reducible rfl
  rotate_left
  · simp only [Act.put, List.setIfInBounds_toArray, List.set_cons_zero, List.set_cons_succ, i64_w, i32_w]
    rfl
  refine last_ (i := 12) (N := none) #[true, true, true, true, true, true, true, true, true, true, true, true, true] rfl rfl (by kernel_rfl) (by decide) (fun K hK => ?_)
  refine skip_ (w1 := ?_) (by rfl) rfl ?_ ?_
  rotate_left
  · go_simp
    rfl
  refine hK.out _ _ ?_
  clear hK K
  refine done_ (by kernel_rfl) ?_
  have hfin : CK (w3.setCell ⟨kb, 8, none⟩ (.slice (some ⟨g', 0, none⟩) (m + 1) cap')) base p kb x v6 v7 (fs ++ [⟨f, n⟩]) := by
    have hne : p ≠ kb := by
      intro e
      have h1 := HP.out
      have h2 := HM.out
      unfold LK at h2
      rw [e, h2] at h1
      simp at h1
    have h1 : w3.ownsRow base 169 2 (.slice (some ⟨g', 0, none⟩) (m + 1) cap') (m + 1) (flatF fs ++ fac ⟨f, n⟩) := hown
    have h2 := h1.kept (grown_set w3 kb 8 (.slice (some ⟨g', 0, none⟩) (m + 1) cap')) (.inr (own169_ne h1 hM3.out (by decide)))
    refine ⟨?_, hbp, hbk, .slice (some ⟨g', 0, none⟩) (m + 1) cap', ?_, ?_⟩
    · rw [Below.heap_setCell _ _ _ _ hne]
      exact hP3.out
    · have h3 := blk_put hM3.out 8 (.slice (some ⟨g', 0, none⟩) (m + 1) cap') rfl
      exact h3
    · rw [List.length_append, hm'.out, flatF_append]
      simpa [flatF] using h2
  have hbel : Below base w (w3.setCell ⟨kb, 8, none⟩ (.slice (some ⟨g', 0, none⟩) (m + 1) cap')) := hB3.out.setCell (p := ⟨kb, 8, none⟩) hbk _
  have hnk : NK kb w (w3.setCell ⟨kb, 8, none⟩ (.slice (some ⟨g', 0, none⟩) (m + 1) cap')) := fun k o hk hkb hty => by
    rw [Below.heap_setCell _ _ _ _ hkb]
    exact hN3.out k o hk hkb hty
  have HF := Aside0.mk (And.intro hfin (And.intro hbel hnk))
  clear hfin hbel hnk hown hgrow f3 c3 hM3 hP3 hB3 hN3
  go_wp2_with fail
  go_end0
  exact ⟨rfl, HF.out⟩
/-- The closure: a fault is noted, if it is one. -/
theorem note_walk {w : World} {base p kb : Nat} {x : Cn.In} {v6 v7 : Value} {fs : List S169} (h : CK w base p kb x v6 v7 fs) (hn : fs.length ≤ 1000000000) (b : Bool) (f n : Int) :
    Calls Tryz.prog 156 #[.bool b, .int .i64 f, .int .i64 n, .pointer (some ⟨p, 0, none⟩)] w fun e w' => e = .returned (.tuple #[]) ∧ CK w' base p kb x v6 v7 (fs ++ (if b = true then [] else [⟨f, n⟩])) ∧ Below base w w' ∧ NK kb w w' := by
  cases b with
  | true => simpa using note_fine h f n
  | false => simpa using note_fault h hn f n
end Go.Proofs.YtofklpphalalhaaGreatDoor
end
