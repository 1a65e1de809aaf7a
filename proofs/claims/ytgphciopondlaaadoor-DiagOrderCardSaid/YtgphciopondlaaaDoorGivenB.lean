/- BinarySearchFunc and IsSortedFunc at diagnostics, walked by hand. Conditions: lists of at most 1000000000. -/
import Derived.Test.YtgphciopondlaaaDoorGivenA
import Derived.Deep.LoopGhost
namespace Go.Proofs.YtgphciopondlaaaDoor
set_option linter.unusedVariables false
set_option linter.unusedSimpArgs false
open Go.RowKit Go.Sort Go.Lib Go.Proofs.YtgphciopondlaaaDoor.PAll Go.Proofs.YtgphciopondlaaaDoorW.PrintWords Go.Proofs.YtgphciopondlaaaDoorW.PrintLast

/-- A row of diagnostics that is read. -/
def Rd (w : World) (A : Option Addr) (l : List Dg.D) : Prop := ∀ i (h : i < l.length), ∃ ad, A = some ad ∧ w.cell? (ad.add (i * 2)) = some (.int .i64 l[i].1) ∧ w.cell? ⟨(ad.add (i * 2)).block, (ad.add (i * 2)).off + 1, none⟩ = some (.int .i64 l[i].2)
theorem Rd.below {w w' : World} {A : Option Addr} {l : List Dg.D} (h : Rd w A l) (hb : Below w.heap.size w w') : Rd w' A l := fun i hi => by
  obtain ⟨ad, h0, h1, h2⟩ := h i hi
  exact ⟨ad, h0, (hb.cell (World.block_lt_of_cell? w _ h1)).trans h1, (hb.cell (World.block_lt_of_cell? w _ h2)).trans h2⟩
theorem mixed_ : Tryd.prog.follows .mixedOrders = true := by kernel_rfl
theorem enters25 : ∀ args w, (callFunc 25 args).run Tryd.prog w = .ok (.enter 25 args) w := enters_of Tryd.func25 (by kernel_rfl) rfl
theorem below_grown {b : Nat} {w wr : World} (h : Below b w wr) (hb : b ≤ wr.heap.size) (q : Nat) (os : Array Obj) : Below b w (grow (wr.drewN q) os) := by
  refine h.grown (row := none) ⟨rfl, rfl, rfl, by simp [grow], fun j hj _ => ?_⟩ hb (fun j hj => by cases hj)
  show (grow (wr.drewN q) os).heap[j]? = wr.heap[j]?
  unfold grow
  exact Array.getElem?_append_left hj
theorem k64 (n : Int) (h0 : -9223372036854775808 ≤ n) (h1 : n ≤ 9223372036854775807) : IntKind.i64.wrap n = n := by rw [IntKind.wrap_i64]; omega

set_option maxRecDepth 100000 in
set_option maxHeartbeats 1000000 in
theorem bsearch_calls (A : Option Addr) (cap : Nat) (l : List Dg.D) (d : Dg.D) (w : World) (hl : Dg.strict l = true) (hlen : l.length ≤ 1000000000) (hr : Rd w A l) :
    Calls Tryd.prog 24 #[.slice A l.length cap, .agg (enc d).toArray, .func (.func 25) #[] #[]] w fun e w' => e = .returned (.tuple #[.int .i64 (Dg.pos l d), .bool (decide (l[Dg.pos l d]? = some d))]) ∧ Below w.heap.size w w' := by
  have mixed := mixed_
  have eg := enters25
  obtain ⟨W0, hW0⟩ : ∃ W0, w.alloc (.cells #[.int .i64 d.1, .int .i64 d.2] 25) = W0 := ⟨_, rfl⟩
  have hB0 : Below w.heap.size w W0 := by rw [← hW0]; exact (Below.refl _ _).alloc (Nat.le_refl _) _
  have hz0 : W0.heap.size = w.heap.size + 1 := by rw [← hW0]; simp
  have b0 : W0.cell? ⟨w.heap.size, 0, none⟩ = some (.int .i64 d.1) := by rw [← hW0]; simp [go_sem]
  have b1 : W0.cell? ⟨w.heap.size, 1, none⟩ = some (.int .i64 d.2) := by rw [← hW0]; simp [go_sem]
  have hr0 := hr.below hB0
  have HL := Aside0.mk hl
  have HR := Aside0.mk hr0
  have HB0 := Aside0.mk (And.intro b0 b1)
  have HZ := Aside0.mk (And.intro hz0 hB0)
  clear hr hl hr0 b0 b1 hB0 hz0
  have hen : (enc d).toArray = #[.int .i64 d.1, .int .i64 d.2] := rfl
  rw [hen]
  clear hen
  go_enter Tryd.func24, Tryd.ntmps24
  go_wp2_with fail
  try rw [hW0]
  clear hW0
  go_loopg [9, 10, 11] l.length (fun kx s9 s10 s11 wr => ∃ lo hi : Nat, s9 = .int .i64 lo ∧ s10 = .int .i64 hi ∧ lo ≤ hi ∧ hi ≤ l.length ∧ hi - lo ≤ kx ∧ Aside0 (Below W0.heap.size W0 wr) ∧
    Aside0 ((∀ t (ht : t < l.length), t < lo → Dg.less l[t] d = true) ∧ (∀ t (ht : t < l.length), hi ≤ t → Dg.less l[t] d = false)))
  case atStart => exact ⟨0, l.length, rfl, rfl, Nat.zero_le _, Nat.le_refl _, by omega, ⟨Below.refl _ _⟩, ⟨⟨fun t ht h => absurd h (Nat.not_lt_zero _), fun t ht h => by omega⟩⟩⟩
  case round =>
    obtain ⟨lo, hi, rfl, rfl, hlh, hin, hg, S1, I⟩ := hrel
    have hb0 : w.heap.size < W0.heap.size := by have := HZ.out.1; omega
    have c0 := (S1.out.cell (p := ⟨w.heap.size, 0, none⟩) hb0).trans HB0.out.1
    have c1 := (S1.out.cell (p := ⟨w.heap.size, 1, none⟩) hb0).trans HB0.out.2
    have hbr : w.heap.size < wr.heap.size := Nat.lt_of_lt_of_le hb0 S1.out.size
    have e0 := fun (n : Nat) (os : Array Obj) => cell_grown (a := ⟨w.heap.size, 0, none⟩) hbr c0 n os
    have e1 := fun (n : Nat) (os : Array Obj) => cell_grown (a := ⟨w.heap.size, 1, none⟩) hbr c1 n os
    clear c0 c1 hb0 hbr
    by_cases hlt : lo < hi
    · obtain ⟨m, hm⟩ : ∃ m, (lo + hi) / 2 = m := ⟨_, rfl⟩
      have hml : lo ≤ m ∧ m < hi := by omega
      obtain ⟨ad, rfl, c2, c3⟩ := (HR.out.below S1.out) m (by omega)
      have e2 := fun (n : Nat) (os : Array Obj) => cell_grown (World.block_lt_of_cell? _ _ c2) c2 n os
      have e3 := fun (n : Nat) (os : Array Obj) => cell_grown (World.block_lt_of_cell? _ _ c3) c3 n os
      clear c2 c3
      have hmz : ((lo : Int) + (hi : Int)) / 2 = (m : Int) := by omega
      obtain ⟨x, hx⟩ : ∃ x, l[m]'(by omega) = x := ⟨_, rfl⟩
      rw [hx] at e2 e3
      have hc := fun W => compare_calls x d W
      replace hm := Aside0.mk hm
      replace hx := Aside0.mk hx
      replace hc := Aside0.mk hc
      have hneg := Dg.cmpD_neg x d
      obtain ⟨r, hr⟩ : ∃ r, Dg.cmpD x d = r := ⟨_, rfl⟩
      rw [hr] at hneg hc
      clear hr
      have hm0 : (0 : Int) ≤ (m : Int) := by omega
      have hm1 : (m : Int) < (l.length : Int) := by omega
      by_cases hr0 : r < 0
      · have hle := Aside0.mk (hneg.1 hr0)
        clear hneg
        go_wp2_with fail
        go_quiet_grown (first | (go_at_fn 25; refine Calls.grown_of (hc.out _)))
        go_wp2
        go_roundg (hi - (m + 1))
        case measure => omega
        case rel =>
          refine ⟨m + 1, hi, by go_num, rfl, by omega, hin, Nat.le_refl _, ⟨below_grown S1.out S1.out.size _ _⟩, ⟨⟨fun t ht htm => ?_, I.out.2⟩⟩⟩
          rcases Nat.lt_or_ge t m with h | h
          · exact Dg.less_trans (Dg.strict_get HL.out t m h (by omega)) (by rw [hx.out]; exact hle.out)
          · obtain rfl : t = m := by omega
            rw [hx.out]; exact hle.out
      · have hle := Aside0.mk (show ¬ Dg.less x d = true from fun e => hr0 (hneg.2 e))
        clear hneg
        go_wp2_with fail
        go_quiet_grown (first | (go_at_fn 25; refine Calls.grown_of (hc.out _)))
        go_wp2
        go_roundg (m - lo)
        case measure => omega
        case rel =>
          refine ⟨lo, m, rfl, rfl, by omega, by omega, Nat.le_refl _, ⟨below_grown S1.out S1.out.size _ _⟩, ⟨⟨I.out.1, fun t ht htm => ?_⟩⟩⟩
          have hnx : Dg.less x d = false := by simpa using hle.out
          rcases Nat.lt_or_ge m t with h | h
          · cases hlt2 : Dg.less l[t] d with
            | false => rfl
            | true =>
              have := Dg.less_trans (Dg.strict_get HL.out m t h ht) hlt2
              rw [hx.out, hnx] at this; cases this
          · obtain rfl : t = m := by omega
            rw [hx.out]; exact hnx
    · obtain rfl : hi = lo := by omega
      have hpos : Aside0 (Dg.pos l d = hi) := ⟨Dg.pos_eq HL.out d hi hin I.out.1 I.out.2⟩
      by_cases hn : hi < l.length
      · obtain ⟨ad, rfl, c2, c3⟩ := (HR.out.below S1.out) hi hn
        have e2 := fun (n : Nat) (os : Array Obj) => cell_grown (World.block_lt_of_cell? _ _ c2) c2 n os
        have e3 := fun (n : Nat) (os : Array Obj) => cell_grown (World.block_lt_of_cell? _ _ c3) c3 n os
        clear c2 c3
        obtain ⟨x, hx⟩ : ∃ x, l[hi] = x := ⟨_, rfl⟩
        rw [hx] at e2 e3
        have hc := fun W => compare_calls x d W
        replace hc := Aside0.mk hc
        have hz := Dg.cmpD_zero x d
        obtain ⟨r, hr⟩ : ∃ r, Dg.cmpD x d = r := ⟨_, rfl⟩
        rw [hr] at hz hc
        clear hr
        have hget : Aside0 (l[Dg.pos l d]? = some x) := ⟨by rw [hpos.out, List.getElem?_eq_getElem hn, hx]⟩
        clear hx
        have hm1 : (hi : Int) < (l.length : Int) := by omega
        have hm2 : decide ((hi : Int) < (l.length : Int)) = true := decide_eq_true hm1
        by_cases hr0 : r = 0
        · have hle := Aside0.mk (hz.1 hr0)
          clear hz
          subst hr0
          go_wp2_with fail
          go_quiet_grown (first | (go_at_fn 25; refine Calls.grown_of (hc.out _)))
          go_wp2
          go_ret2
          exact ⟨by rw [hget.out, hpos.out, hle.out]; simp, HZ.out.2.trans ((below_grown S1.out S1.out.size _ _).mono HZ.out.2.size)⟩
        · have hle := Aside0.mk (show ¬ x = d from fun e => hr0 (hz.2 e))
          clear hz
          have hr1 : (r == 0) = false := by simpa using hr0
          go_wp2_with fail
          go_quiet_grown (first | (go_at_fn 25; refine Calls.grown_of (hc.out _)))
          go_wp2
          go_ret2
          exact ⟨by rw [hget.out, hpos.out]; simp [hle.out], HZ.out.2.trans ((below_grown S1.out S1.out.size _ _).mono HZ.out.2.size)⟩
      · have hget : Aside0 (l[Dg.pos l d]? = none) := ⟨by rw [hpos.out]; exact List.getElem?_eq_none (by omega)⟩
        have hm2 : decide ((hi : Int) < (l.length : Int)) = false := decide_eq_false (by omega)
        have hm3 : decide (hi < l.length) = false := decide_eq_false hn
        clear e0 e1 hn hg hlh
        go_wp2_with fail
        go_quiet (fail)
        go_wp2
        go_ret2
        exact ⟨by rw [hget.out, hpos.out]; simp, HZ.out.2.trans ((pw_below_drewN S1.out _).mono HZ.out.2.size)⟩
end Go.Proofs.YtgphciopondlaaaDoor
