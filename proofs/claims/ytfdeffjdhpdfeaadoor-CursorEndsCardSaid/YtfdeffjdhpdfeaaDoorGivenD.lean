/- Place of cursor, walked by hand over the line iterator. Conditions: texts of at most 1000000000 bytes; a column that is an int. -/
import Derived.Test.YtfdeffjdhpdfeaaDoorGivenC
import Derived.Test.YtfdeffjdhpdfeaaDoorPlainB
namespace Go.Proofs.YtfdeffjdhpdfeaaDoor
set_option linter.unusedVariables false
set_option linter.unusedSimpArgs false
open Go.RowKit Go.Shelf
open Go.Proofs.YtfdeffjdhpdfeaaDoorW.PrintWords Go.Proofs.YtfdeffjdhpdfeaaDoorW.PrintLast
open Go.Proofs.YtfdeffjdhpdfeaaDoor.PAll
attribute [local go_sem] Oper.semAt_some

/-- What the boxes of Place hold. -/
structure Bxs (b : Nat) (s : ByteArray) (line : Int) (W : World) (r0 r1 from_ n : Nat) : Prop where
  bs : Boxed W b 9 (.string s)
  bl : Boxed W (b + 1) 3 (.int .i64 line)
  b0 : Boxed W (b + 1 + 1) 3 (.int .i64 r0)
  b1 : Boxed W (b + 1 + 1 + 1) 35 (.int .i64 r1)
  bf : Boxed W (b + 1 + 1 + 1 + 1) 3 (.int .i64 from_)
  bn : Boxed W (b + 1 + 1 + 1 + 1 + 1) 3 (.int .i64 n)

def placeV : Option Nat → Value
  | some i => .tuple #[.int .i64 i, .int .i64 0]
  | none => .tuple #[.int .i64 0, .int .i64 10]
theorem Bxs.kept {b : Nat} {s : ByteArray} {line : Int} {W W' : World} {r0 r1 f n : Nat} {row : Option Nat} (h : Bxs b s line W r0 r1 f n) (hg : W.grownBy W' row) (hr : ∀ r, row = some r → ∃ o : Obj, W.heap[r]? = some o ∧ o.isCells = false) : Bxs b s line W' r0 r1 f n := by
  have hne : ∀ (B t v), Boxed W B t v → some B ≠ row := fun B t v hb e => by
    obtain ⟨o, ho, hc⟩ := hr B e.symm
    rw [show W.heap[B]? = _ from hb] at ho; cases ho; cases hc
  exact ⟨h.bs.kept hg (hne _ _ _ h.bs), h.bl.kept hg (hne _ _ _ h.bl), h.b0.kept hg (hne _ _ _ h.b0), h.b1.kept hg (hne _ _ _ h.b1), h.bf.kept hg (hne _ _ _ h.bf), h.bn.kept hg (hne _ _ _ h.bn)⟩
theorem Bxs.alloc {b : Nat} {s : ByteArray} {line : Int} {W : World} {r0 r1 f n : Nat} (h : Bxs b s line W r0 r1 f n) (o : Obj) : Bxs b s line (W.alloc o) r0 r1 f n := h.kept (World.grownBy_alloc W o none) (fun _ e => by cases e)
theorem Bxs.below {b : Nat} {s : ByteArray} {line : Int} {W W' : World} {r0 r1 f n : Nat} (h : Bxs b s line W r0 r1 f n) (hb : Below W.heap.size W W') : Bxs b s line W' r0 r1 f n := h.kept (grown_of_below hb) (fun _ e => by cases e)
theorem Bxs.setF {b : Nat} {s : ByteArray} {line : Int} {W : World} {r0 r1 f n : Nat} (h : Bxs b s line W r0 r1 f n) (f' : Nat) : Bxs b s line (W.setCell ⟨b + 1 + 1 + 1 + 1, 0, none⟩ (.int .i64 f')) r0 r1 f' n :=
  ⟨h.bs.other (by omega) _, h.bl.other (by omega) _, h.b0.other (by omega) _, h.b1.other (by omega) _, h.bf.set _, h.bn.other (by omega) _⟩
theorem Bxs.setN {b : Nat} {s : ByteArray} {line : Int} {W : World} {r0 r1 f n : Nat} (h : Bxs b s line W r0 r1 f n) (n' : Nat) : Bxs b s line (W.setCell ⟨b + 1 + 1 + 1 + 1 + 1, 0, none⟩ (.int .i64 n')) r0 r1 f n' :=
  ⟨h.bs.other (by omega) _, h.bl.other (by omega) _, h.b0.other (by omega) _, h.b1.other (by omega) _, h.bf.other (by omega) _, h.bn.set _⟩
theorem Bxs.set0 {b : Nat} {s : ByteArray} {line : Int} {W : World} {r0 r1 f n : Nat} (h : Bxs b s line W r0 r1 f n) (r' : Nat) : Bxs b s line (W.setCell ⟨b + 1 + 1, 0, none⟩ (.int .i64 r')) r' r1 f n :=
  ⟨h.bs.other (by omega) _, h.bl.other (by omega) _, h.b0.set _, h.b1.other (by omega) _, h.bf.other (by omega) _, h.bn.other (by omega) _⟩
theorem Bxs.set1 {b : Nat} {s : ByteArray} {line : Int} {W : World} {r0 r1 f n : Nat} (h : Bxs b s line W r0 r1 f n) (r' : Nat) : Bxs b s line (W.setCell ⟨b + 1 + 1 + 1, 0, none⟩ (.int .i64 r')) r0 r' f n :=
  ⟨h.bs.other (by omega) _, h.bl.other (by omega) _, h.b0.other (by omega) _, h.b1.set _, h.bf.other (by omega) _, h.bn.other (by omega) _⟩
theorem bxs_own (b : Nat) (s : ByteArray) (line : Int) {β : Type} (r0 r1 f n : β → Nat) : Own (fun (x : β) W => Bxs b s line W (r0 x) (r1 x) (f x) (n x)) := fun _ _ _ _ hs hg hr => hs.kept hg hr
theorem Kept.setInt {Xs : List Nat} {B : Nat} {W : World} (k : Nat) (v : Value) (hX : k ∈ Xs) (hBv : ∀ u, (W.setCell ⟨k, 0, none⟩ v).cell? ⟨B, 0, none⟩ = some u → u.ownBlock = none) : Kept Xs B W (W.setCell ⟨k, 0, none⟩ v) :=
  ⟨by simp, fun j o hj _ hx _ => (Below.heap_setCell W ⟨k, 0, none⟩ v j (fun e => hx (e ▸ hX))).trans hj, fun j u hu e => by rw [hBv u hu] at e; cases e⟩
theorem Bxs.keptF {b : Nat} {s : ByteArray} {line : Int} {W' : World} {r0 r1 f n : Nat} (h : Bxs b s line W' r0 r1 f n) : ∀ u, W'.cell? ⟨b + 1 + 1 + 1 + 1, 0, none⟩ = some u → u.ownBlock = none := fun u hu => by rw [h.bf.cell] at hu; cases hu; rfl

/-- Between two rounds of Place. -/
def PI (b : Nat) (s : ByteArray) (line : Int) (w : World) (pre : List (LnIn s)) (W : World) : Prop :=
  ((Bxs b s line W 0 0 (Cur.lastN (un pre)) (pre.length + 1) ∧ (∀ k, k < pre.length → ((k + 1 : Nat) : Int) ≠ line) ∧ (∀ x ∈ un pre, Cur.bad s.data.toList x = false)) ∧ Below b w W) ∧ b + 1 + 1 + 1 + 1 + 1 + 1 < W.heap.size
/-- Where a round of Place has left. -/
def PX (b : Nat) (s : ByteArray) (line : Int) (w : World) (c : Code) (pre : List (LnIn s)) (W : World) : Prop :=
  (∃ p0 x, pre = p0 ++ [x] ∧ (∀ y ∈ un p0, Cur.bad s.data.toList y = false) ∧
      ((c = .exit 0 ∧ line = ((p0.length + 1 : Nat) : Int) ∧ Bxs b s line W 0 0 (Cur.lastN (un p0)) (p0.length + 1)) ∨
       (c = .ret ∧ Cur.bad s.data.toList x.1 = true ∧ (∀ k, k < p0.length + 1 → ((k + 1 : Nat) : Int) ≠ line) ∧ ∃ f1 n1, Bxs b s line W 0 10 f1 n1))) ∧ Below b w W
theorem bad_def (s : ByteArray) (x : Cur.Ln) : Cur.bad s.data.toList x = (x.n == s.size && s.data.toList[s.size - 1]? != some 10) := rfl
set_option maxRecDepth 100000 in
theorem fin {n : Nat} {s : ByteArray} {line : Int} {w W : World} {r0 r1 F N D : Nat} {x : Value} {ts : Array Value} (hx : x = .tuple #[.int .i64 r0, .int .i64 r1]) (hX : Bxs w.heap.size s line W r0 r1 F N) (hB : Below w.heap.size w W) (hK : W.heap[D]? = some (.deferred (some []))) (hD : w.heap.size ≤ D)
    (h6 : ts.getD 6 undef = .pointer (some ⟨w.heap.size + 1 + 1, 0, none⟩)) (h7 : ts.getD 7 undef = .pointer (some ⟨w.heap.size + 1 + 1 + 1, 0, none⟩)) :
    bodyPostM Fence.wide n Tryd.prog Tryd.f20 (fun e W' => e = .returned x ∧ Below w.heap.size w W') Exit.ret { tmps := ts, defers := [{ target := .collected D, args := #[] }] } W := by
  subst hx
  refine ⟨by simp, .inl ⟨_, _, rfl, run_takeDeferred hK, ?_⟩⟩
  have hc5 := cell_kept hX.b0.cell (grownBy_putObj' _ D (.deferred none)) (fun r e => by cases e; exact ⟨_, hK, rfl⟩)
  have hc6 := cell_kept hX.b1.cell (grownBy_putObj' _ D (.deferred none)) (fun r e => by cases e; exact ⟨_, hK, rfl⟩)
  refine ⟨.tuple #[.int .i64 r0, .int .i64 r1], ?_, rfl, hB.trans (belowK_b (w := w) (Nat.le_refl _) W D _ _ hD hK rfl rfl)⟩
  simp only [Array.getD_eq_getD_getElem?] at h6 h7
  simp [results, Tryd.f20, go_sem, hc5, hc6, h6, h7]

set_option maxRecDepth 100000 in
set_option maxHeartbeats 2000000 in
theorem Place_in (n : Nat) (hn : 6 ≤ n) (s : ByteArray) (hs : s.size ≤ 1000000000) (line col : Int) (hc0 : -9223372036854775808 ≤ col) (hc1 : col ≤ 9223372036854775807) (w : World) :
    CallsIn Fence.wide n Tryd.prog 20 #[.string s, .int .i64 line, .int .i64 col] w fun e W' =>
      e = .returned (placeV (Cur.place s.data.toList line col)) ∧ Below w.heap.size w W' := by
  have h1 : 1 ≤ n := by omega
  have hll := lines_len s.data.toList
  have hsl : s.data.toList.length = s.size := rfl
  refine callsIn_of_wp_marks Tryd.func20 rfl trivial ?_ rfl
  simp only [Tryd.ntmps20, List.size_toArray, List.length_cons, List.length_nil, Nat.reduceAdd, Nat.reduceSub, Array.replicate_succ, Array.replicate_zero, List.push_toArray, List.append_toArray, List.nil_append, List.cons_append]
  gi_wp2_with (refine ⟨trivial, ?_⟩; gi_at_call 22; refine (lines_in s _ _).mono ?_; rintro e w' ⟨rfl, rfl⟩)
  rename_i K hKK
  obtain ⟨W0, hW0⟩ : ∃ W0, (((((((w.alloc (.cells #[.string s] 9)).alloc (.cells #[.int .i64 line] 3)).alloc (.cells #[.int .i64 0] 3)).alloc (.cells #[.int .i64 0] 35)).alloc (.cells #[.int .i64 0] 3)).alloc (.cells #[.int .i64 1] 3)).alloc (.cells #[.string s] 9)) = W0 := ⟨_, rfl⟩
  have bS : Boxed W0 (w.heap.size + 1 + 1 + 1 + 1 + 1 + 1) 9 (.string s) := by
    rw [← hW0]
    have := Boxed.new ((((((w.alloc (.cells #[.string s] 9)).alloc (.cells #[.int .i64 line] 3)).alloc (.cells #[.int .i64 0] 3)).alloc (.cells #[.int .i64 0] 35)).alloc (.cells #[.int .i64 0] 3)).alloc (.cells #[.int .i64 1] 3)) 9 (.string s)
    simpa only [World.size_alloc] using this
  have bX : Bxs w.heap.size s line W0 0 0 0 1 := by
    rw [← hW0]
    have a0 := Boxed.new w 9 (.string s)
    have a1 := Boxed.new (w.alloc (.cells #[.string s] 9)) 3 (.int .i64 line)
    have a2 := Boxed.new ((w.alloc (.cells #[.string s] 9)).alloc (.cells #[.int .i64 line] 3)) 3 (.int .i64 0)
    have a3 := Boxed.new (((w.alloc (.cells #[.string s] 9)).alloc (.cells #[.int .i64 line] 3)).alloc (.cells #[.int .i64 0] 3)) 35 (.int .i64 0)
    have a4 := Boxed.new ((((w.alloc (.cells #[.string s] 9)).alloc (.cells #[.int .i64 line] 3)).alloc (.cells #[.int .i64 0] 3)).alloc (.cells #[.int .i64 0] 35)) 3 (.int .i64 0)
    have a5 := Boxed.new (((((w.alloc (.cells #[.string s] 9)).alloc (.cells #[.int .i64 line] 3)).alloc (.cells #[.int .i64 0] 3)).alloc (.cells #[.int .i64 0] 35)).alloc (.cells #[.int .i64 0] 3)) 3 (.int .i64 1)
    simp only [World.size_alloc] at a1 a2 a3 a4 a5
    exact ⟨(((((a0.alloc _).alloc _).alloc _).alloc _).alloc _).alloc _, ((((a1.alloc _).alloc _).alloc _).alloc _).alloc _, (((a2.alloc _).alloc _).alloc _).alloc _, ((a3.alloc _).alloc _).alloc _, (a4.alloc _).alloc _, a5.alloc _⟩
  have hsz : W0.heap.size = w.heap.size + 7 := by rw [← hW0]; simp
  have hB0 : Below w.heap.size w W0 := by
    rw [← hW0]
    exact (((((((Below.refl _ w).alloc (Nat.le_refl _) _).alloc (by simp) _).alloc (by simp; omega) _).alloc (by simp; omega) _).alloc (by simp; omega) _).alloc (by simp; omega) _).alloc (by simp; omega) _
  rw [hW0]
  clear hW0
  have tail : ∀ (D N F : Nat) (W : World), Bxs w.heap.size s line W 0 0 F N → Below w.heap.size w W → W.heap[D]? = some (.deferred (some [])) → W0.heap.size ≤ D → F ≤ s.size → N ≤ s.size + 1 →
      Cur.at_ s.data.toList F = (N, 1) → (line ≠ N → Cur.place s.data.toList line col = none) → K { tmps := #[.string s, .int .i64 line, .int .i64 col, .pointer (some ⟨w.heap.size, 0, none⟩), .pointer (some ⟨w.heap.size + 1, 0, none⟩), undef, .pointer (some ⟨w.heap.size + 1 + 1, 0, none⟩), .pointer (some ⟨w.heap.size + 1 + 1 + 1, 0, none⟩), .pointer (some ⟨w.heap.size + 1 + 1 + 1 + 1, 0, none⟩), .pointer (some ⟨w.heap.size + 1 + 1 + 1 + 1 + 1, 0, none⟩), undef, undef, .string s, .func (.func 25) #[] #[.pointer (some ⟨w.heap.size + 1 + 1 + 1 + 1 + 1 + 1, 0, none⟩)], undef, undef, undef, undef, undef, undef, undef, undef, undef, undef, undef, undef, undef, undef, undef, undef, undef, undef, undef, undef, undef, undef, undef, undef, undef, undef, undef, undef, undef, undef, undef, undef, undef, undef, undef, undef, undef, undef, undef, undef, undef, undef, undef, undef, undef, undef, undef, undef], defers := [{ target := .collected D, args := #[] }] } W := by
    intro D N F W hX hB hK hD hF hN hat hne
    obtain ⟨t, r, e, h10, hr⟩ : ∃ t r, s.data.toList.drop F = t ++ r ∧ (10 : UInt8) ∉ t ∧ (r = [] ∨ ∃ r', r = 10 :: r') := by
      rcases Cur.split10 (s.data.toList.drop F) with h | ⟨t, r, e, h⟩
      · exact ⟨_, [], by simp, h, .inl rfl⟩
      · exact ⟨t, _, e, h, .inr ⟨r, rfl⟩⟩
    have hpl : (s.data.toList.take F).length = F := by rw [List.length_take]; omega
    have hp := Cur.place_here (l := s.data.toList) (pre := s.data.toList.take F) (t := t) (r := r) (n := N) (by rw [← e, List.take_append_drop]) h10 hr (by rw [hpl]; exact hat) col
    rw [hpl] at hp
    have hlen : (s.data.toList.drop F).length = s.size - F := by rw [List.length_drop]; rfl
    rw [e, List.length_append] at hlen
    have hcall : Calls Tryd.prog 24 #[.string (s.extract F s.size), .int .u8 10] W fun e w' => e = .returned (.int .i64 (if r = [] then -1 else (t.length : Int))) ∧ w' = W := by
      have hc := Any.strings_IndexByte Tryd.lays137 (s.extract F s.size) 10 W
      have hx : (s.extract F s.size).data.toList = t ++ r := by rw [ext_data, ← e]; exact List.take_of_length_le (by rw [List.length_drop]; exact Nat.le_refl _)
      rw [hx] at hc
      have hi : Lib.indexByte (t ++ r) (10 : Int).toNat.toUInt8 = if r = [] then -1 else (t.length : Int) := by
        rcases hr with rfl | ⟨r', rfl⟩
        · rw [if_pos rfl, List.append_nil]
          have ge := Lib.indexByte_ge t 10
          by_cases k : Lib.indexByte t 10 = -1
          · exact k
          · obtain ⟨o, ho⟩ := Int.eq_ofNat_of_zero_le (show 0 ≤ Lib.indexByte t 10 by omega)
            exact absurd (List.mem_of_getElem? (Lib.indexByte_some ho).1) h10
        · rw [if_neg (by simp)]
          have ge := Lib.indexByte_ge (t ++ 10 :: r') 10
          by_cases k : Lib.indexByte (t ++ 10 :: r') 10 = -1
          · exact absurd (by simp) (not_mem_of (Lib.indexByte_none k))
          · obtain ⟨o, ho⟩ := Int.eq_ofNat_of_zero_le (show 0 ≤ Lib.indexByte (t ++ 10 :: r') 10 by omega)
            have := Lib.indexByte_some ho
            show Lib.indexByte (t ++ 10 :: r') 10 = _
            rw [ho]
            rcases Nat.lt_trichotomy o t.length with hlt | heq | hgt
            · exfalso
              rw [List.getElem?_append_left hlt] at this
              exact h10 (List.mem_of_getElem? this.1)
            · rw [heq]
            · exfalso
              refine this.2 t.length hgt ?_
              simp
      rw [hi] at hc
      exact hc
    obtain ⟨rm, hrm⟩ : ∃ rm, (if r = [] then -1 else (t.length : Int)) = rm := ⟨_, rfl⟩
    rw [hrm] at hcall
    obtain ⟨T, hT⟩ : ∃ T, t.length = T := ⟨_, rfl⟩
    rw [hT] at hrm hp hlen
    have hrm2 : (rm = -1 ∧ F + T = s.size) ∨ rm = T := by
      by_cases h : r = []
      · rw [if_pos h] at hrm
        subst h
        simp at hlen
        exact .inl ⟨hrm.symm, by omega⟩
      · rw [if_neg h] at hrm; exact .inr hrm.symm
    have hFT : F + T ≤ s.size := by omega
    clear hrm hT hlen e h10 hr hpl
    replace hcall := Aside0.mk hcall
    have hb2 : ((F : Int) ≤ (s.size : Int)) = True := eq_true (by omega)
    have hcs := hX.bs.cell
    have hcl := hX.bl.cell
    have hcf := hX.bf.cell
    have hcn := hX.bn.cell
    have hc0' := hX.b0.cell
    have hc1' := hX.b1.cell
    have hf0 := hX.b0.frozen
    have hf1 := hX.b1.frozen
    apply hKK
    have hne' := Aside0.mk hne
    replace hp := Aside0.mk hp
    clear hne hat
    by_cases c1 : line = (N : Int)
    · subst c1
      by_cases c2 : col < 1
      · have hv : Cur.place s.data.toList N col = none := by rw [hp.out, if_neg (by omega)]
        replace hv := Aside0.mk hv
        rcases hrm2 with ⟨rfl, hrm3⟩ | rfl
        · gi_wp2_with (refine ⟨trivial, ?_⟩; gi_at_call 24; refine (callsIn_wide.2 hcall.out).mono ?_; rintro e w' ⟨rfl, rfl⟩)
          have hX2 := (hX.set0 (0)).set1 10
          have hK' := ((KeepsOthers.setCell w' ⟨w.heap.size + 1 + 1, 0, none⟩ (.int .i64 ((0 : Nat) : Int))).trans (KeepsOthers.setCell _ ⟨w.heap.size + 1 + 1 + 1, 0, none⟩ (.int .i64 ((10 : Nat) : Int)))).same D _ hK rfl
          exact fin (w := w) (by rw [hv.out]; rfl) hX2 ((hB.setCell (p := ⟨w.heap.size + 1 + 1, 0, none⟩) (by show w.heap.size ≤ w.heap.size + 1 + 1; omega) _).setCell (p := ⟨w.heap.size + 1 + 1 + 1, 0, none⟩) (by show w.heap.size ≤ w.heap.size + 1 + 1 + 1; omega) _) hK' (by omega) rfl rfl
        · gi_wp2_with (refine ⟨trivial, ?_⟩; gi_at_call 24; refine (callsIn_wide.2 hcall.out).mono ?_; rintro e w' ⟨rfl, rfl⟩)
          have hX2 := (hX.set0 (0)).set1 10
          have hK' := ((KeepsOthers.setCell w' ⟨w.heap.size + 1 + 1, 0, none⟩ (.int .i64 ((0 : Nat) : Int))).trans (KeepsOthers.setCell _ ⟨w.heap.size + 1 + 1 + 1, 0, none⟩ (.int .i64 ((10 : Nat) : Int)))).same D _ hK rfl
          exact fin (w := w) (by rw [hv.out]; rfl) hX2 ((hB.setCell (p := ⟨w.heap.size + 1 + 1, 0, none⟩) (by show w.heap.size ≤ w.heap.size + 1 + 1; omega) _).setCell (p := ⟨w.heap.size + 1 + 1 + 1, 0, none⟩) (by show w.heap.size ≤ w.heap.size + 1 + 1 + 1; omega) _) hK' (by omega) rfl rfl
      · by_cases c3 : col ≤ (T : Int) + 1
        · have hv : Cur.place s.data.toList N col = some (F + (col - 1).toNat) := by rw [hp.out, if_pos (by omega)]
          replace hv := Aside0.mk hv
          have c2' : 1 ≤ col := by omega
          have b9 : (F : Int) + col - 1 = ((F + (col - 1).toNat : Nat) : Int) := by omega
          obtain ⟨q, hq⟩ : ∃ q, F + (col - 1).toNat = q := ⟨_, rfl⟩
          rw [hq] at hv b9
          clear hq
          rcases hrm2 with ⟨rfl, hrm3⟩ | rfl
          · gi_wp2_with (refine ⟨trivial, ?_⟩; gi_at_call 24; refine (callsIn_wide.2 hcall.out).mono ?_; rintro e w' ⟨rfl, rfl⟩)
            have hX2 := (hX.set0 (q)).set1 0
            have hK' := ((KeepsOthers.setCell w' ⟨w.heap.size + 1 + 1, 0, none⟩ (.int .i64 ((q : Nat) : Int))).trans (KeepsOthers.setCell _ ⟨w.heap.size + 1 + 1 + 1, 0, none⟩ (.int .i64 ((0 : Nat) : Int)))).same D _ hK rfl
            exact fin (w := w) (by rw [hv.out]; rfl) hX2 ((hB.setCell (p := ⟨w.heap.size + 1 + 1, 0, none⟩) (by show w.heap.size ≤ w.heap.size + 1 + 1; omega) _).setCell (p := ⟨w.heap.size + 1 + 1 + 1, 0, none⟩) (by show w.heap.size ≤ w.heap.size + 1 + 1 + 1; omega) _) hK' (by omega) rfl rfl
          · gi_wp2_with (refine ⟨trivial, ?_⟩; gi_at_call 24; refine (callsIn_wide.2 hcall.out).mono ?_; rintro e w' ⟨rfl, rfl⟩)
            have hX2 := (hX.set0 (q)).set1 0
            have hK' := ((KeepsOthers.setCell w' ⟨w.heap.size + 1 + 1, 0, none⟩ (.int .i64 ((q : Nat) : Int))).trans (KeepsOthers.setCell _ ⟨w.heap.size + 1 + 1 + 1, 0, none⟩ (.int .i64 ((0 : Nat) : Int)))).same D _ hK rfl
            exact fin (w := w) (by rw [hv.out]; rfl) hX2 ((hB.setCell (p := ⟨w.heap.size + 1 + 1, 0, none⟩) (by show w.heap.size ≤ w.heap.size + 1 + 1; omega) _).setCell (p := ⟨w.heap.size + 1 + 1 + 1, 0, none⟩) (by show w.heap.size ≤ w.heap.size + 1 + 1 + 1; omega) _) hK' (by omega) rfl rfl
        · have hv : Cur.place s.data.toList N col = none := by rw [hp.out, if_neg (by omega)]
          replace hv := Aside0.mk hv
          have c3' : (T : Int) < col - 1 := by omega
          rcases hrm2 with ⟨rfl, hrm3⟩ | rfl
          · gi_wp2_with (refine ⟨trivial, ?_⟩; gi_at_call 24; refine (callsIn_wide.2 hcall.out).mono ?_; rintro e w' ⟨rfl, rfl⟩)
            have hX2 := (hX.set0 (0)).set1 10
            have hK' := ((KeepsOthers.setCell w' ⟨w.heap.size + 1 + 1, 0, none⟩ (.int .i64 ((0 : Nat) : Int))).trans (KeepsOthers.setCell _ ⟨w.heap.size + 1 + 1 + 1, 0, none⟩ (.int .i64 ((10 : Nat) : Int)))).same D _ hK rfl
            exact fin (w := w) (by rw [hv.out]; rfl) hX2 ((hB.setCell (p := ⟨w.heap.size + 1 + 1, 0, none⟩) (by show w.heap.size ≤ w.heap.size + 1 + 1; omega) _).setCell (p := ⟨w.heap.size + 1 + 1 + 1, 0, none⟩) (by show w.heap.size ≤ w.heap.size + 1 + 1 + 1; omega) _) hK' (by omega) rfl rfl
          · gi_wp2_with (refine ⟨trivial, ?_⟩; gi_at_call 24; refine (callsIn_wide.2 hcall.out).mono ?_; rintro e w' ⟨rfl, rfl⟩)
            have hX2 := (hX.set0 (0)).set1 10
            have hK' := ((KeepsOthers.setCell w' ⟨w.heap.size + 1 + 1, 0, none⟩ (.int .i64 ((0 : Nat) : Int))).trans (KeepsOthers.setCell _ ⟨w.heap.size + 1 + 1 + 1, 0, none⟩ (.int .i64 ((10 : Nat) : Int)))).same D _ hK rfl
            exact fin (w := w) (by rw [hv.out]; rfl) hX2 ((hB.setCell (p := ⟨w.heap.size + 1 + 1, 0, none⟩) (by show w.heap.size ≤ w.heap.size + 1 + 1; omega) _).setCell (p := ⟨w.heap.size + 1 + 1 + 1, 0, none⟩) (by show w.heap.size ≤ w.heap.size + 1 + 1 + 1; omega) _) hK' (by omega) rfl rfl
    · have hv := Aside0.mk (hne'.out c1)
      have c1b : ¬ (N : Int) = line := fun h => c1 h.symm
      rcases hrm2 with ⟨rfl, hrm3⟩ | rfl
      · gi_wp2_with (refine ⟨trivial, ?_⟩; gi_at_call 24; refine (callsIn_wide.2 hcall.out).mono ?_; rintro e w' ⟨rfl, rfl⟩)
        have hX2 := (hX.set0 (0)).set1 10
        have hK' := ((KeepsOthers.setCell w' ⟨w.heap.size + 1 + 1, 0, none⟩ (.int .i64 ((0 : Nat) : Int))).trans (KeepsOthers.setCell _ ⟨w.heap.size + 1 + 1 + 1, 0, none⟩ (.int .i64 ((10 : Nat) : Int)))).same D _ hK rfl
        exact fin (w := w) (by rw [hv.out]; rfl) hX2 ((hB.setCell (p := ⟨w.heap.size + 1 + 1, 0, none⟩) (by show w.heap.size ≤ w.heap.size + 1 + 1; omega) _).setCell (p := ⟨w.heap.size + 1 + 1 + 1, 0, none⟩) (by show w.heap.size ≤ w.heap.size + 1 + 1 + 1; omega) _) hK' (by omega) rfl rfl
      · gi_wp2_with (refine ⟨trivial, ?_⟩; gi_at_call 24; refine (callsIn_wide.2 hcall.out).mono ?_; rintro e w' ⟨rfl, rfl⟩)
        have hX2 := (hX.set0 (0)).set1 10
        have hK' := ((KeepsOthers.setCell w' ⟨w.heap.size + 1 + 1, 0, none⟩ (.int .i64 ((0 : Nat) : Int))).trans (KeepsOthers.setCell _ ⟨w.heap.size + 1 + 1 + 1, 0, none⟩ (.int .i64 ((10 : Nat) : Int)))).same D _ hK rfl
        exact fin (w := w) (by rw [hv.out]; rfl) hX2 ((hB.setCell (p := ⟨w.heap.size + 1 + 1, 0, none⟩) (by show w.heap.size ≤ w.heap.size + 1 + 1; omega) _).setCell (p := ⟨w.heap.size + 1 + 1 + 1, 0, none⟩) (by show w.heap.size ≤ w.heap.size + 1 + 1 + 1; omega) _) hK' (by omega) rfl rfl
  refine wpIn_rangeFunc_ownH rfl h1 (gf := 25) (lb := #[.pointer (some ⟨w.heap.size + 1 + 1 + 1 + 1 + 1 + 1, 0, none⟩)]) rfl trivial (enters_of Tryd.func25 (by kernel_rfl) rfl)
    (lines_stops (n - 1) (by omega) (w.heap.size + 1 + 1 + 1 + 1 + 1 + 1) (w.heap.size + 1 + 1 + 1 + 1) [w.heap.size + 1 + 1, w.heap.size + 1 + 1 + 1, w.heap.size + 1 + 1 + 1 + 1, w.heap.size + 1 + 1 + 1 + 1 + 1] s (by omega) (InText s) (lines_in_text s) W0 bS (by omega) (fun k hk => by simp at hk; omega) (by simp; omega) (fun v k hv e => by rw [bX.bf.cell] at hv; cases hv; cases e))
    Kept.trans (Kept.b (by omega)) (Below.refl _ _) (fun _ => rfl)
    (PI w.heap.size s line w) (PX w.heap.size s line w)
    (OwnFrom.and (OwnFrom.and (fun pre X Y row hs hg hr => ⟨hs.1.kept hg (fun r e => (hr r e).2), hs.2⟩) (ownFrom_below (Nat.le_refl _) (by omega))) (ownFrom_size _ _))
    (fun c => OwnFrom.and (fun pre X Y row hs hg hr => by
      obtain ⟨p0, x, hp, hb, ⟨h1, h2, h3⟩ | ⟨h1, h2, h3, f1, n1, h4⟩⟩ := hs
      · exact ⟨p0, x, hp, hb, .inl ⟨h1, h2, h3.kept hg (fun r e => (hr r e).2)⟩⟩
      · exact ⟨p0, x, hp, hb, .inr ⟨h1, h2, h3, f1, n1, h4.kept hg (fun r e => (hr r e).2)⟩⟩) (ownFrom_below (Nat.le_refl _) (by omega)))
    ⟨⟨⟨bX, fun k hk => by simp at hk, fun x hx => by simp [un] at hx⟩, hB0⟩, by omega⟩
    (fun x a' W => ∃ Bx, w.heap.size + 1 + 1 + 1 + 1 + 1 + 1 < Bx ∧ LnAt W Bx x.1 ∧ a' = { tmps := #[.string s, .int .i64 line, .int .i64 col, .pointer (some ⟨w.heap.size, 0, none⟩), .pointer (some ⟨w.heap.size + 1, 0, none⟩), undef, .pointer (some ⟨w.heap.size + 1 + 1, 0, none⟩), .pointer (some ⟨w.heap.size + 1 + 1 + 1, 0, none⟩), .pointer (some ⟨w.heap.size + 1 + 1 + 1 + 1, 0, none⟩), .pointer (some ⟨w.heap.size + 1 + 1 + 1 + 1 + 1, 0, none⟩), .pointer (some ⟨Bx, 0, none⟩), undef, .string s, .func (.func 25) #[] #[.pointer (some ⟨w.heap.size + 1 + 1 + 1 + 1 + 1 + 1, 0, none⟩)], .agg #[.int .i64 x.1.f, .int .i64 x.1.t, .int .i64 x.1.n], undef, undef, undef, undef, undef, undef, undef, undef, undef, undef, undef, undef, undef, undef, undef, undef, undef, undef, undef, undef, undef, undef, undef, undef, undef, undef, undef, undef, undef, undef, undef, undef, undef, undef, undef, undef, undef, undef, undef, undef, undef, undef, undef, undef, undef, undef, undef], defers := [] })
    (fun x a' _ X Y row hs hg hr => by obtain ⟨Bx, h1, h2, h3⟩ := hs; exact ⟨Bx, h1, h2.own hg (fun r e => (hr r e).2), h3⟩)
    ?assign ?body ?done ?stop
  case assign =>
    rintro l pre x W K1 ⟨⟨⟨hX, hk, hb⟩, hB⟩, hW2⟩ hK1
    dsimp only [encL]
    gi_wp2
    exact hK1 _ _ ((KeepsOthers.alloc _ _).from _) (Kept.alloc W (by omega) _) ⟨⟨⟨hX.alloc _, hk, hb⟩, hB.alloc hB.size _⟩, by rw [World.size_alloc]; omega⟩ ⟨W.heap.size, hW2, World.alloc_heap_new W _, rfl⟩
  case body =>
    rintro l pre x a' W hl ⟨r, hr⟩ ⟨⟨⟨hX, hkk, hbb⟩, hB⟩, hW2⟩ ⟨Bx, hBx, hLn, rfl⟩ hlt
    have hszA := Aside0.mk hsz
    clear hsz
    obtain ⟨x0, x1, x2⟩ := hLn.cells
    have hcs := hX.bs.cell
    have hcl := hX.bl.cell
    have hcf := hX.bf.cell
    have hcn := hX.bn.cell
    have hff := hX.bf.frozen
    have hfn := hX.bn.frozen
    have hc0' := hX.b0.cell
    have hc1' := hX.b1.cell
    have hf0 := hX.b0.frozen
    have hf1 := hX.b1.frozen
    have hxx := x.2
    obtain ⟨m, hm⟩ : ∃ m, pre.length + 1 = m := ⟨_, rfl⟩
    rw [hm] at hX hcn
    by_cases c1 : (m : Int) = line
    · have hfin : Aside0 (KeepsFrom W0.heap.size W W ∧ PX w.heap.size s line w (.exit 0) (pre ++ [x]) W) := ⟨KeepsFrom.refl _ _, ⟨pre, x, rfl, hbb, .inl ⟨rfl, by rw [hm]; exact c1.symm, by rw [hm]; exact hX⟩⟩, hB⟩
      gi_wp2
      exact hfin.out
    · have hkk2 : Aside0 (∀ k, k < m → ((k + 1 : Nat) : Int) ≠ line) := ⟨fun k hk => by
        by_cases e : k + 1 = m
        · rw [e]; exact c1
        · exact hkk k (by omega)⟩
      have hX2 : Bxs w.heap.size s line ((W.setCell ⟨w.heap.size + 1 + 1 + 1 + 1, 0, none⟩ (.int .i64 x.1.n)).setCell ⟨w.heap.size + 1 + 1 + 1 + 1 + 1, 0, none⟩ (.int .i64 ((m : Int) + 1))) 0 0 x.1.n (m + 1) := (hX.setF x.1.n).setN (m + 1)
      have good : Cur.bad s.data.toList x.1 = false → KeepsFrom W0.heap.size W ((W.setCell ⟨w.heap.size + 1 + 1 + 1 + 1, 0, none⟩ (.int .i64 x.1.n)).setCell ⟨w.heap.size + 1 + 1 + 1 + 1 + 1, 0, none⟩ (.int .i64 ((m : Int) + 1))) ∧ Kept [w.heap.size + 1 + 1, w.heap.size + 1 + 1 + 1, w.heap.size + 1 + 1 + 1 + 1, w.heap.size + 1 + 1 + 1 + 1 + 1] (w.heap.size + 1 + 1 + 1 + 1) W ((W.setCell ⟨w.heap.size + 1 + 1 + 1 + 1, 0, none⟩ (.int .i64 x.1.n)).setCell ⟨w.heap.size + 1 + 1 + 1 + 1 + 1, 0, none⟩ (.int .i64 ((m : Int) + 1))) ∧ PI w.heap.size s line w (pre ++ [x]) ((W.setCell ⟨w.heap.size + 1 + 1 + 1 + 1, 0, none⟩ (.int .i64 x.1.n)).setCell ⟨w.heap.size + 1 + 1 + 1 + 1 + 1, 0, none⟩ (.int .i64 ((m : Int) + 1))) := by
        intro hbx
        refine ⟨((KeepsOthers.setCell _ _ _).trans (KeepsOthers.setCell _ _ _)).from _, (Kept.setInt _ _ (by simp) (hX.setF x.1.n).keptF).trans (Kept.setInt _ _ (by simp) hX2.keptF), ⟨⟨?_, ?_, ?_⟩, ?_⟩, ?_⟩
        · rw [un_snoc, Cur.lastN_snoc, List.length_append, List.length_singleton, hm]; exact hX2
        · intro k hk
          rw [List.length_append, List.length_singleton, hm] at hk
          exact hkk2.out k hk
        · intro y hy
          rw [un_snoc, List.mem_append, List.mem_singleton] at hy
          rcases hy with hy | rfl
          · exact hbb y hy
          · exact hbx
        · exact (hB.setCell (p := ⟨w.heap.size + 1 + 1 + 1 + 1, 0, none⟩) (by show w.heap.size ≤ w.heap.size + 1 + 1 + 1 + 1; omega) _).setCell (p := ⟨w.heap.size + 1 + 1 + 1 + 1 + 1, 0, none⟩) (by show w.heap.size ≤ w.heap.size + 1 + 1 + 1 + 1 + 1; omega) _
        · simp only [World.size_setCell]; exact hW2
      have worse : Cur.bad s.data.toList x.1 = true → KeepsFrom W0.heap.size W (((W.setCell ⟨w.heap.size + 1 + 1 + 1 + 1, 0, none⟩ (.int .i64 x.1.n)).setCell ⟨w.heap.size + 1 + 1, 0, none⟩ (.int .i64 0)).setCell ⟨w.heap.size + 1 + 1 + 1, 0, none⟩ (.int .i64 10)) ∧ PX w.heap.size s line w .ret (pre ++ [x]) (((W.setCell ⟨w.heap.size + 1 + 1 + 1 + 1, 0, none⟩ (.int .i64 x.1.n)).setCell ⟨w.heap.size + 1 + 1, 0, none⟩ (.int .i64 0)).setCell ⟨w.heap.size + 1 + 1 + 1, 0, none⟩ (.int .i64 10)) := by
        intro hbx
        refine ⟨(((KeepsOthers.setCell _ _ _).trans (KeepsOthers.setCell _ _ _)).trans (KeepsOthers.setCell _ _ _)).from _, ⟨pre, x, rfl, hbb, .inr ⟨rfl, hbx, by rw [hm]; exact hkk2.out, _, _, ((hX.setF x.1.n).set0 0).set1 10⟩⟩, ?_⟩
        exact ((hB.setCell (p := ⟨w.heap.size + 1 + 1 + 1 + 1, 0, none⟩) (by show w.heap.size ≤ w.heap.size + 1 + 1 + 1 + 1; omega) _).setCell (p := ⟨w.heap.size + 1 + 1, 0, none⟩) (by show w.heap.size ≤ w.heap.size + 1 + 1; omega) _).setCell (p := ⟨w.heap.size + 1 + 1 + 1, 0, none⟩) (by show w.heap.size ≤ w.heap.size + 1 + 1 + 1; omega) _
      replace good := Aside0.mk good
      replace worse := Aside0.mk worse
      replace hX2 := Aside0.mk hX2
      by_cases c2 : x.1.n = s.size
      · have hs0 : 0 < s.size := by have := hxx.2.2.1; omega
        have hg := get_data s (s.size - 1) (by omega)
        have hlt1 : s.size - 1 < s.size := by omega
        have hbt : s.get! (s.size - 1) = s[s.size - 1]'hlt1 := get_at s (s.size - 1) hlt1
        obtain ⟨bt, hbt2⟩ : ∃ bt, s[s.size - 1]'hlt1 = bt := ⟨_, rfl⟩
        rw [hbt2] at hbt
        rw [hbt] at hg
        by_cases c3 : bt = 10
        · have hbx : Cur.bad s.data.toList x.1 = false := by rw [bad_def, hg, c3]; simp
          have hgd := Aside0.mk (good.out hbx)
          rw [c2] at hgd
          have c3b : ((bt.toNat : Int) != 10) = false := by rw [c3]; rfl
          clear hbt hg
          gi_wp2
          exact hgd.out
        · have hbx : Cur.bad s.data.toList x.1 = true := by rw [bad_def, hg, c2]; simp [c3]
          have hgd := Aside0.mk (worse.out hbx)
          rw [c2] at hgd
          have c3b : ((bt.toNat : Int) != 10) = true := bne_iff_ne.2 (fun h => c3 (UInt8.toNat_inj.1 (show bt.toNat = 10 by omega)))
          clear hbt hg
          gi_wp2
          exact hgd.out
      · have hbx : Cur.bad s.data.toList x.1 = false := by rw [bad_def]; simp [c2]
        have hgd := Aside0.mk (good.out hbx)
        gi_wp2
        exact hgd.out
  case done =>
    rintro D ys W hD hys ⟨⟨⟨hX, hkk, hbb⟩, hB⟩, hW2⟩ hK
    have hul := un_len ys
    rw [show un ys = _ from hys] at hX hbb hul
    obtain ⟨hd1, hd2⟩ := Cur.done_all _ hbb
    rw [hd1] at hX
    rw [← hul] at hX hkk
    gi_wp2
    refine tail D ((Cur.lines s.data.toList).length + 1) s.data.toList.length W hX hB hK hD (Nat.le_refl _) (by omega) hd2 ?_
    intro hne
    refine Cur.place_beyond (n := (Cur.lines s.data.toList).length + 1) line col (fun i hi => by have := Cur.line_le_last s.data.toList i hi; rw [hd2] at this; exact this) ?_
    by_cases h0 : line < 1
    · exact .inl h0
    · refine .inr ?_
      have := hkk (line - 1).toNat
      omega
  case stop =>
    rintro D c pre W hD hSp ⟨⟨p0, x, rfl, hbb, ⟨rfl, rfl, hX⟩ | ⟨rfl, hbx, hkk, f1, n1, hX⟩⟩, hB⟩ hK
    · have hlp : (un p0).length = p0.length := un_len p0
      have hSp' : un p0 ++ [x.1] <+: Cur.lines s.data.toList := by rw [← un_snoc]; exact hSp
      obtain ⟨rest, hrest⟩ := hSp'
      obtain ⟨P, R, e, hP, _, hat⟩ := Cur.walk_pre s.data.toList _ (un p0) (x.1 :: rest) rfl (by rw [← hrest]; simp) hbb
      have hPl : P.length ≤ s.size := by rw [← hsl, e, List.length_append]; omega
      have hpl : p0.length ≤ s.size := by
        have := congrArg List.length hrest
        simp at this
        omega
      rw [hlp] at hat
      rw [← hP] at hX
      have ht := tail D (p0.length + 1) P.length W hX hB hK hD hPl (by omega) hat (fun h => absurd rfl h)
      replace ht := Aside0.mk ht
      gi_wp2
      exact ht.out
    · have hlp : (un p0).length = p0.length := un_len p0
      have hSp' : un p0 ++ [x.1] <+: Cur.lines s.data.toList := by rw [← un_snoc]; exact hSp
      have hpl : Cur.place s.data.toList line col = none := Cur.place_beyond (n := p0.length + 1) line col (fun i hi => by have := Cur.bad_last s.data.toList (un p0) x.1 hSp' hbb hbx i hi; rwa [hlp] at this) (by
        by_cases h0 : line < 1
        · exact .inl h0
        · refine .inr ?_
          have := hkk (line - 1).toNat
          omega)
      replace hpl := Aside0.mk hpl
      gi_wp2
      exact fin (w := w) (by rw [hpl.out]; rfl) hX hB hK (by omega) rfl rfl

def cursor_Rows.f (a0 : ByteArray) : Option (List S31) := if a0.size ≤ 1000000000 then some ((rw_ a0 (Cur.lines a0.data.toList)).map toS) else none
theorem cursor_Rows.calls (a0 : ByteArray) (r : List S31) (w : World) (h : cursor_Rows.f a0 = some r) :
    Calls Tryd.prog 14 #[.string a0] w fun e w' => ∃ v0_ : Value, e = .returned (v0_) ∧ Kd.R k31 31 w' w.heap.size (fun _ => True) v0_ r ∧ Below w.heap.size w w' := by
  unfold cursor_Rows.f at h
  split at h
  · rename_i hs
    obtain rfl := Option.some.inj h
    refine (callsIn_wide (n := 6)).1 ((Rows_in 6 (by omega) a0 hs w).mono ?_)
    rintro e W' ⟨v, rfl, hr, hb⟩
    exact ⟨v, rfl, ⟨fun _ _ => trivial, flat (rw_ a0 (Cur.lines a0.data.toList)), by rw [List.length_map]; exact hr, reps_flat _ _ _ _⟩, hb⟩
  · exact absurd h (by simp)
def cursor_Place.f (a0 : ByteArray) (a1 a2 : Int) : Option (Int × Int) :=
  if a0.size ≤ 1000000000 ∧ -9223372036854775808 ≤ a2 ∧ a2 ≤ 9223372036854775807 then some (match Cur.place a0.data.toList a1 a2 with | some i => ((i : Int), 0) | none => (0, 10)) else none
theorem cursor_Place.calls (a0 : ByteArray) (a1 a2 : Int) (r1 r2 : Int) (w : World) (h : cursor_Place.f a0 a1 a2 = some (r1, r2)) :
    Calls Tryd.prog 20 #[.string a0, .int .i64 a1, .int .i64 a2] w fun e w' => e = .returned (.tuple #[.int .i64 r1, .int .i64 r2]) ∧ Below w.heap.size w w' := by
  unfold cursor_Place.f at h
  split at h
  · rename_i hs
    refine (callsIn_wide (n := 6)).1 ((Place_in 6 (by omega) a0 hs.1 a1 a2 hs.2.1 hs.2.2 w).mono ?_)
    rintro e W' ⟨rfl, hb⟩
    refine ⟨?_, hb⟩
    cases hp : Cur.place a0.data.toList a1 a2 with
    | none => rw [hp] at h; simp only [Option.some.injEq, Prod.mk.injEq] at h; obtain ⟨rfl, rfl⟩ := h; rfl
    | some i => rw [hp] at h; simp only [Option.some.injEq, Prod.mk.injEq] at h; obtain ⟨rfl, rfl⟩ := h; rfl
  · exact absurd h (by simp)
end Go.Proofs.YtfdeffjdhpdfeaaDoor
