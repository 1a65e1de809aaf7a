/- Tell of diag, walked by hand. Conditions: texts of at most 140737488351232 bytes; the table of powers of ten lies as the library's text lays it. -/
import Derived.Test.YtgphciopondlaaaDoorGivenK
import Derived.Test.YtgphciopondlaaaDoorGivenJ
import Derived.Lib.ItoaLen
namespace Go.Proofs.YtgphciopondlaaaDoor
set_option linter.unusedVariables false
set_option linter.unusedSimpArgs false
open Go.RowKit Go.Sort Go.Lib Go.Proofs.YtgphciopondlaaaDoor.PAll Go.Proofs.YtgphciopondlaaaDoorW.PrintWords Go.Proofs.YtgphciopondlaaaDoorW.PrintLast

/-- The table of powers of ten. -/
def Tab (w : World) : Prop := Lib.TabIs Tryd.prog w "internal/strconv.uint64pow10" .u64 Lib.pow10Tab
theorem Tab.below {w w' : World} (h : Tab w) (hb : Below w.heap.size w w') : Tab w' := by
  unfold Tab Lib.TabIs World.var? at *
  cases hg : Tryd.prog.globalNamed "internal/strconv.uint64pow10" with
  | none => simp [hg] at h
  | some g =>
    simp only [hg, Option.bind_some] at h ⊢
    have hlt : g < w.heap.size := by
      rcases Nat.lt_or_ge g w.heap.size with h' | h'
      · exact h'
      · rw [Array.getElem?_eq_none h'] at h; simp at h
    rw [hb.block g hlt]
    exact h
def S (l : List UInt8) : ByteArray := ⟨l.toArray⟩
theorem S_data (l : List UInt8) : (S l).data.toList = l := by simp [S]
theorem S_of (s : ByteArray) : S s.data.toList = s := by simp [S]
theorem S_size (l : List UInt8) : (S l).size = l.length := by simp [S, ByteArray.size]
theorem S_ext {a b : ByteArray} (h : a.data.toList = b.data.toList) : a = b := by rw [← S_of a, ← S_of b, h]
theorem S_append (a b : List UInt8) : S a ++ S b = S (a ++ b) := S_ext (by rw [S_data, ByteArray.data_append]; simp [S])
theorem itoa_calls (n : Int) (h0 : -9223372036854775808 ≤ n) (h1 : n ≤ 9223372036854775807) (w : World) (HT : Tab w) :
    Calls Tryd.prog 27 #[.int .i64 n] w fun e w' => e = .returned (.string (S (Lib.itoa n))) ∧ Below w.heap.size w w' := by
  refine (Any.strconv_Itoa Tryd.laysM171 n h0 h1 w HT).mono ?_
  rintro e w' ⟨rfl, k, os, rfl⟩
  exact ⟨rfl, below_grown (Below.refl _ _) (Nat.le_refl _) _ _⟩
/-- What is told. -/
def errT (n : Int) : List UInt8 := [101, 114, 114, 111, 114, 32] ++ Lib.itoa n
def placeT (l c : Nat) : List UInt8 := [108, 105, 110, 101, 32] ++ Lib.itoa l ++ [44, 32, 99, 111, 108, 117, 109, 110, 32] ++ Lib.itoa c ++ [58, 32]
def tell (s : List UInt8) (d : Dg.D) : List UInt8 := if 0 ≤ d.1 ∧ d.1 ≤ (s.length : Int) then placeT (Cur.at_ s d.1.toNat).1 (Cur.at_ s d.1.toNat).2 ++ errT d.2 else errT d.2
def wf64 (n : Int) : Prop := -9223372036854775808 ≤ n ∧ n ≤ 9223372036854775807
instance (n : Int) : Decidable (wf64 n) := by unfold wf64; infer_instance
theorem wh_le (l : List UInt8) : ∀ line col, (Cur.wh line col l).1 ≤ line + l.length ∧ (Cur.wh line col l).2 ≤ col + l.length + 1 := by
  induction l with
  | nil => intro line col; simp only [Cur.wh, List.length_nil]; omega
  | cons c l ih =>
    intro line col
    simp only [Cur.wh]
    rw [List.length_cons]
    split
    · have := ih (line + 1) 1; omega
    · have := ih line (col + 1); omega
theorem at_le (l : List UInt8) (i : Nat) (h : i ≤ l.length) : (Cur.at_ l i).1 ≤ i + 1 ∧ (Cur.at_ l i).2 ≤ i + 2 := by
  have := wh_le (l.take i) 1 1
  rw [List.length_take, Nat.min_eq_left h] at this
  unfold Cur.at_; omega
set_option maxRecDepth 100000 in
set_option maxHeartbeats 2000000 in
theorem tell_walk (s : ByteArray) (d : Dg.D) (w : World) (HT : Tab w) (hs : s.size ≤ 1000000000) (hd : wf64 d.2) (hd1 : wf64 d.1) :
    Calls Tryd.prog 13 #[.string s, .agg #[.int .i64 d.1, .int .i64 d.2]] w fun e w' => e = .returned (.string (S (tell s.data.toList d))) ∧ Below w.heap.size w w' := by
  obtain ⟨W0, hW0⟩ : ∃ W0, w.alloc (.cells #[.int .i64 d.1, .int .i64 d.2] 25) = W0 := ⟨_, rfl⟩
  have hB0 : Below w.heap.size w W0 := by rw [← hW0]; exact (Below.refl _ _).alloc (Nat.le_refl _) _
  have hz0 : W0.heap.size = w.heap.size + 1 := by rw [← hW0]; simp
  have b0 : W0.cell? ⟨w.heap.size, 0, none⟩ = some (.int .i64 d.1) := by rw [← hW0]; simp [go_sem]
  have b1 : W0.cell? ⟨w.heap.size, 1, none⟩ = some (.int .i64 d.2) := by rw [← hW0]; simp [go_sem]
  have HT0 := Aside0.mk (HT.below hB0)
  have hI := fun W (h : Tab W) => itoa_calls d.2 hd.1 hd.2 W h
  have hl2 := itoa_length_le d.2 hd.1 hd.2
  obtain ⟨t2, ht2⟩ : ∃ t2, S (Lib.itoa d.2) = t2 := ⟨_, rfl⟩
  have hs2 : t2.size ≤ 21 := by rw [← ht2, S_size]; exact hl2
  rw [ht2] at hI
  replace hI := Aside0.mk hI
  have hErr : Aside0 ((⟨#[101, 114, 114, 111, 114, 32]⟩ : ByteArray) ++ t2 = S (errT d.2)) := ⟨by rw [← ht2]; exact S_append [101, 114, 114, 111, 114, 32] (Lib.itoa d.2)⟩
  have hq2 : (9223372036854775807 < 6 + t2.size) = False := eq_false (by omega)
  clear hl2 ht2 HT
  replace hB0 := Aside0.mk hB0
  replace hz0 := Aside0.mk hz0
  by_cases hin : 0 ≤ d.1 ∧ d.1 ≤ (s.size : Int)
  · obtain ⟨n, hn⟩ := Int.eq_ofNat_of_zero_le hin.1
    have hw := fun W => where_walk s n W (by omega) (by omega)
    have hat := at_le s.data.toList n (by show n ≤ s.size; omega)
    have hT : Aside0 (tell s.data.toList d = placeT (Cur.at_ s.data.toList n).1 (Cur.at_ s.data.toList n).2 ++ errT d.2) := ⟨by
      unfold tell
      rw [if_pos (show 0 ≤ d.1 ∧ d.1 ≤ (s.data.toList.length : Int) from hin), hn, Int.toNat_natCast]⟩
    generalize (Cur.at_ s.data.toList n).1 = L at hw hat hT
    generalize (Cur.at_ s.data.toList n).2 = C at hw hat hT
    have hLb : L ≤ 1000000001 ∧ C ≤ 1000000002 := by omega
    have hIL := fun W (h : Tab W) => itoa_calls (L : Int) (by omega) (by omega) W h
    have hIC := fun W (h : Tab W) => itoa_calls (C : Int) (by omega) (by omega) W h
    have hlL := itoa_length_le (L : Int) (by omega) (by omega)
    have hlC := itoa_length_le (C : Int) (by omega) (by omega)
    obtain ⟨tL, htL⟩ : ∃ t, S (Lib.itoa (L : Int)) = t := ⟨_, rfl⟩
    obtain ⟨tC, htC⟩ : ∃ t, S (Lib.itoa (C : Int)) = t := ⟨_, rfl⟩
    have hsL : tL.size ≤ 21 := by rw [← htL, S_size]; exact hlL
    have hsC : tC.size ≤ 21 := by rw [← htC, S_size]; exact hlC
    rw [htL] at hIL
    rw [htC] at hIC
    have hAll : Aside0 ((⟨#[108, 105, 110, 101, 32]⟩ : ByteArray) ++ tL ++ (⟨#[44, 32, 99, 111, 108, 117, 109, 110, 32]⟩ : ByteArray) ++ tC ++ (⟨#[58, 32]⟩ : ByteArray) ++ ((⟨#[101, 114, 114, 111, 114, 32]⟩ : ByteArray) ++ t2) = S (tell s.data.toList d)) := ⟨by
      rw [hErr.out, hT.out, ← htL, ← htC]
      have e1 : (⟨#[108, 105, 110, 101, 32]⟩ : ByteArray) = S [108, 105, 110, 101, 32] := rfl
      have e2 : (⟨#[44, 32, 99, 111, 108, 117, 109, 110, 32]⟩ : ByteArray) = S [44, 32, 99, 111, 108, 117, 109, 110, 32] := rfl
      have e3 : (⟨#[58, 32]⟩ : ByteArray) = S [58, 32] := rfl
      rw [e1, e2, e3, S_append, S_append, S_append, S_append, S_append]; rfl⟩
    replace hw := Aside0.mk hw
    replace hIL := Aside0.mk hIL
    replace hIC := Aside0.mk hIC
    clear hlL hlC htL htC hat hin hd hd1
    have hq3 : (9223372036854775807 < 5 + tL.size) = False := eq_false (by omega)
    have hq4 : (9223372036854775807 < 5 + tL.size + 9) = False := eq_false (by omega)
    have hq5 : (9223372036854775807 < 5 + tL.size + 9 + tC.size) = False := eq_false (by omega)
    have hq6 : (9223372036854775807 < 5 + tL.size + 9 + tC.size + 2) = False := eq_false (by omega)
    have hq7 : (9223372036854775807 < 5 + tL.size + 9 + tC.size + 2 + (6 + t2.size)) = False := eq_false (by omega)
    rw [hn] at b0
    replace hn := Aside0.mk hn
    go_enter Tryd.func13, Tryd.ntmps13
    go_wp2_with fail
    refine (hI.out W0 HT0.out).mono ?_
    rintro e W1 ⟨rfl, hb1⟩
    have c0 := (hb1.cell (p := ⟨w.heap.size, 0, none⟩) (by have := hz0.out; show w.heap.size < _; omega)).trans b0
    have HT1 := Aside0.mk (HT0.out.below hb1)
    replace hb1 := Aside0.mk hb1
    clear b0 b1
    go_wp2_with fail
    refine (hw.out W1).mono ?_
    rintro e W2 ⟨rfl, hb2⟩
    have HT2 := Aside0.mk (HT1.out.below hb2)
    replace hb2 := Aside0.mk hb2
    go_wp2_with fail
    refine (hIL.out W2 HT2.out).mono ?_
    rintro e W3 ⟨rfl, hb3⟩
    have HT3 := Aside0.mk (HT2.out.below hb3)
    replace hb3 := Aside0.mk hb3
    go_wp2_with fail
    refine (hIC.out W3 HT3.out).mono ?_
    rintro e W4 ⟨rfl, hb4⟩
    replace hb4 := Aside0.mk hb4
    go_wp2
    go_ret
    have h1 : Below w.heap.size w W1 := hB0.out.trans (hb1.out.mono (by have := hz0.out; omega))
    have h2 := h1.trans (hb2.out.mono h1.size)
    have h3 := h2.trans (hb3.out.mono h2.size)
    have h4 := h3.trans (hb4.out.mono h3.size)
    exact ⟨by rw [← hAll.out]; rfl, h4⟩
  · have hT : Aside0 (tell s.data.toList d = errT d.2) := ⟨by
      unfold tell
      rw [if_neg (show ¬ (0 ≤ d.1 ∧ d.1 ≤ (s.data.toList.length : Int)) from hin)]⟩
    have hw : ∀ W, Calls Tryd.prog 28 #[.string s, .int .i64 d.1] W fun e w' => e = .returned (.tuple #[.int .i64 0, .int .i64 0, .int .i64 10]) ∧ Below W.heap.size W w' := fun W => by
      refine cursor_Where.calls s d.1 0 0 10 W ?_
      unfold cursor_Where.f
      rw [if_pos (by omega), if_pos (by omega)]
    replace hw := Aside0.mk hw
    clear hin hd hd1
    go_enter Tryd.func13, Tryd.ntmps13
    go_wp2_with fail
    refine (hI.out W0 HT0.out).mono ?_
    rintro e W1 ⟨rfl, hb1⟩
    have c0 := (hb1.cell (p := ⟨w.heap.size, 0, none⟩) (by have := hz0.out; show w.heap.size < _; omega)).trans b0
    replace hb1 := Aside0.mk hb1
    clear b0 b1
    go_wp2_with fail
    refine (hw.out W1).mono ?_
    rintro e W2 ⟨rfl, hb2⟩
    replace hb2 := Aside0.mk hb2
    go_wp2
    go_ret
    have h1 : Below w.heap.size w W1 := hB0.out.trans (hb1.out.mono (by have := hz0.out; omega))
    have h2 := h1.trans (hb2.out.mono h1.size)
    exact ⟨by rw [hT.out, ← hErr.out]; rfl, h2⟩
def diag_Tell.f (a0 : ByteArray) (a1_0 a1_1 : Int) : Option ByteArray := if a0.size ≤ 1000000000 ∧ wf64 a1_0 ∧ wf64 a1_1 then some (S (tell a0.data.toList (a1_0, a1_1))) else none
theorem diag_Tell.calls (a0 : ByteArray) (a1_0 a1_1 : Int) (r : ByteArray) (w : World) (HT : Tab w) (h : diag_Tell.f a0 a1_0 a1_1 = some r) :
    Calls Tryd.prog 13 #[.string a0, .agg #[.int .i64 a1_0, .int .i64 a1_1]] w fun e w' => e = .returned (.string r) ∧ Below w.heap.size w w' := by
  unfold diag_Tell.f at h
  split at h
  · rename_i hs
    obtain rfl := Option.some.inj h
    exact tell_walk a0 (a1_0, a1_1) w HT hs.1 hs.2.2 hs.2.1
  · exact absurd h (by simp)
end Go.Proofs.YtgphciopondlaaaDoor
