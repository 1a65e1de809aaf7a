/- Key of words, walked by hand. Conditions: texts of at most 140737488351232 bytes. -/
import Derived.Test.YtbbkchifbinioaaDoorGivenB
import Derived.Lib.IndexLaws
import Derived.BigQuiet
import Derived.RangeFuncRecord
import Derived.Laws.BitsLemmas
namespace Go.Proofs.YtbbkchifbinioaaDoor
set_option linter.unusedVariables false
set_option linter.unusedSimpArgs false
open Go.RowKit Go.Proofs.YtbbkchifbinioaaDoor.PAll Go.Proofs.YtbbkchifbinioaaDoorW.PrintWords Go.Proofs.YtbbkchifbinioaaDoorW.PrintLast Go.Proofs.YtbbkchifbinioaaDoorW.PrintMore

theorem S_ext {a b : ByteArray} (h : a.data.toList = b.data.toList) : a = b := by rw [← S_of a, ← S_of b, h]
theorem k64 (n : Int) (h0 : -9223372036854775808 ≤ n) (h1 : n ≤ 9223372036854775807) : IntKind.i64.wrap n = n := by rw [IntKind.wrap_i64]; omega
theorem not_mem_of {l : List UInt8} {c : UInt8} (h : ∀ k : Nat, l[k]? ≠ some c) : c ∉ l := fun hm => by
  obtain ⟨k, hk, e⟩ := List.getElem_of_mem hm
  exact h k (by rw [List.getElem?_eq_getElem hk, e])
theorem grown_drewN (w : World) (n : Nat) (row : Option Nat) : w.grownBy (w.drewN n) row := ⟨rfl, rfl, rfl, Nat.le_refl _, fun _ _ _ => rfl⟩
theorem grown_trans {a b c : World} (h : a.grownBy b none) (k : b.grownBy c none) : a.grownBy c none :=
  ⟨k.os.trans h.os, k.tape.trans h.tape, k.output.trans h.output, Nat.le_trans h.size k.size, fun j hj _ => (k.block j (Nat.lt_of_lt_of_le hj h.size) (by simp)).trans (h.block j hj (by simp))⟩

/-! Cut. -/
set_option maxHeartbeats 1000000 in
theorem sl_cut_walk (s : ByteArray) (t r : List UInt8) (is : Bool) (h : s.data.toList = if is then t ++ 58 :: r else t) (ht : (58 : UInt8) ∉ t) (hr : is = false → r = []) (hs : s.size ≤ 140737488351232) (w : World) :
    Calls Tryd.prog 39 #[.string s, .string ⟨#[58]⟩] w fun e w' => e = .returned (.tuple #[.string (S t), .string (S r), .bool is]) ∧ w.grownBy w' none ∧ w'.heap = w.heap := by
  have hcon : ∀ W, Calls Tryd.prog 47 #[.string s, .string ⟨#[58]⟩] W (fun e w' => e = .returned (.int .i64 (Lib.indexByte s.data.toList 58)) ∧ w' = W) := fun W => Any.stringslite_Index_one Tryd.lays219 s 58 W
  cases is with
  | true =>
    simp only [if_true] at h
    have hi : Lib.indexByte s.data.toList 58 = (t.length : Int) := by
      have ge := Lib.indexByte_ge s.data.toList 58
      by_cases e : Lib.indexByte s.data.toList 58 = -1
      · exact absurd (by rw [h]; simp) (not_mem_of (Lib.indexByte_none e))
      · obtain ⟨o, ho⟩ := Int.eq_ofNat_of_zero_le (show 0 ≤ Lib.indexByte s.data.toList 58 by omega)
        have := Lib.indexByte_some ho
        rw [ho]
        rcases Nat.lt_trichotomy o t.length with hlt | heq | hgt
        · exfalso
          rw [h, List.getElem?_append_left hlt] at this
          exact ht (List.mem_of_getElem? this.1)
        · rw [heq]
        · exfalso
          refine this.2 t.length hgt ?_
          simp [h]
    have hl : s.size = t.length + 1 + r.length := by rw [← size_len, h]; simp; omega
    rw [hi] at hcon
    have e1 : s.extract 0 t.length = S t := S_ext (by rw [ext_data, h, S_data]; simp)
    have e2 : s.extract (t.length + 1) s.size = S r := S_ext (by rw [ext_data, h, S_data, hl]; simp)
    obtain ⟨n, hn⟩ : ∃ n, t.length = n := ⟨_, rfl⟩
    rw [hn] at hcon e1 e2 hl
    have b1 : ((n : Int) ≤ (s.size : Int)) = True := eq_true (by omega)
    have b2 : ((n : Int) + 1 ≤ (s.size : Int)) = True := eq_true (by omega)
    have b3 : (0 ≤ (n : Int) + 1) = True := eq_true (by omega)
    have b4 : ((n : Int) + 1).toNat = n + 1 := by omega
    have hl2 : n + 1 + r.length = s.size := by omega
    replace hl2 := Aside0.mk hl2
    replace hcon := Aside0.mk hcon
    replace e1 := Aside0.mk e1
    replace e2 := Aside0.mk e2
    clear h hi ht hr
    go_enter Tryd.func39, Tryd.ntmps39
    go_wp2_with (go_at_call 47; refine (hcon.out _).mono ?_; rintro e w' ⟨rfl, rfl⟩)
    go_quiet (fail)
    go_wp2
    go_ret3
    refine ⟨?_, grown_drewN _ _ _, rfl⟩
    rw [e1.out, hl2.out, e2.out]
    rfl
  | false =>
    obtain rfl := hr rfl
    simp only [Bool.false_eq_true, if_false] at h
    have hi : Lib.indexByte s.data.toList 58 = -1 := by
      have ge := Lib.indexByte_ge s.data.toList 58
      by_cases e : Lib.indexByte s.data.toList 58 = -1
      · exact e
      · obtain ⟨o, ho⟩ := Int.eq_ofNat_of_zero_le (show 0 ≤ Lib.indexByte s.data.toList 58 by omega)
        have := Lib.indexByte_some ho
        rw [h] at this
        exact absurd (List.mem_of_getElem? this.1) ht
    rw [hi] at hcon
    have e1 : s = S t := S_ext (by rw [h, S_data])
    replace hcon := Aside0.mk hcon
    replace e1 := Aside0.mk e1
    clear h hi ht hr
    go_enter Tryd.func39, Tryd.ntmps39
    go_wp2_with (go_at_call 47; refine (hcon.out _).mono ?_; rintro e w' ⟨rfl, rfl⟩)
    go_ret3
    refine ⟨?_, grown_drewN _ 0 _, rfl⟩
    rw [← e1.out]
    rfl

set_option maxHeartbeats 1000000 in
theorem cut_walk (s : ByteArray) (t r : List UInt8) (is : Bool) (h : s.data.toList = if is then t ++ 58 :: r else t) (ht : (58 : UInt8) ∉ t) (hr : is = false → r = []) (hs : s.size ≤ 140737488351232) (w : World) :
    Calls Tryd.prog 26 #[.string s, .string ⟨#[58]⟩] w fun e w' => e = .returned (.tuple #[.string (S t), .string (S r), .bool is]) ∧ w.grownBy w' none ∧ w'.heap = w.heap := by
  have hcon := fun W => sl_cut_walk s t r is h ht hr hs W
  replace hcon := Aside0.mk hcon
  clear h ht hr
  go_enter Tryd.func26, Tryd.ntmps26
  go_wp2_with (go_at_call 39; refine (hcon.out _).mono ?_; rintro e w' ⟨rfl, hg, hh⟩)
  go_ret3
  exact ⟨rfl, hg, hh⟩


/-! places. -/
set_option maxHeartbeats 1000000 in
theorem places_walk (s : ByteArray) (a b : Int) (w : World) : Calls Tryd.prog 25 #[.string s, .int .i64 a, .int .i64 b] w fun e w' => e = .returned (.bool (decide (0 ≤ a ∧ a ≤ b ∧ b ≤ (s.size : Int)))) ∧ w' = w := by
  by_cases h1 : 0 ≤ a
  · by_cases h2 : a ≤ b
    · by_cases h3 : b ≤ (s.size : Int)
      · rw [decide_eq_true ⟨h1, h2, h3⟩]
        go_enter Tryd.func25, Tryd.ntmps25
        go_wp2
        go_ret
        exact ⟨rfl, rfl⟩
      · rw [decide_eq_false (by omega)]
        have h3' : (s.size : Int) < b := by omega
        go_enter Tryd.func25, Tryd.ntmps25
        go_wp2
        go_ret
        exact ⟨rfl, rfl⟩
    · rw [decide_eq_false (by omega)]
      have h2' : b < a := by omega
      go_enter Tryd.func25, Tryd.ntmps25
      go_wp2
      go_ret
      exact ⟨rfl, rfl⟩
  · rw [decide_eq_false (by omega)]
    have h1' : a < 0 := by omega
    go_enter Tryd.func25, Tryd.ntmps25
    go_wp2
    go_ret
    exact ⟨rfl, rfl⟩

/-! Trims. -/
theorem cls : ∀ c : UInt8, ([32, 9] : List UInt8).contains c = Wd.isB c := fun c => by rw [Bool.eq_iff_iff]; simp [Wd.isB]
theorem trim_calls (s : ByteArray) (hs : s.size ≤ 140737488351232) (w : World) : Calls Tryd.prog 27 #[.string s, .string ⟨#[32, 9]⟩] w fun e w' => e = .returned (.string (S (Wd.tB s.data.toList))) ∧ Below w.heap.size w w' := by
  have h := Any.strings_Trim_laid Tryd.lays160 (by kernel_rfl) s ⟨#[32, 9]⟩ w (by omega) (by decide) (ascii_of_all (by decide))
  have e : Lib.trimS s.data.toList [32, 9] = Wd.tB s.data.toList := by
    unfold Lib.trimS Lib.trimLeftS Lib.trimRightS Wd.tB Wd.tL Wd.tR
    simp only [cls]
  rw [← e]; exact h
theorem trimLeft_calls (s : ByteArray) (w : World) : Calls Tryd.prog 30 #[.string s, .string ⟨#[32, 9]⟩] w fun e w' => e = .returned (.string (S (Wd.tL s.data.toList))) ∧ Below w.heap.size w w' := by
  have h := Any.strings_TrimLeft_laid Tryd.lays161 (by kernel_rfl) s ⟨#[32, 9]⟩ w (by decide) (ascii_of_all (by decide))
  have e : Lib.trimLeftS s.data.toList [32, 9] = Wd.tL s.data.toList := by
    unfold Lib.trimLeftS Wd.tL
    simp only [cls]
  rw [← e]; exact h
theorem trimRight_calls (s : ByteArray) (hs : s.size ≤ 140737488351232) (w : World) : Calls Tryd.prog 31 #[.string s, .string ⟨#[32, 9]⟩] w fun e w' => e = .returned (.string (S (Wd.tR s.data.toList))) ∧ Below w.heap.size w w' := by
  have h := Any.strings_TrimRight_laid Tryd.lays162 (by kernel_rfl) s ⟨#[32, 9]⟩ w (by omega) (by decide) (ascii_of_all (by decide))
  have e : Lib.trimRightS s.data.toList [32, 9] = Wd.tR s.data.toList := by
    unfold Lib.trimRightS Wd.tR
    simp only [cls]
  rw [← e]; exact h
/-- A box that holds a word. -/
def BoxW (W : World) (B : Nat) (x y : Nat) : Prop := W.heap[B]? = some (.cells #[.int .i64 x, .int .i64 y] 24 (0, 0))
theorem BoxW.lt {W : World} {B x y : Nat} (h : BoxW W B x y) : B < W.heap.size := (Array.getElem?_eq_some_iff.1 h).1
theorem BoxW.below {W W' : World} {B x y : Nat} (h : BoxW W B x y) (hb : Below W.heap.size W W') : BoxW W' B x y := (hb.block B h.lt).trans h
theorem BoxW.new (W : World) (x y : Nat) : BoxW (W.alloc (.cells #[.int .i64 x, .int .i64 y] 24)) W.heap.size x y := World.alloc_heap_new W _
theorem BoxW.alloc {W : World} {B x y : Nat} (h : BoxW W B x y) (o : Obj) : BoxW (W.alloc o) B x y := (Below.heap_alloc W o B h.lt).trans h
theorem BoxW.facts {W : World} {B x y : Nat} (h : BoxW W B x y) : W.cell? ⟨B, 0, none⟩ = some (.int .i64 x) ∧ W.cell? ⟨B, 1, none⟩ = some (.int .i64 y) ∧ W.frozen? ⟨B, 0, none⟩ = false ∧ W.frozen? ⟨B, 1, none⟩ = false := by
  unfold BoxW at h
  refine ⟨?_, ?_, ?_, ?_⟩ <;> simp [World.cell?, World.frozen?, h]
theorem BoxW.set {W : World} {B x y : Nat} (h : BoxW W B x y) (p q : Value) : ((W.setCell ⟨B, 0, none⟩ p).setCell ⟨B, 1, none⟩ q).cell? ⟨B, 0, none⟩ = some p ∧ ((W.setCell ⟨B, 0, none⟩ p).setCell ⟨B, 1, none⟩ q).cell? ⟨B, 1, none⟩ = some q := by
  obtain ⟨f0, f1, _, _⟩ := h.facts
  refine ⟨?_, ?_⟩
  · rw [World.cell?_setCell_other _ _ _ _ (by intro h; injection h with _ h2; cases h2), World.cell?_setCell_same' _ _ _ (by rw [f0]; rfl)]
  · rw [World.cell?_setCell_same' _ _ _ (by rw [World.cell?_setCell_other _ _ _ _ (by intro h; injection h with _ h2; cases h2), f1]; rfl)]
theorem key_ret {R : Ending → World → Prop} {ts : Array Value} {W : World} {B : Nat} {k : ByteArray} {x y : Int} {is : Bool} (h0 : W.cell? ⟨B, 0, none⟩ = some (.int .i64 x)) (h1 : W.cell? ⟨B, 1, none⟩ = some (.int .i64 y))
    (h6 : ts.getD 6 undef = .string k) (h7 : ts.getD 7 undef = .pointer (some ⟨B, 0, none⟩)) (h8 : ts.getD 8 undef = .bool is) (hR : R (.returned (.tuple #[.string k, .agg #[.int .i64 x, .int .i64 y], .bool is])) W) :
    bodyPost Tryd.prog Tryd.f11 R Exit.ret { tmps := ts, defers := [] } W := by
  refine bodyPost_ret (v := .tuple #[.string k, .agg #[.int .i64 x, .int .i64 y], .bool is]) ?_ rfl hR
  simp only [Array.getD_eq_getD_getElem?] at h6 h7 h8
  simp [results, Tryd.f11, go_sem, h0, h1, h6, h7, h8]
set_option maxRecDepth 100000 in
set_option maxHeartbeats 2000000 in
theorem key_walk (s : ByteArray) (a b : Nat) (hab : a ≤ b) (hbs : b ≤ s.size) (hs : s.size ≤ 140737488351232) (w : World) :
    Calls Tryd.prog 11 #[.string s, .int .i64 a, .int .i64 b] w fun e w' => e = .returned (.tuple #[.string (S (Wd.key s.data.toList a b).1), .agg #[.int .i64 (Wd.key s.data.toList a b).2.1, .int .i64 (Wd.key s.data.toList a b).2.2.1], .bool (Wd.key s.data.toList a b).2.2.2]) ∧ Below w.heap.size w w' := by
  have hpl : Aside0 (∀ W, Calls Tryd.prog 25 #[.string s, .int .i64 a, .int .i64 b] W fun e w' => e = .returned (.bool true) ∧ w' = W) := ⟨fun W => by
    have := places_walk s a b W
    rwa [decide_eq_true (by omega)] at this⟩
  have hpart : (s.extract a b).data.toList = Wd.part s.data.toList a b := by rw [ext_data]; rfl
  obtain ⟨t, r, is, ht, hd, hr⟩ : ∃ t r is, (58 : UInt8) ∉ t ∧ Wd.part s.data.toList a b = (if is = true then t ++ 58 :: r else t) ∧ (is = false → r = []) := by
    rcases Wd.split58 (Wd.part s.data.toList a b) with h | ⟨t, r, h, ht⟩
    · exact ⟨_, [], false, h, by simp, fun _ => rfl⟩
    · exact ⟨t, r, true, ht, by simp [h], fun h => by cases h⟩
  have hkey : Wd.key s.data.toList a b = if Wd.okName Wd.cap (Wd.tB t) = true then (Wd.tB t, (Wd.value b r).1, (Wd.value b r).2, true) else ([], 0, 0, false) := by
    unfold Wd.key
    rw [hd, Wd.cutK_of t r is ht hr]
  have hplen : (Wd.part s.data.toList a b).length ≤ b := by
    unfold Wd.part; rw [List.length_take]; omega
  have htl : t.length ≤ b ∧ r.length ≤ b := by
    rw [hd] at hplen
    cases is with
    | true => simp at hplen; omega
    | false => rw [hr rfl]; simp at hplen ⊢; omega
  have hcut : Aside0 (∀ W, Calls Tryd.prog 26 #[.string (s.extract a b), .string ⟨#[58]⟩] W fun e w' => e = .returned (.tuple #[.string (S t), .string (S r), .bool is]) ∧ W.grownBy w' none ∧ w'.heap = W.heap) := ⟨fun W => cut_walk _ t r is (by rw [hpart]; exact hd) ht hr (by rw [ByteArray.size_extract]; omega) W⟩
  have htr : Aside0 (∀ W, Calls Tryd.prog 27 #[.string (S t), .string ⟨#[32, 9]⟩] W fun e w' => e = .returned (.string (S (Wd.tB t))) ∧ Below W.heap.size W w') := ⟨fun W => by
    have := trim_calls (S t) (by rw [S_size]; omega) W
    rwa [S_data] at this⟩
  have htB : (Wd.tB t).length ≤ b := Nat.le_trans (Nat.le_trans (Wd.tL_len _) (Wd.tR_len _)) htl.1
  have hall : Aside0 (∀ W, Calls Tryd.prog 28 #[.string (S (Wd.tB t)), .func (.func 29) #[] #[]] W fun e w' => e = .returned (.bool (Wd.okName Wd.cap (Wd.tB t))) ∧ Below W.heap.size W w') := ⟨fun W => by
    have := all_cap (S (Wd.tB t)) (by rw [S_size]; omega) W
    rwa [S_data] at this⟩
  have hlf : Aside0 (∀ W, Calls Tryd.prog 30 #[.string (S r), .string ⟨#[32, 9]⟩] W fun e w' => e = .returned (.string (S (Wd.tL r))) ∧ Below W.heap.size W w') := ⟨fun W => by
    have := trimLeft_calls (S r) W
    rwa [S_data] at this⟩
  have hll : (Wd.tL r).length ≤ b := Nat.le_trans (Wd.tL_len _) htl.2
  have hrt : Aside0 (∀ W, Calls Tryd.prog 31 #[.string (S (Wd.tL r)), .string ⟨#[32, 9]⟩] W fun e w' => e = .returned (.string (S (Wd.tR (Wd.tL r)))) ∧ Below W.heap.size W w') := ⟨fun W => by
    have := trimRight_calls (S (Wd.tL r)) (by rw [S_size]; omega) W
    rwa [S_data] at this⟩
  have hrl : (Wd.tR (Wd.tL r)).length ≤ (Wd.tL r).length := Wd.tR_len _
  have hval : Aside0 (Wd.value b r = if Wd.tL r = [] then (b, b) else (b - (Wd.tL r).length, b - (Wd.tL r).length + (Wd.tR (Wd.tL r)).length)) := ⟨rfl⟩
  have hb1 : ((a : Int) ≤ (b : Int)) = True := eq_true (by omega)
  have hb2 : ((b : Int) ≤ (s.size : Int)) = True := eq_true (by omega)
  obtain ⟨U, hU⟩ : ∃ U, S t = U := ⟨_, rfl⟩
  obtain ⟨V, hV⟩ : ∃ V, S r = V := ⟨_, rfl⟩
  obtain ⟨kt, hkt⟩ : ∃ kt, Wd.tB t = kt := ⟨_, rfl⟩
  obtain ⟨lf, hlfe⟩ : ∃ lf, Wd.tL r = lf := ⟨_, rfl⟩
  obtain ⟨rt, hrte⟩ : ∃ rt, Wd.tR lf = rt := ⟨_, rfl⟩
  rw [hlfe] at hlf hrt hval hll hrl
  rw [hrte] at hrt hval hrl
  rw [hkt] at htr hall hkey htB
  rw [hU] at hcut htr
  rw [hV] at hcut hlf
  clear hU hV hkt hlfe hrte hd hr ht hpart hplen
  have hZ : (S lf).size = lf.length := S_size _
  have hZ2 : (S rt).size = rt.length := S_size _
  obtain ⟨LF, hLF⟩ : ∃ L, S lf = L := ⟨_, rfl⟩
  obtain ⟨RT, hRT⟩ : ∃ L, S rt = L := ⟨_, rfl⟩
  obtain ⟨KT, hKT⟩ : ∃ L, S kt = L := ⟨_, rfl⟩
  rw [hLF] at hlf hrt hZ
  rw [hRT] at hrt hZ2
  rw [hKT] at htr hall
  obtain ⟨ok, hok⟩ : ∃ ok, Wd.okName Wd.cap kt = ok := ⟨_, rfl⟩
  rw [hok] at hkey hall
  have hLe : LF.toList = lf := by rw [← hLF, ByteArray.toList_eq, S_data]
  replace hKT := Aside0.mk hKT
  replace hkey := Aside0.mk hkey
  clear hLF hRT hok
  cases ok with
  | false =>
    have hkey2 : Aside0 (Wd.key s.data.toList a b = ([], 0, 0, false)) := ⟨by rw [hkey.out, if_neg (by simp)]⟩
    go_enter Tryd.func11, Tryd.ntmps11
    go_wp2_with (first | (go_at_call 25; refine (hpl.out _).mono ?_; rintro e w' ⟨rfl, rfl⟩) | (go_at_call 26; refine (hcut.out _).mono ?_; rintro e w2 ⟨rfl, hg2, hh2⟩; have X2 : BoxW w2 w.heap.size 0 0 := by unfold BoxW; rw [hh2]; exact World.alloc_heap_new w _) | (go_at_call 27; refine (htr.out _).mono ?_; rintro e w3 ⟨rfl, hb3⟩; have X3 := X2.below hb3) | (go_at_call 28; refine (hall.out _).mono ?_; rintro e w4 ⟨rfl, hb4⟩; have X4 := X3.below hb4; obtain ⟨x40, x41, x42, x43⟩ := X4.facts))
    have hZ := X4.set (.int .i64 0) (.int .i64 0)
    refine key_ret hZ.1 hZ.2 rfl rfl rfl ⟨by rw [hkey2.out]; rfl, ?_⟩
    have hB2 : Below w.heap.size w w2 := ⟨hg2.os, hg2.tape, hg2.output, by rw [hh2]; simp, fun j hj => by rw [hh2]; exact Below.heap_alloc w _ j hj⟩
    exact (((hB2.trans (hb3.mono hB2.size)).trans (hb4.mono (Nat.le_trans hB2.size hb3.size))).setCell (p := ⟨w.heap.size, 0, none⟩) (Nat.le_refl _) _).setCell (p := ⟨w.heap.size, 1, none⟩) (Nat.le_refl _) _
  | true =>
    by_cases hl : lf = []
    · have hkey2 : Aside0 (Wd.key s.data.toList a b = (kt, b, b, true)) := ⟨by rw [hkey.out, if_pos rfl, hval.out, if_pos hl]⟩
      rw [hl] at hLe
      go_enter Tryd.func11, Tryd.ntmps11
      go_wp2_with (first | (go_at_call 25; refine (hpl.out _).mono ?_; rintro e w' ⟨rfl, rfl⟩) | (go_at_call 26; refine (hcut.out _).mono ?_; rintro e w2 ⟨rfl, hg2, hh2⟩; have X2 : BoxW w2 w.heap.size 0 0 := by unfold BoxW; rw [hh2]; exact World.alloc_heap_new w _) | (go_at_call 27; refine (htr.out _).mono ?_; rintro e w3 ⟨rfl, hb3⟩; have X3 := X2.below hb3) | (go_at_call 28; refine (hall.out _).mono ?_; rintro e w4 ⟨rfl, hb4⟩; have X4 := X3.below hb4; obtain ⟨x40, x41, x42, x43⟩ := X4.facts) | (go_at_call 30; refine (hlf.out _).mono ?_; rintro e w5 ⟨rfl, hb5⟩; have X5 := (X4.alloc _).below hb5; obtain ⟨x50, x51, x52, x53⟩ := X5.facts; have Y5 := (BoxW.new w4 b b).below hb5; obtain ⟨y50, y51, y52, y53⟩ := Y5.facts))
      go_region
      all_goals go_wp2
      have hZ := X5.set (.int .i64 b) (.int .i64 b)
      have hB2 : Below w.heap.size w w2 := ⟨hg2.os, hg2.tape, hg2.output, by rw [hh2]; simp, fun j hj => by rw [hh2]; exact Below.heap_alloc w _ j hj⟩
      have hB4 : Below w.heap.size w w4 := (hB2.trans (hb3.mono hB2.size)).trans (hb4.mono (Nat.le_trans hB2.size hb3.size))
      have hB5 : Below w.heap.size w w5 := (hB4.alloc hB4.size _).trans (hb5.mono (by have := hB4.size; simp; omega))
      refine key_ret hZ.1 hZ.2 rfl rfl rfl ⟨by rw [hkey2.out, ← hKT.out], ?_⟩
      exact ((hB5.setCell (p := ⟨w.heap.size, 0, none⟩) (Nat.le_refl _) _).setCell (p := ⟨w.heap.size, 1, none⟩) (Nat.le_refl _) _).drew
    · have hkey2 : Aside0 (Wd.key s.data.toList a b = (kt, b - lf.length, b - lf.length + rt.length, true)) := ⟨by rw [hkey.out, if_pos rfl, hval.out, if_neg hl]⟩
      have hLe2 : (LF.toList = []) = False := eq_false (by rw [hLe]; exact hl)
      have hLe3 : LF.toList.isEmpty = false := by rw [hLe, List.isEmpty_eq_false_iff]; exact hl
      clear hLe
      go_enter Tryd.func11, Tryd.ntmps11
      go_wp2_with (first | (go_at_call 25; refine (hpl.out _).mono ?_; rintro e w' ⟨rfl, rfl⟩) | (go_at_call 26; refine (hcut.out _).mono ?_; rintro e w2 ⟨rfl, hg2, hh2⟩; have X2 : BoxW w2 w.heap.size 0 0 := by unfold BoxW; rw [hh2]; exact World.alloc_heap_new w _) | (go_at_call 27; refine (htr.out _).mono ?_; rintro e w3 ⟨rfl, hb3⟩; have X3 := X2.below hb3) | (go_at_call 28; refine (hall.out _).mono ?_; rintro e w4 ⟨rfl, hb4⟩; have X4 := X3.below hb4; obtain ⟨x40, x41, x42, x43⟩ := X4.facts) | (go_at_call 30; refine (hlf.out _).mono ?_; rintro e w5 ⟨rfl, hb5⟩; have X5 := (X4.alloc _).below hb5; have Y5 := (BoxW.new w4 b b).below hb5) | (go_at_call 31; refine (hrt.out _).mono ?_; rintro e w6 ⟨rfl, hb6⟩; have X6 := X5.below hb6; obtain ⟨x60, x61, x62, x63⟩ := X6.facts; have Y6 := Y5.below hb6; obtain ⟨y60, y61, y62, y63⟩ := Y6.facts))
      obtain ⟨W7, hW7⟩ : ∃ W7, ((w6.setCell ⟨w4.heap.size, 0, none⟩ (.int .i64 ((b : Int) - (lf.length : Int)))).setCell ⟨w4.heap.size, 1, none⟩ (.int .i64 ((b : Int) - (lf.length : Int) + (rt.length : Int)))) = W7 := ⟨_, rfl⟩
      rw [hW7]
      have hB2 : Below w.heap.size w w2 := ⟨hg2.os, hg2.tape, hg2.output, by rw [hh2]; simp, fun j hj => by rw [hh2]; exact Below.heap_alloc w _ j hj⟩
      have hB4 : Below w.heap.size w w4 := (hB2.trans (hb3.mono hB2.size)).trans (hb4.mono (Nat.le_trans hB2.size hb3.size))
      have hB5 : Below w.heap.size w w5 := (hB4.alloc hB4.size _).trans (hb5.mono (by have := hB4.size; simp; omega))
      have hB6 : Below w.heap.size w w6 := hB5.trans (hb6.mono hB5.size)
      have hlt4 : w.heap.size < w4.heap.size := X4.lt
      have hB7 : Below w.heap.size w W7 := by
        rw [← hW7]
        exact (hB6.setCell (p := ⟨w4.heap.size, 0, none⟩) hB4.size _).setCell (p := ⟨w4.heap.size, 1, none⟩) hB4.size _
      have X7 : BoxW W7 w.heap.size 0 0 := by
        rw [← hW7]
        unfold BoxW
        rw [Below.heap_setCell _ _ _ _ (by show w.heap.size ≠ w4.heap.size; omega), Below.heap_setCell _ _ _ _ (by show w.heap.size ≠ w4.heap.size; omega)]
        exact X6
      have Y7 := Y6.set (.int .i64 ((b : Int) - (lf.length : Int))) (.int .i64 ((b : Int) - (lf.length : Int) + (rt.length : Int)))
      rw [hW7] at Y7
      clear hW7
      obtain ⟨z0, z1⟩ := Y7
      obtain ⟨x70, x71, x72, x73⟩ := X7.facts
      go_region
      all_goals go_wp2
      have hZ := X7.set (.int .i64 ((b : Int) - (lf.length : Int))) (.int .i64 ((b : Int) - (lf.length : Int) + (rt.length : Int)))
      refine key_ret hZ.1 hZ.2 rfl rfl rfl ⟨?_, ?_⟩
      · rw [hkey2.out, ← hKT.out]
        show Ending.returned (.tuple #[.string (S kt), .agg #[.int .i64 ((b : Int) - (lf.length : Int)), .int .i64 ((b : Int) - (lf.length : Int) + (rt.length : Int))], .bool true]) = .returned (.tuple #[.string (S kt), .agg #[.int .i64 ((b - lf.length : Nat) : Int), .int .i64 ((b - lf.length + rt.length : Nat) : Int)], .bool true])
        rw [show ((b - lf.length : Nat) : Int) = (b : Int) - (lf.length : Int) by omega, show ((b - lf.length + rt.length : Nat) : Int) = (b : Int) - (lf.length : Int) + (rt.length : Int) by omega]
      · exact ((hB7.setCell (p := ⟨w.heap.size, 0, none⟩) (Nat.le_refl _) _).setCell (p := ⟨w.heap.size, 1, none⟩) (Nat.le_refl _) _).drew

set_option maxHeartbeats 2000000 in
theorem key_not (s : ByteArray) (a b : Int) (h : ¬ (0 ≤ a ∧ a ≤ b ∧ b ≤ (s.size : Int))) (w : World) :
    Calls Tryd.prog 11 #[.string s, .int .i64 a, .int .i64 b] w fun e w' => e = .returned (.tuple #[.string ⟨#[]⟩, .agg #[.int .i64 0, .int .i64 0], .bool false]) ∧ Below w.heap.size w w' := by
  have hpl : Aside0 (∀ W, Calls Tryd.prog 25 #[.string s, .int .i64 a, .int .i64 b] W fun e w' => e = .returned (.bool false) ∧ w' = W) := ⟨fun W => by
    have := places_walk s a b W
    rwa [decide_eq_false h] at this⟩
  clear h
  go_enter Tryd.func11, Tryd.ntmps11
  go_wp2_with (go_at_call 25; refine (hpl.out _).mono ?_; rintro e w' ⟨rfl, rfl⟩)
  have hZ := (BoxW.new w 0 0).set (.int .i64 0) (.int .i64 0)
  refine key_ret (B := w.heap.size) ?_ ?_ rfl rfl rfl ⟨rfl, ?_⟩
  · first | exact hZ.1 | exact (BoxW.new w 0 0).facts.1
  · first | exact hZ.2 | exact (BoxW.new w 0 0).facts.2.1
  · first | exact (Below.refl _ _).alloc (Nat.le_refl _) _ | exact (((Below.refl _ _).alloc (Nat.le_refl _) _).setCell (p := ⟨w.heap.size, 0, none⟩) (Nat.le_refl _) _).setCell (p := ⟨w.heap.size, 1, none⟩) (Nat.le_refl _) _
def words_Key.f (a0 : ByteArray) (a1 a2 : Int) : Option (ByteArray × Int × Int × Bool) :=
  if a0.size ≤ 140737488351232 then some (if 0 ≤ a1 ∧ a1 ≤ a2 ∧ a2 ≤ (a0.size : Int) then (S (Wd.key a0.data.toList a1.toNat a2.toNat).1, ((Wd.key a0.data.toList a1.toNat a2.toNat).2.1 : Int), ((Wd.key a0.data.toList a1.toNat a2.toNat).2.2.1 : Int), (Wd.key a0.data.toList a1.toNat a2.toNat).2.2.2) else (⟨#[]⟩, 0, 0, false)) else none
theorem words_Key.calls (a0 : ByteArray) (a1 a2 : Int) (r1 : ByteArray) (r2 r3 : Int) (r4 : Bool) (w : World) (h : words_Key.f a0 a1 a2 = some (r1, r2, r3, r4)) :
    Calls Tryd.prog 11 #[.string a0, .int .i64 a1, .int .i64 a2] w fun e w' => e = .returned (.tuple #[.string r1, .agg #[.int .i64 r2, .int .i64 r3], .bool r4]) ∧ Below w.heap.size w w' := by
  unfold words_Key.f at h
  split at h
  · rename_i hs
    by_cases hp : 0 ≤ a1 ∧ a1 ≤ a2 ∧ a2 ≤ (a0.size : Int)
    · rw [if_pos hp] at h
      simp only [Option.some.injEq, Prod.mk.injEq] at h
      obtain ⟨rfl, rfl, rfl, rfl⟩ := h
      obtain ⟨a, rfl⟩ := Int.eq_ofNat_of_zero_le hp.1
      obtain ⟨b, rfl⟩ := Int.eq_ofNat_of_zero_le (show 0 ≤ a2 by omega)
      rw [Int.toNat_natCast, Int.toNat_natCast]
      exact key_walk a0 a b (by omega) (by omega) hs w
    · rw [if_neg hp] at h
      simp only [Option.some.injEq, Prod.mk.injEq] at h
      obtain ⟨rfl, rfl, rfl, rfl⟩ := h
      exact key_not a0 a1 a2 hp w
  · exact absurd h (by simp)
end Go.Proofs.YtbbkchifbinioaaDoor
