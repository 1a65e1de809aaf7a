/- words: Name, walked by hand (turned from the seat of words). Conditions: texts of at most 140737488351232 bytes. -/
import Derived.Test.YtofklpphalalhaaGreatDoorUzJ1
import Derived.Test.YtofklpphalalhaaGreatDoorUzJ3
import Derived.Laws.RangeAny
import Derived.Lib.RuneCount
namespace Go.Proofs.YtofklpphalalhaaGreatDoor
set_option linter.unusedVariables false
set_option linter.unusedSimpArgs false
open Go.RowKit Go.Proofs.YtofklpphalalhaaGreatDoor.PAll Go.Proofs.YtofklpphalalhaaGreatDoorW.PrintWords Go.Proofs.YtofklpphalalhaaGreatDoorW.PrintLast Go.Proofs.YtofklpphalalhaaGreatDoorW.PrintMore
namespace Wd
def cap (n : Nat) : Bool := (65 ≤ n && n ≤ 90) || (48 ≤ n && n ≤ 57) || n == 95
def nam (n : Nat) : Bool := cap n || (97 ≤ n && n ≤ 122) || n == 46 || n == 45
def allOf (K : Nat → Bool) (l : List UInt8) : Bool := l.all (fun c => K c.toNat)
def okName (K : Nat → Bool) (l : List UInt8) : Bool := allOf K l && !l.isEmpty && decide (l.length ≤ 40)
end Wd
theorem size_len (s : ByteArray) : s.data.toList.length = s.size := rfl
/-! Runes, and bytes. -/
theorem get_data (s : ByteArray) (i : Nat) (h : i < s.size) : s.data.toList[i]? = some (s.get! i) := by
  have : s.get! i = s[i]'h := by
    have := get_at s i h
    rwa [Nat.add_zero] at this
  rw [this, List.getElem?_eq_getElem (by rw [size_len]; exact h)]; rfl
/-- A rune of several bytes: each is beyond ASCII. -/
theorem decode_bytes (s : ByteArray) (pos : Nat) (h : pos < s.size) (h0 : 128 ≤ (s.get! pos).toNat) : 1 ≤ (Utf8.decode s pos).2 ∧ 128 ≤ (Utf8.decode s pos).1 ∧
    ∀ j, j < (Utf8.decode s pos).2 → pos + j < s.size ∧ 128 ≤ (s.get! (pos + j)).toNat := by
  have h1 : s.get! (pos + 0) = s.get! pos := rfl
  have hb : ¬ (s.get! (pos + 0)).toNat < 128 := by rw [h1]; omega
  have ge : s[pos]'h = s.get! pos := by have := get_at s pos h; rw [← this, h1]
  have hh := decode_high s pos h (by rw [ge]; exact h0)
  refine ⟨hh.2, hh.1, ?_⟩
  have one : ∀ j, j < 1 → pos + j < s.size ∧ 128 ≤ (s.get! (pos + j)).toNat := fun j hj => by
    obtain rfl : j = 0 := by omega
    exact ⟨by omega, by rw [h1]; exact h0⟩
  unfold Utf8.decode
  simp only [hb, if_false]
  split
  · rename_i hc
    simp only [Bool.and_eq_true, decide_eq_true_eq, beq_iff_eq] at hc
    split
    · intro j hj
      rcases (show j = 0 ∨ j = 1 by simp at hj; omega) with rfl | rfl
      · exact one 0 (by omega)
      · exact ⟨hc.2.1, by omega⟩
    · exact one
  · split
    · rename_i hc
      simp only [Bool.and_eq_true, decide_eq_true_eq, beq_iff_eq] at hc
      split
      · intro j hj
        rcases (show j = 0 ∨ j = 1 ∨ j = 2 by simp at hj; omega) with rfl | rfl | rfl
        · exact one 0 (by omega)
        · exact ⟨hc.1.2.1, by omega⟩
        · exact ⟨hc.2.1, by omega⟩
      · exact one
    · split
      · rename_i hc
        simp only [Bool.and_eq_true, decide_eq_true_eq, beq_iff_eq] at hc
        split
        · intro j hj
          rcases (show j = 0 ∨ j = 1 ∨ j = 2 ∨ j = 3 by simp at hj; omega) with rfl | rfl | rfl | rfl
          · exact one 0 (by omega)
          · exact ⟨hc.1.1.2.1, by omega⟩
          · exact ⟨hc.1.2.1, by omega⟩
          · exact ⟨hc.2.1, by omega⟩
        · exact one
      · exact one
/-- One step of a range over a text: a byte of ASCII; or a rune beyond it, whose bytes are all beyond it. -/
theorem rune_step (u : ByteArray) (p : Nat) (hp : p < u.size) :
    (∃ c : UInt8, c.toNat < 128 ∧ u.data.toList[p]? = some c ∧ Utf8.decode u p = (c.toNat, 1)) ∨
    (∃ r w : Nat, Utf8.decode u p = (r, w) ∧ 128 ≤ r ∧ r ≤ 2147483647 ∧ 1 ≤ w ∧ p + w ≤ u.size ∧ ∀ j, j < w → ∃ c : UInt8, u.data.toList[p + j]? = some c ∧ 128 ≤ c.toNat) := by
  have ge : u[p]'hp = u.get! p := by have := get_at u p hp; rw [← this]; rfl
  by_cases hc : (u.get! p).toNat < 128
  · refine .inl ⟨u.get! p, hc, get_data u p hp, ?_⟩
    have hd := decode_ascii u p hp (by rw [ge]; exact hc)
    rw [ge] at hd
    exact hd
  · obtain ⟨d1, d2, d3⟩ := decode_bytes u p hp (by omega)
    refine .inr ⟨(Utf8.decode u p).1, (Utf8.decode u p).2, rfl, d2, decode_le u p, d1, ?_, fun j hj => ?_⟩
    · have := d3 ((Utf8.decode u p).2 - 1) (by omega); omega
    · have := d3 j hj
      exact ⟨_, get_data u (p + j) this.1, this.2⟩
/-! Classes of runes. -/
set_option maxHeartbeats 1000000 in
theorem within_walk (n a b : Nat) (w : World) : Calls Tryz.prog 222 #[.int .i32 (n : Int), .int .i32 (a : Int), .int .i32 (b : Int)] w fun e w' => e = .returned (.bool (decide (a ≤ n) && decide (n ≤ b))) ∧ w' = w := by
  by_cases h1 : (a : Int) ≤ (n : Int)
  · have h1' : decide (a ≤ n) = true := decide_eq_true (by omega)
    rw [h1', Bool.true_and]
    go_enter Tryz.func222, Tryz.ntmps222
    go_wp2
    go_ret
    exact ⟨rfl, rfl⟩
  · have h1' : decide (a ≤ n) = false := decide_eq_false (by omega)
    rw [h1', Bool.false_and]
    have h2 : (n : Int) < (a : Int) := by omega
    go_enter Tryz.func222, Tryz.ntmps222
    go_wp2
    go_ret
    exact ⟨rfl, rfl⟩
theorem eq_nat (a b : Nat) : ((a : Int) == (b : Int)) = (a == b) := by rw [Bool.eq_iff_iff]; simp; omega
set_option maxHeartbeats 1000000 in
theorem capital_walk (n : Nat) (w : World) : Calls Tryz.prog 221 #[.int .i32 (n : Int)] w fun e w' => e = .returned (.bool (Wd.cap n)) ∧ w' = w := by
  have c1 := fun W => within_walk n 65 90 W
  have c2 := fun W => within_walk n 48 57 W
  have c3 := eq_nat n 95
  unfold Wd.cap
  obtain ⟨b1, h1⟩ : ∃ b, (decide (65 ≤ n) && decide (n ≤ 90)) = b := ⟨_, rfl⟩
  obtain ⟨b2, h2⟩ : ∃ b, (decide (48 ≤ n) && decide (n ≤ 57)) = b := ⟨_, rfl⟩
  obtain ⟨b3, h3⟩ : ∃ b, (n == 95) = b := ⟨_, rfl⟩
  rw [h1] at c1
  rw [h2] at c2
  rw [h3] at c3
  rw [h1, h2, h3]
  have c3 : ((n : Int) == 95) = b3 := c3
  clear h1 h2 h3
  replace c1 := Aside0.mk c1
  replace c2 := Aside0.mk c2
  cases b1 with
  | true =>
    go_enter Tryz.func221, Tryz.ntmps221
    go_wp2_with (go_at_call 222; refine (c1.out _).mono ?_; clear c1; rintro e w' ⟨rfl, rfl⟩)
    go_ret
    exact ⟨rfl, rfl⟩
  | false =>
    cases b2 with
    | true =>
      go_enter Tryz.func221, Tryz.ntmps221
      go_wp2_with (go_at_call 222; (first | (refine (c1.out _).mono ?_; clear c1) | (refine (c2.out _).mono ?_; clear c2)); rintro e w' ⟨rfl, rfl⟩)
      go_ret
      exact ⟨rfl, rfl⟩
    | false =>
      go_enter Tryz.func221, Tryz.ntmps221
      go_wp2_with (go_at_call 222; (first | (refine (c1.out _).mono ?_; clear c1) | (refine (c2.out _).mono ?_; clear c2)); rintro e w' ⟨rfl, rfl⟩)
      go_ret
      exact ⟨by cases b3 <;> rfl, rfl⟩
set_option maxHeartbeats 1000000 in
theorem named_walk (n : Nat) (w : World) : Calls Tryz.prog 196 #[.int .i32 (n : Int)] w fun e w' => e = .returned (.bool (Wd.nam n)) ∧ w' = w := by
  have c1 := fun W => capital_walk n W
  have c2 := fun W => within_walk n 97 122 W
  have c3 : ((n : Int) == 46) = (n == 46) := eq_nat n 46
  have c4 : ((n : Int) == 45) = (n == 45) := eq_nat n 45
  unfold Wd.nam
  obtain ⟨b1, h1⟩ : ∃ b, Wd.cap n = b := ⟨_, rfl⟩
  obtain ⟨b2, h2⟩ : ∃ b, (decide (97 ≤ n) && decide (n ≤ 122)) = b := ⟨_, rfl⟩
  obtain ⟨b3, h3⟩ : ∃ b, (n == 46) = b := ⟨_, rfl⟩
  obtain ⟨b4, h4⟩ : ∃ b, (n == 45) = b := ⟨_, rfl⟩
  rw [h1] at c1
  rw [h2] at c2
  rw [h3] at c3
  rw [h4] at c4
  rw [h1, h2, h3, h4]
  clear h1 h2 h3 h4
  replace c1 := Aside0.mk c1
  replace c2 := Aside0.mk c2
  cases b1 <;> cases b2 <;> cases b3
  all_goals
    go_enter Tryz.func196, Tryz.ntmps196
    go_wp2_with (first | (go_at_call 221; refine (c1.out _).mono ?_; rintro e w' ⟨rfl, rfl⟩) | (go_at_call 222; refine (c2.out _).mono ?_; rintro e w' ⟨rfl, rfl⟩))
    go_ret
    exact ⟨by cases b4 <;> rfl, rfl⟩
theorem cap_high (n : Nat) (h : 128 ≤ n) : Wd.cap n = false := by
  unfold Wd.cap; simp; omega
theorem nam_high (n : Nat) (h : 128 ≤ n) : Wd.nam n = false := by
  unfold Wd.nam; rw [cap_high n h]; simp; omega
set_option maxHeartbeats 2000000 in
theorem all_nam (s : ByteArray) (hs : s.size ≤ 140737488351232) (w : World) : Calls Tryz.prog 195 #[.string s, .func (.func 196) #[] #[]] w fun e w' => e = .returned (.bool (Wd.okName Wd.nam s.data.toList)) ∧ Below w.heap.size w w' := by
  have hlen : s.data.toList.length = s.size := rfl
  have hend : Aside0 (∀ p, (∀ j, j < p → ∃ c : UInt8, s.data.toList[j]? = some c ∧ Wd.nam c.toNat = true) → p = s.size → Wd.okName Wd.nam s.data.toList = (!s.data.toList.isEmpty && decide (s.size ≤ 40))) := ⟨fun p h hp => by
    have : Wd.allOf Wd.nam s.data.toList = true := by
      unfold Wd.allOf
      rw [List.all_eq_true]
      intro c hc
      obtain ⟨j, hj, e⟩ := List.getElem_of_mem hc
      obtain ⟨c', h1, h2⟩ := h j (by rw [hp]; exact hj)
      rw [List.getElem?_eq_getElem hj, e] at h1
      rw [Option.some.inj h1]; exact h2
    unfold Wd.okName; rw [this, Bool.true_and, hlen]⟩
  have hbad : Aside0 (∀ (p : Nat) (c : UInt8), s.data.toList[p]? = some c → Wd.nam c.toNat = false → Wd.okName Wd.nam s.data.toList = false) := ⟨fun p c h1 h2 => by
    have : Wd.allOf Wd.nam s.data.toList = false := by
      unfold Wd.allOf
      rw [Bool.eq_false_iff]
      intro h
      rw [List.all_eq_true] at h
      rw [h c (List.mem_of_getElem? h1)] at h2
      cases h2
    unfold Wd.okName; rw [this]; rfl⟩
  have hstep : Aside0 (∀ p, p < s.size → _) := ⟨rune_step s⟩
  have hcall : Aside0 (∀ n W, _) := ⟨named_walk⟩
  go_enter Tryz.func195, Tryz.ntmps195
  go_wp2
  go_loopw [4] (fun v wr => ∃ p : Nat, v = .bool false ∧ p ≤ s.size ∧ wr = w.iter s p ∧ ∀ j, j < p → ∃ c : UInt8, s.data.toList[j]? = some c ∧ Wd.nam c.toNat = true) (fun _ wr => s.size - wr.iterPos w.heap.size)
  case atStart => exact ⟨0, rfl, by omega, rfl, fun j hj => by omega⟩
  case round =>
    obtain ⟨p, rfl, hp, rfl, hA⟩ := hrel
    replace hA := Aside0.mk hA
    by_cases hlt : p < s.size
    · have hnx := fun ty => run_next_any (P := Tryz.prog) w s p ty hlt
      rcases hstep.out p hlt with ⟨c, h1, h2, h3⟩ | ⟨r, wd, h3, h4, h5, h6, h7, h8⟩
      · rw [h3] at hnx
        obtain ⟨b, hb⟩ : ∃ b, Wd.nam c.toNat = b := ⟨_, rfl⟩
        have hc1 := hcall.out c.toNat
        rw [hb] at hc1
        replace hc1 := Aside0.mk hc1
        replace hb := Aside0.mk hb
        replace h2 := Aside0.mk h2
        clear h3
        cases b with
        | true =>
          go_wp2_with (go_at_call 196; refine (hc1.out _).mono ?_; rintro e w' ⟨rfl, rfl⟩)
          go_roundw
          case rel => exact ⟨p + 1, rfl, by omega, rfl, fun j hj => by
            by_cases e : j = p
            · subst e; exact ⟨c, h2.out, hb.out⟩
            · exact hA.out j (by omega)⟩
          case measure => simp; omega
        | false =>
          have hf := Aside0.mk (hbad.out p c h2.out hb.out)
          go_wp2_with (go_at_call 196; refine (hc1.out _).mono ?_; rintro e w' ⟨rfl, rfl⟩)
          go_ret
          exact ⟨by rw [hf.out]; rfl, (Below.refl _ _).alloc (Nat.le_refl _) _⟩
      · rw [h3] at hnx
        have hb : Wd.nam r = false := nam_high r h4
        have hc1 := hcall.out r
        rw [hb] at hc1
        replace hc1 := Aside0.mk hc1
        obtain ⟨c, g1, g2⟩ := h8 0 (by omega)
        have hf := Aside0.mk (hbad.out p c g1 (nam_high _ g2))
        clear h3 h8 hb g1 g2
        go_wp2_with (go_at_call 196; refine (hc1.out _).mono ?_; rintro e w' ⟨rfl, rfl⟩)
        go_ret
        exact ⟨by rw [hf.out]; rfl, (Below.refl _ _).alloc (Nat.le_refl _) _⟩
    · have hpe : Aside0 (p = s.size) := ⟨by omega⟩
      have hf := Aside0.mk (hend.out p hA.out hpe.out)
      have hne := fun ty => run_next_end (P := Tryz.prog) w s p ty (by omega)
      have hB : Below w.heap.size w (w.iter s p) := (Below.refl _ _).alloc (Nat.le_refl _) _
      by_cases he : s.data.toList = []
      · have he2 : s.toList = [] := by rw [ByteArray.toList_eq]; exact he
        go_wp2
        go_ret
        exact ⟨by rw [hf.out, he]; rfl, hB⟩
      · have he2 : (s.toList = []) = False := eq_false (by rw [ByteArray.toList_eq]; exact he)
        have he3 : s.data.toList.isEmpty = false := by rw [List.isEmpty_eq_false_iff]; exact he
        replace he3 := Aside0.mk he3
        go_wp2
        go_ret
        exact ⟨by rw [hf.out]; show Ending.returned (.bool (!s.toList.isEmpty && decide ((s.size : Int) ≤ 40))) = _; rw [ByteArray.toList_eq, show decide ((s.size : Int) ≤ 40) = decide (s.size ≤ 40) by rw [decide_eq_decide]; omega], hB⟩
set_option maxHeartbeats 1000000 in
theorem name_walk (s : ByteArray) (hs : s.size ≤ 140737488351232) (w : World) : Calls Tryz.prog 157 #[.string s] w fun e w' => e = .returned (.bool (Wd.okName Wd.nam s.data.toList)) ∧ Below w.heap.size w w' := by
  obtain ⟨b, hb⟩ : ∃ b, Wd.okName Wd.nam s.data.toList = b := ⟨_, rfl⟩
  have hc := all_nam s hs w
  rw [hb] at hc ⊢
  replace hc := Aside0.mk hc
  clear hb
  go_enter Tryz.func157, Tryz.ntmps157
  go_wp2_with (go_at_call 195; refine hc.out.mono ?_; rintro e w' ⟨rfl, hB⟩)
  go_ret
  exact ⟨rfl, hB⟩
end Go.Proofs.YtofklpphalalhaaGreatDoor
