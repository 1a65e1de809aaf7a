/- Where of cursor, walked by hand. Conditions: texts of at most 140737488351232 bytes. -/
import Derived.Test.YtgphciopondlaaaDoorPAllx0
import Derived.Test.YtgphciopondlaaaDoorPlainC
import Derived.Laws.RangeAny
import Derived.Lib.RuneCount
namespace Go.Proofs.YtgphciopondlaaaDoor
open Go.RowKit Go.Proofs.YtgphciopondlaaaDoorW.PrintWords Go.Proofs.YtgphciopondlaaaDoorW.PrintLast Go.Proofs.YtgphciopondlaaaDoorW.PrintMore
attribute [local go_sem] max2_int min2_int max_two min_two max_three min_three max_four min_four

theorem size_len (s : ByteArray) : s.data.toList.length = s.size := rfl
theorem ext_data (s : ByteArray) (a b : Nat) : (s.extract a b).data.toList = (s.data.toList.drop a).take (b - a) := by
  rw [ByteArray.data_extract, Array.toList_extract]

/-! Runes, and bytes. -/
theorem get_data (s : ByteArray) (i : Nat) (h : i < s.size) : s.data.toList[i]? = some (s.get! i) := by
  have : s.get! i = s[i]'h := by
    have := get_at s i h
    rwa [Nat.add_zero] at this
  rw [this, List.getElem?_eq_getElem (by rw [size_len]; exact h)]; rfl
/-- A rune of several bytes: each is beyond ASCII. -/
theorem decode_bytes (s : ByteArray) (pos : Nat) (h : pos < s.size) (h0 : 128 ≤ (s.get! pos).toNat) : 1 ≤ (Utf8.decode s pos).2 ∧ 128 ≤ (Utf8.decode s pos).1 ∧
    ∀ j, j < (Utf8.decode s pos).2 → pos + j < s.size ∧ 128 ≤ (s.get! (pos + j)).toNat := by
  have h1 : s.get! (pos + 0) = s.get! pos := rfl
  have hb : ¬ (s.get! (pos + 0)).toNat < 128 := by rw [h1]; omega
  have ge : s[pos]'h = s.get! pos := by have := get_at s pos h; rw [← this, h1]
  have hh := decode_high s pos h (by rw [ge]; exact h0)
  refine ⟨hh.2, hh.1, ?_⟩
  have one : ∀ j, j < 1 → pos + j < s.size ∧ 128 ≤ (s.get! (pos + j)).toNat := fun j hj => by
    obtain rfl : j = 0 := by omega
    exact ⟨by omega, by rw [h1]; exact h0⟩
  unfold Utf8.decode
  simp only [hb, if_false]
  split
  · rename_i hc
    simp only [Bool.and_eq_true, decide_eq_true_eq, beq_iff_eq] at hc
    split
    · intro j hj
      rcases (show j = 0 ∨ j = 1 by simp at hj; omega) with rfl | rfl
      · exact one 0 (by omega)
      · exact ⟨hc.2.1, by omega⟩
    · exact one
  · split
    · rename_i hc
      simp only [Bool.and_eq_true, decide_eq_true_eq, beq_iff_eq] at hc
      split
      · intro j hj
        rcases (show j = 0 ∨ j = 1 ∨ j = 2 by simp at hj; omega) with rfl | rfl | rfl
        · exact one 0 (by omega)
        · exact ⟨hc.1.2.1, by omega⟩
        · exact ⟨hc.2.1, by omega⟩
      · exact one
    · split
      · rename_i hc
        simp only [Bool.and_eq_true, decide_eq_true_eq, beq_iff_eq] at hc
        split
        · intro j hj
          rcases (show j = 0 ∨ j = 1 ∨ j = 2 ∨ j = 3 by simp at hj; omega) with rfl | rfl | rfl | rfl
          · exact one 0 (by omega)
          · exact ⟨hc.1.1.2.1, by omega⟩
          · exact ⟨hc.1.2.1, by omega⟩
          · exact ⟨hc.2.1, by omega⟩
        · exact one
      · exact one

/-! Where. -/
def cursor_Where.f (a0 : ByteArray) (a1 : Int) : Option (Int × Int × Int) :=
  if a0.size ≤ 140737488351232 then
    some (if a1 < 0 ∨ (a0.size : Int) < a1 then (0, 0, 10) else (((Cur.at_ a0.data.toList a1.toNat).1 : Int), ((Cur.at_ a0.data.toList a1.toNat).2 : Int), 0)) else none

/-- What is known of a place: the line, and where it began. -/
def At (l : List UInt8) (p : Nat) (L B : Nat) : Prop := B ≤ p ∧ Cur.at_ l p = (L, p - B + 1) ∧ L ≤ p + 1
theorem At.zero (l : List UInt8) : At l 0 1 0 := ⟨by omega, by rw [Cur.at_zero], by omega⟩
theorem At.feed {l : List UInt8} {p L B : Nat} (h : At l p L B) (hc : l[p]? = some 10) : At l (p + 1) (L + 1) (p + 1) := by
  obtain ⟨h1, h2, h3⟩ := h
  refine ⟨by omega, ?_, by omega⟩
  rw [Cur.at_succ l p 10 hc, if_pos rfl, h2]; simp
theorem At.one {l : List UInt8} {p L B : Nat} (h : At l p L B) {c : UInt8} (hc : l[p]? = some c) (hne : c ≠ 10) : At l (p + 1) L B := by
  obtain ⟨h1, h2, h3⟩ := h
  refine ⟨by omega, ?_, by omega⟩
  rw [Cur.at_succ l p c hc, if_neg hne, h2]
  refine Prod.ext rfl ?_
  show p - B + 1 + 1 = p + 1 - B + 1; omega
theorem At.many {l : List UInt8} {p L B w : Nat} (h : At l p L B) (hc : ∀ j, j < w → ∃ c, l[p + j]? = some c ∧ c ≠ 10) : At l (p + w) L B := by
  obtain ⟨h1, h2, h3⟩ := h
  refine ⟨by omega, ?_, by omega⟩
  rw [Cur.at_on l p w hc, h2]
  refine Prod.ext rfl ?_
  show p - B + 1 + w = p + w - B + 1; omega

theorem take_get (s : ByteArray) (n j : Nat) (hn : n ≤ s.size) (hj : j < n) : (s.extract 0 n).get! j = s.get! j := by
  have h1 : j < (s.extract 0 n).size := by rw [ByteArray.size_extract]; omega
  have e1 := get_data (s.extract 0 n) j h1
  have e2 := get_data s j (by omega)
  rw [ext_data, List.drop_zero, Nat.sub_zero, List.getElem?_take, if_pos hj, e2] at e1
  exact (Option.some.inj e1).symm

set_option maxHeartbeats 1000000 in
theorem where_walk (s : ByteArray) (n : Nat) (w : World) (hs : s.size ≤ 140737488351232) (hn : n ≤ s.size) :
    Calls Tryd.prog 28 #[.string s, .int .i64 n] w fun e w' => e = .returned (.tuple #[.int .i64 (Cur.at_ s.data.toList n).1, .int .i64 (Cur.at_ s.data.toList n).2, .int .i64 0]) ∧ Below w.heap.size w w' := by
  have h2 : ((n : Int) ≤ (s.size : Int)) = True := eq_true (by omega)
  have hz : (s.extract 0 n).size = n := by rw [ByteArray.size_extract]; omega
  obtain ⟨u, hu⟩ : ∃ u, s.extract 0 n = u := ⟨_, rfl⟩
  have hg : ∀ j, j < n → s.data.toList[j]? = some (u.get! j) := fun j hj => by
    rw [← hu, take_get s n j hn hj]; exact get_data s j (by omega)
  rw [hu] at hz
  replace hg := Aside0.mk hg
  have hstep : Aside0 (∀ p, p < n → ((Utf8.decode u p).1 = 10 ∧ (Utf8.decode u p).2 = 1 ∧ s.data.toList[p]? = some 10) ∨
      ((Utf8.decode u p).1 ≠ 10 ∧ 1 ≤ (Utf8.decode u p).2 ∧ p + (Utf8.decode u p).2 ≤ n ∧ ∀ j, j < (Utf8.decode u p).2 → ∃ c, s.data.toList[p + j]? = some c ∧ c ≠ 10)) := ⟨fun p hp => by
    have hpu : p < u.size := by omega
    have ge : u[p]'hpu = u.get! p := by have := get_at u p hpu; rw [← this]; rfl
    by_cases hc : (u.get! p).toNat < 128
    · have hd := decode_ascii u p hpu (by rw [ge]; exact hc)
      rw [ge] at hd
      rw [hd]
      by_cases h10 : u.get! p = 10
      · exact .inl ⟨by show (u.get! p).toNat = 10; rw [h10]; rfl, rfl, by rw [hg.out p hp, h10]⟩
      · refine .inr ⟨fun e => h10 (UInt8.toNat_inj.1 e), by show 1 ≤ 1; omega, by show p + 1 ≤ n; omega, fun j hj => ?_⟩
        obtain rfl : j = 0 := by have : j < 1 := hj; omega
        exact ⟨_, hg.out p hp, h10⟩
    · obtain ⟨d1, d2, d3⟩ := decode_bytes u p hpu (by omega)
      refine .inr ⟨by omega, d1, ?_, fun j hj => ?_⟩
      · have := d3 ((Utf8.decode u p).2 - 1) (by omega); omega
      · have := d3 j hj
        exact ⟨_, hg.out (p + j) (by omega), fun e => by rw [e] at this; simp at this⟩⟩
  replace hz := Aside0.mk hz
  go_enter Tryd.func28, Tryd.ntmps28
  go_wp2
  go_loopw [4, 7] (fun line begin wr => ∃ p L B : Nat, p ≤ n ∧ wr = w.iter u p ∧ line = .int .i64 L ∧ begin = .int .i64 B ∧ At s.data.toList p L B) (fun _ _ wr => n - wr.iterPos w.heap.size)
  case atStart => exact ⟨0, 1, 0, by omega, rfl, rfl, rfl, At.zero _⟩
  case round =>
    obtain ⟨p, L, B, hp, rfl, rfl, rfl, hA⟩ := hrel
    have hA3 : L ≤ p + 1 := hA.2.2
    have hA1 : B ≤ p := hA.1
    replace hA := Aside0.mk hA
    by_cases hlt : p < n
    · have hnx := fun ty => run_next_any (P := Tryd.prog) w u p ty (by rw [hz.out]; exact hlt)
      rcases hstep.out p hlt with ⟨e1, e2, e3⟩ | ⟨e1, e2, e3, e4⟩
      · rw [e1, e2] at hnx
        replace e3 := Aside0.mk e3
        clear e1 e2
        go_wp2
        go_roundw
        case rel => exact ⟨p + 1, L + 1, p + 1, by omega, rfl, by go_num, by go_num, hA.out.feed e3.out⟩
        case measure => simp; omega
      · obtain ⟨rn, hr⟩ : ∃ rn, (Utf8.decode u p).1 = rn := ⟨_, rfl⟩
        obtain ⟨wd, hwd⟩ : ∃ wd, (Utf8.decode u p).2 = wd := ⟨_, rfl⟩
        rw [hr, hwd] at hnx
        rw [hr] at e1
        rw [hwd] at e2 e3 e4
        have e1b : ((rn : Int) == 10) = false := by simp; omega
        replace e4 := Aside0.mk e4
        clear hr hwd e1
        go_wp2
        go_roundw
        case rel => exact ⟨p + wd, L, B, by omega, rfl, rfl, rfl, hA.out.many e4.out⟩
        case measure => simp; omega
    · have hpe : Aside0 (p = n) := ⟨by omega⟩
      have hne := fun ty => run_next_end (P := Tryd.prog) w u p ty (by rw [hz.out]; omega)
      go_wp2
      go_ret3
      refine ⟨?_, ?_⟩
      · have h := hA.out.2.1
        rw [hpe.out] at h
        rw [h]
        show Ending.returned (.tuple #[.int .i64 (L : Int), .int .i64 ((n : Int) - (B : Int) + 1), .int .i64 0]) = .returned (.tuple #[.int .i64 (L : Int), .int .i64 ((n - B + 1 : Nat) : Int), .int .i64 0])
        rw [show ((n : Int) - (B : Int) + 1) = ((n - B + 1 : Nat) : Int) by have := hpe.out; omega]
      · exact (Below.refl _ _).alloc (Nat.le_refl _) _
theorem cursor_Where.calls (a0 : ByteArray) (a1 : Int) (r1 r2 r3 : Int) (w : World) (h : cursor_Where.f a0 a1 = some (r1, r2, r3)) :
    Calls Tryd.prog 28 #[.string a0, .int .i64 a1] w fun e w' => e = .returned (.tuple #[.int .i64 r1, .int .i64 r2, .int .i64 r3]) ∧ Below w.heap.size w w' := by
  unfold cursor_Where.f at h
  split at h
  · rename_i hs
    by_cases hn : a1 < 0 ∨ (a0.size : Int) < a1
    · rw [if_pos hn] at h
      simp only [Option.some.injEq, Prod.mk.injEq] at h
      obtain ⟨rfl, rfl, rfl⟩ := h
      by_cases h0 : a1 < 0
      · go_enter Tryd.func28, Tryd.ntmps28
        go_wp2
        go_ret3
        exact ⟨rfl, Below.refl _ _⟩
      · have h1 : (a0.size : Int) < a1 := by omega
        go_enter Tryd.func28, Tryd.ntmps28
        go_wp2
        go_ret3
        exact ⟨rfl, Below.refl _ _⟩
    · rw [if_neg hn] at h
      simp only [Option.some.injEq, Prod.mk.injEq] at h
      obtain ⟨rfl, rfl, rfl⟩ := h
      obtain ⟨n, rfl⟩ := Int.eq_ofNat_of_zero_le (show 0 ≤ a1 by omega)
      rw [Int.toNat_natCast]
      exact where_walk a0 n w hs (by omega)
  · exact absurd h (by simp)
end Go.Proofs.YtgphciopondlaaaDoor
