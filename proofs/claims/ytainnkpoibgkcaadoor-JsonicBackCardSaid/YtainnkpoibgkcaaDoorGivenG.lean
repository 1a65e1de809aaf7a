/- jsonic's sign, walked by hand. Conditions: none beyond the text's length. -/
import Derived.Test.YtainnkpoibgkcaaDoorGivenF
namespace Go.Proofs.YtainnkpoibgkcaaDoor
set_option linter.unusedVariables false
set_option linter.unusedSimpArgs false
open Go.RowKit Go.Proofs.YtainnkpoibgkcaaDoor.PAll Go.Proofs.YtainnkpoibgkcaaDoorW.PrintWords Go.Proofs.YtainnkpoibgkcaaDoorW.PrintLast

namespace Js
/-- What stands for itself behind a backslash: what it means. -/
def esc (c : UInt8) : Option UInt8 := if c = 34 then some 34 else if c = 92 then some 92 else if c = 47 then some 47 else if c = 110 then some 10 else if c = 114 then some 13 else if c = 116 then some 9 else none
/-- The sign behind a backslash, and how many bytes it is. -/
def sign : List UInt8 → Option (UInt8 × Nat)
  | [] => none
  | c :: r => match esc c with
    | some m => some (m, 1)
    | none => if c = 117 ∧ 4 ≤ r.length ∧ (r.take 4).all isHex = true ∧ hexN 0 (r.take 4) < 128 then some (UInt8.ofNat (hexN 0 (r.take 4)), 5) else none
theorem esc_cases (c : UInt8) : (c = 34 ∨ c = 92 ∨ c = 47 ∨ c = 110 ∨ c = 114 ∨ c = 116) ∨ (esc c = none ∧ Lib.indexByte [34, 92, 47, 110, 114, 116] c = -1) := by
  by_cases h1 : c = 34
  · exact .inl (.inl h1)
  by_cases h2 : c = 92
  · exact .inl (.inr (.inl h2))
  by_cases h3 : c = 47
  · exact .inl (.inr (.inr (.inl h3)))
  by_cases h4 : c = 110
  · exact .inl (.inr (.inr (.inr (.inl h4))))
  by_cases h5 : c = 114
  · exact .inl (.inr (.inr (.inr (.inr (.inl h5)))))
  by_cases h6 : c = 116
  · exact .inl (.inr (.inr (.inr (.inr (.inr h6)))))
  right
  refine ⟨by unfold esc; simp [h1, h2, h3, h4, h5, h6], ?_⟩
  have hne : ∀ a : UInt8, c ≠ a → (a == c) = false := fun a h => by simpa using fun e => h e.symm
  simp [Lib.indexByte, hne _ h1, hne _ h2, hne _ h3, hne _ h4, hne _ h5, hne _ h6]
theorem trim_all (l cs : List UInt8) : Lib.trimS l cs = [] ↔ l.all (cs.contains ·) = true := by
  unfold Lib.trimS Lib.trimLeftS Lib.trimRightS
  have nil : ∀ m : List UInt8, m.dropWhile (cs.contains ·) = [] ↔ ∀ c ∈ m, cs.contains c = true := fun m => by
    induction m with
    | nil => simp
    | cons c m ih =>
      rw [List.dropWhile_cons]
      by_cases h : cs.contains c = true
      · rw [if_pos h, ih]
        exact ⟨fun h1 x hx => by
          rcases List.mem_cons.1 hx with rfl | hx
          · exact h
          · exact h1 x hx, fun h1 x hx => h1 x (List.mem_cons_of_mem _ hx)⟩
      · rw [if_neg h]
        exact ⟨fun h1 => by simp at h1, fun h1 => absurd (h1 c List.mem_cons_self) h⟩
  rw [List.all_eq_true]
  constructor
  · intro h
    have h1 := (nil _).1 h
    have h2 : l.reverse.dropWhile (cs.contains ·) = [] := by
      cases e : l.reverse.dropWhile (cs.contains ·) with
      | nil => rfl
      | cons c r =>
        have h3 := List.head?_dropWhile_not (cs.contains ·) l.reverse
        rw [e] at h1 h3
        have h4 := h1 c (by simp)
        simp only [List.head?_cons] at h3
        rw [h4] at h3; cases h3
    intro c hc
    exact (nil _).1 h2 c (by simpa using hc)
  · intro h
    have h2 : l.reverse.dropWhile (cs.contains ·) = [] := (nil _).2 (fun c hc => h c (by simpa using hc))
    rw [h2]; rfl
end Js
theorem indexByte_calls (s : ByteArray) (c : UInt8) (w : World) : Calls Tryd.prog 22 #[.string s, .int .u8 (c.toNat : Int)] w fun e w' => e = .returned (.int .i64 (Lib.indexByte s.data.toList c)) ∧ w' = w := by
  have h := Tryd.strings_IndexByte s (c.toNat : Int) w
  rw [Int.toNat_natCast, show c.toNat.toUInt8 = c from UInt8.ofNat_toNat] at h
  exact h
def signV (r : Option (UInt8 × Nat)) : Value := match r with
  | some (m, n) => .tuple #[.int .u8 (m.toNat : Int), .int .i64 (n : Int)]
  | none => .tuple #[.int .u8 0, .int .i64 0]
set_option maxHeartbeats 4000000 in
set_option maxRecDepth 100000 in
theorem sign_nil (t : ByteArray) (h0 : t.size = 0) (w : World) : Calls Tryd.prog 47 #[.string t] w fun e w' => e = .returned (signV none) ∧ Below w.heap.size w w' := by
  have he : t = ByteArray.empty := by
    apply ByteArray.ext; apply Array.eq_empty_of_size_eq_zero; exact h0
  subst he
  go_enter Tryd.func47, Tryd.ntmps47
  go_wp2
  go_ret2
  exact ⟨rfl, Below.refl _ _⟩
set_option maxHeartbeats 4000000 in
set_option maxRecDepth 100000 in
theorem sign_esc (t : ByteArray) (hs : t.size ≤ 1000000000) (c : UInt8) (r : List UInt8) (hc : t.data.toList = c :: r) (hm : c = 34 ∨ c = 92 ∨ c = 47 ∨ c = 110 ∨ c = 114 ∨ c = 116) (w : World) :
    Calls Tryd.prog 47 #[.string t] w fun e w' => e = .returned (signV (Js.sign (c :: r))) ∧ Below w.heap.size w w' := by
  have h0 : 0 < t.size := by rw [← size_len, hc]; simp
  have hg : t[0] = c := by
    have : t.data.toList[0]? = some c := by rw [hc]; rfl
    rw [List.getElem?_eq_getElem (by rw [size_len]; exact h0)] at this
    exact Option.some.inj this
  have hemp : t.toList.isEmpty = false := by rw [ByteArray.toList_eq, hc]; rfl
  have hix := fun W => indexByte_calls ⟨#[34, 92, 47, 110, 114, 116]⟩ c W
  clear hc
  rcases hm with rfl | rfl | rfl | rfl | rfl | rfl
  · have hix : ∀ W, Calls Tryd.prog 22 #[.string ⟨#[34, 92, 47, 110, 114, 116]⟩, .int .u8 34] W fun e w' => e = .returned (.int .i64 0) ∧ w' = W := hix
    replace hix := Aside0.mk hix
    go_enter Tryd.func47, Tryd.ntmps47
    go_wp2_with (go_at_call 22; refine (hix.out _).mono ?_; rintro e w' ⟨rfl, rfl⟩)
    go_ret2
    exact ⟨rfl, Below.refl _ _⟩
  · have hix : ∀ W, Calls Tryd.prog 22 #[.string ⟨#[34, 92, 47, 110, 114, 116]⟩, .int .u8 92] W fun e w' => e = .returned (.int .i64 1) ∧ w' = W := hix
    replace hix := Aside0.mk hix
    go_enter Tryd.func47, Tryd.ntmps47
    go_wp2_with (go_at_call 22; refine (hix.out _).mono ?_; rintro e w' ⟨rfl, rfl⟩)
    go_ret2
    exact ⟨rfl, Below.refl _ _⟩
  · have hix : ∀ W, Calls Tryd.prog 22 #[.string ⟨#[34, 92, 47, 110, 114, 116]⟩, .int .u8 47] W fun e w' => e = .returned (.int .i64 2) ∧ w' = W := hix
    replace hix := Aside0.mk hix
    go_enter Tryd.func47, Tryd.ntmps47
    go_wp2_with (go_at_call 22; refine (hix.out _).mono ?_; rintro e w' ⟨rfl, rfl⟩)
    go_ret2
    exact ⟨rfl, Below.refl _ _⟩
  · have hix : ∀ W, Calls Tryd.prog 22 #[.string ⟨#[34, 92, 47, 110, 114, 116]⟩, .int .u8 110] W fun e w' => e = .returned (.int .i64 3) ∧ w' = W := hix
    replace hix := Aside0.mk hix
    go_enter Tryd.func47, Tryd.ntmps47
    go_wp2_with (go_at_call 22; refine (hix.out _).mono ?_; rintro e w' ⟨rfl, rfl⟩)
    go_ret2
    exact ⟨rfl, Below.refl _ _⟩
  · have hix : ∀ W, Calls Tryd.prog 22 #[.string ⟨#[34, 92, 47, 110, 114, 116]⟩, .int .u8 114] W fun e w' => e = .returned (.int .i64 4) ∧ w' = W := hix
    replace hix := Aside0.mk hix
    go_enter Tryd.func47, Tryd.ntmps47
    go_wp2_with (go_at_call 22; refine (hix.out _).mono ?_; rintro e w' ⟨rfl, rfl⟩)
    go_ret2
    exact ⟨rfl, Below.refl _ _⟩
  · have hix : ∀ W, Calls Tryd.prog 22 #[.string ⟨#[34, 92, 47, 110, 114, 116]⟩, .int .u8 116] W fun e w' => e = .returned (.int .i64 5) ∧ w' = W := hix
    replace hix := Aside0.mk hix
    go_enter Tryd.func47, Tryd.ntmps47
    go_wp2_with (go_at_call 22; refine (hix.out _).mono ?_; rintro e w' ⟨rfl, rfl⟩)
    go_ret2
    exact ⟨rfl, Below.refl _ _⟩
set_option maxHeartbeats 4000000 in
set_option maxRecDepth 100000 in
theorem sign_other (t : ByteArray) (hs : t.size ≤ 1000000000) (c : UInt8) (r : List UInt8) (hc : t.data.toList = c :: r) (hm : Js.esc c = none) (hm2 : Lib.indexByte [34, 92, 47, 110, 114, 116] c = -1) (w : World) :
    Calls Tryd.prog 47 #[.string t] w fun e w' => e = .returned (signV (Js.sign (c :: r))) ∧ Below w.heap.size w w' := by
  have h0 : 0 < t.size := by rw [← size_len, hc]; simp
  have hl : t.size = r.length + 1 := by rw [← size_len, hc]; simp
  have hg : t[0] = c := by
    have : t.data.toList[0]? = some c := by rw [hc]; rfl
    rw [List.getElem?_eq_getElem (by rw [size_len]; exact h0)] at this
    exact Option.some.inj this
  have hemp : t.toList.isEmpty = false := by rw [ByteArray.toList_eq, hc]; rfl
  have hix := fun W => indexByte_calls ⟨#[34, 92, 47, 110, 114, 116]⟩ c W
  have hix : ∀ W, Calls Tryd.prog 22 #[.string ⟨#[34, 92, 47, 110, 114, 116]⟩, .int .u8 (c.toNat : Int)] W fun e w' => e = .returned (.int .i64 (Lib.indexByte [34, 92, 47, 110, 114, 116] c)) ∧ w' = W := hix
  rw [hm2] at hix
  replace hix := Aside0.mk hix
  have hex : (t.extract 1 5).data.toList = r.take 4 := by rw [ext_data, hc]; simp
  have hS : Js.sign (c :: r) = if c = 117 ∧ 4 ≤ r.length ∧ (r.take 4).all Js.isHex = true ∧ Js.hexN 0 (r.take 4) < 128 then some (UInt8.ofNat (Js.hexN 0 (r.take 4)), 5) else none := by
    show (match Js.esc c with | some m => some (m, 1) | none => _) = _
    rw [hm]
  by_cases h117 : c = 117
  · subst h117
    by_cases h5 : 4 ≤ r.length
    · have htr := fun W => Any.strings_Trim_laid Tryd.lays160 (by kernel_rfl) (t.extract 1 5) ⟨#[48, 49, 50, 51, 52, 53, 54, 55, 56, 57, 97, 98, 99, 100, 101, 102, 65, 66, 67, 68, 69, 70]⟩ W (by rw [ByteArray.size_extract]; omega) (by decide) (ascii_of_all (by decide))
      have htr : ∀ W, Calls Tryd.prog 54 #[.string (t.extract 1 5), .string ⟨#[48, 49, 50, 51, 52, 53, 54, 55, 56, 57, 97, 98, 99, 100, 101, 102, 65, 66, 67, 68, 69, 70]⟩] W fun e w' => e = .returned (.string (S (Lib.trimS (t.extract 1 5).data.toList Js.hexs))) ∧ Below W.heap.size W w' := htr
      rw [hex] at htr
      have hta := Js.trim_all (r.take 4) Js.hexs
      have hta2 : (r.take 4).all (Js.hexs.contains ·) = (r.take 4).all Js.isHex := rfl
      rw [hta2] at hta
      obtain ⟨y, hy⟩ : ∃ y, t.extract 1 5 = y := ⟨_, rfl⟩
      have hys : Aside0 (y.size = 4) := ⟨by rw [← hy, ByteArray.size_extract]; omega⟩
      have hyd : Aside0 (y.data.toList = r.take 4) := ⟨by rw [← hy]; exact hex⟩
      have h5a : ¬ ((t.size : Int) < 5) := by omega
      have h5b : (5 : Int) ≤ (t.size : Int) := by omega
      rw [hy] at htr
      by_cases hall : (r.take 4).all Js.isHex = true
      · have hz := hta.2 hall
        rw [hz] at htr
        have htr : ∀ W, Calls Tryd.prog 54 #[.string y, .string ⟨#[48, 49, 50, 51, 52, 53, 54, 55, 56, 57, 97, 98, 99, 100, 101, 102, 65, 66, 67, 68, 69, 70]⟩] W fun e w' => e = .returned (.string ⟨#[]⟩) ∧ Below W.heap.size W w' := htr
        replace htr := Aside0.mk htr
        have hpu := fun W => parseUint16 y hys.out (fun x hx => by rw [hyd.out] at hx; exact List.all_eq_true.1 hall x hx) W
        rw [hyd.out] at hpu
        obtain ⟨n, hn⟩ : ∃ n, Js.hexN 0 (r.take 4) = n := ⟨_, rfl⟩
        rw [hn] at hpu hS
        replace hpu := Aside0.mk hpu
        by_cases hn128 : n < 128
        · have hS2 : Aside0 (Js.sign (117 :: r) = some (UInt8.ofNat n, 5)) := ⟨by rw [hS, if_pos ⟨rfl, h5, hall, hn128⟩]⟩
          have hw8 : IntKind.u8.wrap (n : Int) = (n : Int) := by rw [IntKind.wrap_u8]; omega
          clear hS hta hta2 hall hz hn hex hc hl hm hm2 h5
          go_enter Tryd.func47, Tryd.ntmps47
          go_wp2_with (first
            | (go_at_call 22; refine (hix.out _).mono ?_; rintro e w' ⟨rfl, rfl⟩)
            | (go_at_call 54; refine (htr.out _).mono ?_; rintro e w2 ⟨rfl, hb2⟩; replace hb2 := Aside0.mk hb2)
            | (go_at_call 55; refine (hpu.out _).mono ?_; rintro e w3 ⟨rfl, hb3⟩; replace hb3 := Aside0.mk hb3))
          go_ret2
          rw [hS2.out]
          refine ⟨?_, hb2.out.trans (hb3.out.mono hb2.out.size)⟩
          show Ending.returned (.tuple #[.int .u8 (n : Int), .int .i64 5]) = .returned (.tuple #[.int .u8 ((UInt8.ofNat n).toNat : Int), .int .i64 ((5 : Nat) : Int)])
          rw [show (UInt8.ofNat n).toNat = n by rw [UInt8.toNat_ofNat']; omega]
          rfl
        · have hS2 : Aside0 (Js.sign (117 :: r) = none) := ⟨by rw [hS, if_neg (fun h => hn128 h.2.2.2)]⟩
          have hn128' : (128 : Int) ≤ (n : Int) := by omega
          clear hS hta hta2 hall hz hn hex hc hl hm hm2 h5 hn128
          go_enter Tryd.func47, Tryd.ntmps47
          go_wp2_with (first
            | (go_at_call 22; refine (hix.out _).mono ?_; rintro e w' ⟨rfl, rfl⟩)
            | (go_at_call 54; refine (htr.out _).mono ?_; rintro e w2 ⟨rfl, hb2⟩; replace hb2 := Aside0.mk hb2)
            | (go_at_call 55; refine (hpu.out _).mono ?_; rintro e w3 ⟨rfl, hb3⟩; replace hb3 := Aside0.mk hb3))
          go_ret2
          rw [hS2.out]
          exact ⟨rfl, hb2.out.trans (hb3.out.mono hb2.out.size)⟩
      · have hS2 : Aside0 (Js.sign (117 :: r) = none) := ⟨by rw [hS, if_neg (fun h => hall h.2.2.1)]⟩
        obtain ⟨z, hz⟩ : ∃ z, S (Lib.trimS (r.take 4) Js.hexs) = z := ⟨_, rfl⟩
        have hzn : z.toList.isEmpty = false := by
          rw [ByteArray.toList_eq, ← hz, S_data, List.isEmpty_eq_false_iff]
          exact fun h => hall (hta.1 h)
        rw [hz] at htr
        replace htr := Aside0.mk htr
        clear hS hta hta2 hall hz hex hc hl hm hm2 h5
        go_enter Tryd.func47, Tryd.ntmps47
        go_wp2_with (first
          | (go_at_call 22; refine (hix.out _).mono ?_; rintro e w' ⟨rfl, rfl⟩)
          | (go_at_call 54; refine (htr.out _).mono ?_; rintro e w2 ⟨rfl, hb2⟩; replace hb2 := Aside0.mk hb2))
        go_ret2
        rw [hS2.out]
        exact ⟨rfl, hb2.out⟩
    · have hS2 : Aside0 (Js.sign (117 :: r) = none) := ⟨by rw [hS, if_neg (fun h => h5 h.2.1)]⟩
      have h5a : (t.size : Int) < 5 := by omega
      clear hS hex hc hl hm hm2 h5
      go_enter Tryd.func47, Tryd.ntmps47
      go_wp2_with (first
        | (go_at_call 22; refine (hix.out _).mono ?_; rintro e w' ⟨rfl, rfl⟩))
      go_ret2
      rw [hS2.out]
      exact ⟨rfl, Below.refl _ _⟩
  · have hS2 : Aside0 (Js.sign (c :: r) = none) := ⟨by rw [hS, if_neg (fun h => h117 h.1)]⟩
    have hne : ((c.toNat : Int) != 117) = true := by
      have : c.toNat ≠ 117 := fun e => h117 (UInt8.toNat_inj.1 e)
      simp; omega
    clear hS hex hc hl hm hm2
    go_enter Tryd.func47, Tryd.ntmps47
    go_wp2_with (first
      | (go_at_call 22; refine (hix.out _).mono ?_; rintro e w' ⟨rfl, rfl⟩))
    go_ret2
    rw [hS2.out]
    exact ⟨rfl, Below.refl _ _⟩
theorem sign_calls (t : ByteArray) (hs : t.size ≤ 1000000000) (w : World) :
    Calls Tryd.prog 47 #[.string t] w fun e w' => e = .returned (signV (Js.sign t.data.toList)) ∧ Below w.heap.size w w' := by
  cases hc : t.data.toList with
  | nil => exact sign_nil t (by rw [← size_len, hc]; rfl) w
  | cons c r =>
    rcases Js.esc_cases c with h | ⟨h1, h2⟩
    · exact sign_esc t hs c r hc h w
    · exact sign_other t hs c r hc h1 h2 w
end Go.Proofs.YtainnkpoibgkcaaDoor
