/- jsonic's Quote, walked by hand. Conditions: a text of at most 1000000000 bytes. -/
import Derived.Test.YtainnkpoibgkcaaDoorGivenO
namespace Go.Proofs.YtainnkpoibgkcaaDoor
set_option linter.unusedVariables false
set_option linter.unusedSimpArgs false
open Go.RowKit Go.Proofs.YtainnkpoibgkcaaDoor.PAll Go.Proofs.YtainnkpoibgkcaaDoorW.PrintWords Go.Proofs.YtainnkpoibgkcaaDoorW.PrintLast

namespace Js
/-- A digit of sixteen. -/
def hx (n : Nat) : UInt8 := if n < 10 then UInt8.ofNat (48 + n) else UInt8.ofNat (87 + n)
/-- A byte, as it stands in a text in quotes. -/
def q1 (c : UInt8) : List UInt8 :=
  if c = 34 then [92, 34] else if c = 92 then [92, 92] else if c = 10 then [92, 110] else if c = 13 then [92, 114] else if c = 9 then [92, 116]
  else if c < 32 ∨ c = 127 then [92, 117, 48, 48, hx (c.toNat / 16), hx (c.toNat % 16)] else [c]
def qall (l : List UInt8) : List UInt8 := l.flatMap q1
/-- What a text is in quotes; if it is anything. -/
def quote (l : List UInt8) : Option (List UInt8) := if l.all (· < 128) then some (34 :: (qall l ++ [34])) else none
end Js
theorem Js.qall_snoc (l : List UInt8) (c : UInt8) : Js.qall (l ++ [c]) = Js.qall l ++ Js.q1 c := by simp [Js.qall]
/-- What holds at the head of each round. -/
def QRel (w0 : World) (base b R : Nat) (s : ByteArray) (cap : Nat) (t12 : Value) (wr : World) : Prop :=
  ∃ i : Nat, t12 = .int .i64 i ∧ i ≤ s.size ∧ (∀ c ∈ s.data.toList.take i, c < 128) ∧ Bld 50 [] base b (Lib.byteCells (34 :: Js.qall (s.data.toList.take i))) wr ∧ wr.heap[R]? = some (.cells (bytesRow s cap) 5 ((bytesRow s cap).size, (bytesRow s cap).size + 1)) ∧ Below base w0 wr ∧ R ≠ b ∧ (Js.qall (s.data.toList.take i)).length ≤ 6 * i
def mQ (s : ByteArray) (t12 : Value) : Nat := match t12 with
  | .int _ k => ((s.size : Int) - k).toNat
  | _ => 0
theorem QRel.next {w0 wr w2 : World} {base b R cap i : Nat} {s : ByteArray} {c : UInt8} {xs : List Value} (hi : i < s.size) (hT : s.data.toList.take (i + 1) = s.data.toList.take i ++ [c]) (hA : ∀ x ∈ s.data.toList.take (i + 1), x < 128)
    (hR : wr.heap[R]? = some (.cells (bytesRow s cap) 5 ((bytesRow s cap).size, (bytesRow s cap).size + 1))) (hb : Below base w0 wr) (hne : R ≠ b) (hql : (Js.qall (s.data.toList.take i)).length ≤ 6 * i)
    (hB : Bld 50 [] base b (Lib.byteCells (34 :: Js.qall (s.data.toList.take i)) ++ xs) w2) (hb2 : Below base wr w2) (hk : Kp b wr w2) (hx : xs = Lib.byteCells (Js.q1 c) ∧ (Js.q1 c).length ≤ 6) : QRel w0 base b R s cap (.int .i64 ((i : Int) + 1)) w2 := by
  refine ⟨i + 1, rfl, hi, hA, ?_, hk R _ hR hne (fun c e => ?_), hb.trans hb2, hne, ?_⟩
  · rw [hT, Js.qall_snoc]
    rw [hx.1] at hB
    simpa [Lib.byteCells] using hB
  · simp only [Obj.cells.injEq, Prod.mk.injEq] at e
    omega
  · rw [hT, Js.qall_snoc, List.length_append]
    have := hx.2
    omega
theorem mQ_next {s : ByteArray} {i : Nat} (hi : i < s.size) : mQ s (.int .i64 ((i : Int) + 1)) < mQ s (.int .i64 (i : Int)) := by
  simp only [mQ]; omega
def hexd : ByteArray := ⟨#[48, 49, 50, 51, 52, 53, 54, 55, 56, 57, 97, 98, 99, 100, 101, 102]⟩
theorem hex_one : ∀ (n : Nat), n < 16 → ∀ W : World, (Instr.slice 9 (.string hexd) (some (.int .u8 n)) (some (.int .u8 ((n : Int) + 1))) none).run Tryd.prog W = .ok (.string ⟨#[Js.hx n]⟩) W
  | 0, _, _ | 1, _, _ | 2, _, _ | 3, _, _ | 4, _, _ | 5, _, _ | 6, _, _ | 7, _, _ | 8, _, _ | 9, _, _ | 10, _, _ | 11, _, _ | 12, _, _ | 13, _, _ | 14, _, _ | 15, _, _ => by kernel_rfl
  | n + 16, h, _ => by omega
theorem hex_and : ∀ n : Fin 256, bits BinOp.and IntKind.u8 ((n.val : Nat) : Int) 15 = ((n.val % 16 : Nat) : Int) := by decide +kernel
theorem wrap_u8 : ∀ n : Fin 17, IntKind.u8.wrap ((n.val : Nat) : Int) = ((n.val : Nat) : Int) := by decide +kernel
theorem hex_hi (c : UInt8) (W : World) : (Instr.slice 9 (.string ⟨#[48, 49, 50, 51, 52, 53, 54, 55, 56, 57, 97, 98, 99, 100, 101, 102]⟩) (some (.int .u8 ((c.toNat : Int) / 16))) (some (.int .u8 (IntKind.u8.wrap ((c.toNat : Int) / 16 + 1)))) none).run Tryd.prog W = .ok (.string ⟨#[Js.hx (c.toNat / 16)]⟩) W := by
  have hc : c.toNat < 256 := c.toNat_lt
  have h := hex_one (c.toNat / 16) (by omega) W
  have h2 := wrap_u8 ⟨c.toNat / 16 + 1, by omega⟩
  rw [show (c.toNat : Int) / 16 = ((c.toNat / 16 : Nat) : Int) by omega, show ((c.toNat / 16 : Nat) : Int) + 1 = ((c.toNat / 16 + 1 : Nat) : Int) by omega, h2]
  exact h
theorem hex_lo (c : UInt8) (W : World) : (Instr.slice 9 (.string ⟨#[48, 49, 50, 51, 52, 53, 54, 55, 56, 57, 97, 98, 99, 100, 101, 102]⟩) (some (.int .u8 (bits BinOp.and IntKind.u8 (c.toNat : Int) 15))) (some (.int .u8 (IntKind.u8.wrap (bits BinOp.and IntKind.u8 (c.toNat : Int) 15 + 1)))) none).run Tryd.prog W = .ok (.string ⟨#[Js.hx (c.toNat % 16)]⟩) W := by
  have hc : c.toNat < 256 := c.toNat_lt
  have h := hex_one (c.toNat % 16) (by omega) W
  have h2 := wrap_u8 ⟨c.toNat % 16 + 1, by omega⟩
  rw [hex_and ⟨c.toNat, hc⟩, show ((c.toNat % 16 : Nat) : Int) + 1 = ((c.toNat % 16 + 1 : Nat) : Int) by omega, h2]
  exact h
theorem bsz1 (x : UInt8) : (⟨#[x]⟩ : ByteArray).size = 1 := rfl
theorem bsz4 (a b c d : UInt8) : (⟨#[a, b, c, d]⟩ : ByteArray).size = 4 := rfl
def QPost (s : ByteArray) (w : World) (e : Ending) (w' : World) : Prop := Below w.heap.size w w' ∧ match Js.quote s.data.toList with
    | some q => e = .returned (.tuple #[.string (S q), .bool true])
    | none => e = .returned (.tuple #[.string ByteArray.empty, .bool false])
theorem bytes_snoc (l : List UInt8) (c : UInt8) : Lib.byteCells l ++ [.int .u8 (c.toNat : Int)] = Lib.byteCells (l ++ [c]) := by simp [Lib.byteCells]
set_option maxRecDepth 100000 in
set_option maxHeartbeats 8000000 in
theorem quote_walk (s : ByteArray) (w : World) (hs : s.size ≤ 1000000000) : Calls Tryd.prog 13 #[.string s] w fun e w' => QPost s w e w' := by
  have hfr : Bld 50 [] w.heap.size w.heap.size [] (w.alloc (.cells #[.pointer none, .slice none 0 0] 50)) := ⟨Nat.le_refl _, .pointer none, .slice none 0 0, .inl rfl, Array.getElem?_push_size, World.ownsRow_nil _ _ _ _⟩
  have hw1 := writeByte_calls begins50 hfr (by simp) 34
  have hb1 : Below w.heap.size w (w.alloc (.cells #[.pointer none, .slice none 0 0] 50)) := (Below.refl _ _).alloc (Nat.le_refl _) _
  replace hw1 := Aside0.mk hw1
  replace hb1 := Aside0.mk hb1
  clear hfr
  have kc : ∀ (W : World), (convert 9 48 (.string s)).run Tryd.prog W = _ := fun W => run_bytes_of_string W 9 48 5 s Tryd.underlying9 Tryd.underlying48 Tryd.underlying5
  go_enter Tryd.func13, Tryd.ntmps13
  go_wp2_with (go_at_call 21; refine hw1.out.mono ?_; rintro e W1 ⟨rfl, m1, b1, _⟩)
  obtain ⟨cap, hcap⟩ : ∃ cap, grownCap W1 s.size 0 5 = cap := ⟨_, rfl⟩
  rw [hcap]
  have M1 := Aside0.mk (And.intro m1 (hb1.out.trans b1))
  clear m1 b1 hcap
  go_loopw [12] (fun t12 wr => QRel w w.heap.size w.heap.size W1.heap.size s cap t12 wr) (fun t12 _ => mQ s t12)
  case atStart =>
    refine ⟨0, rfl, Nat.zero_le _, fun c hc => by simp at hc, M1.out.1.below ((Below.refl _ _).drew.alloc (Nat.le_refl _) _), Array.getElem?_push_size, M1.out.2.drew.alloc M1.out.1.base_le _, ?_, Nat.zero_le _⟩
    have := M1.out.1.lt; omega
  case round =>
    obtain ⟨i, rfl, hi, hall, hB, hR, hb, hne, hql⟩ := hrel
    have HA := Aside0.mk hall
    have HB := Aside0.mk hB
    have HR := Aside0.mk hR
    have Hb := Aside0.mk hb
    have HQ := Aside0.mk hql
    clear hall hB hb hql
    by_cases hlt : i < s.size
    · obtain ⟨c, hc⟩ : ∃ c, s[i] = c := ⟨_, rfl⟩
      have hcell : wr.cell? ⟨W1.heap.size, i, none⟩ = some (.int .u8 (c.toNat : Int)) := by
        rw [Lib.cell_of_heap hR, bytesRow_at s cap i hlt]; rw [← hc]; rfl
      have htk : s.data.toList.take (i + 1) = s.data.toList.take i ++ [c] := by
        rw [List.take_succ_eq_append_getElem (by rw [size_len]; exact hlt), ← hc]; rfl
      have HT := Aside0.mk htk
      clear hR htk
      have hlt' : (i : Int) < (s.size : Int) := by omega
      have hix := Aside0.mk (fun W => indexByte_calls ⟨#[34, 92, 47, 10, 13, 9]⟩ c W)
      by_cases h128 : 128 ≤ c.toNat
      · have h1 : ((c.toNat : Int) ≥ 128) = True := eq_true (by omega)
        obtain ⟨z, hz⟩ : ∃ z, Lib.indexByte (⟨#[34, 92, 47, 10, 13, 9]⟩ : ByteArray).data.toList c = z := ⟨_, rfl⟩
        have hix2 : ∀ W, Calls Tryd.prog 22 #[.string ⟨#[34, 92, 47, 10, 13, 9]⟩, .int .u8 (c.toNat : Int)] W fun e w' => e = .returned (.int .i64 z) ∧ w' = W := fun W => hz ▸ hix.out W
        replace hix2 := Aside0.mk hix2
        clear hz hix
        go_wp2_with (go_at_call 22; refine (hix2.out _).mono ?_; rintro e w' ⟨rfl, rfl⟩)
        go_ret2
        refine ⟨Hb.out, ?_⟩
        have hq : Js.quote s.data.toList = none := by
          unfold Js.quote
          rw [if_neg]
          intro h
          have := (List.all_eq_true.1 h) c (by rw [← hc]; exact List.getElem_mem (l := s.data.toList) _)
          have h2 : c < 128 := by simpa using this
          rw [UInt8.lt_iff_toNat_lt] at h2
          have : (128 : UInt8).toNat = 128 := rfl
          omega
        rw [hq]; rfl
      · have hc128 : c < 128 := by
          rw [UInt8.lt_iff_toNat_lt]; exact Nat.lt_of_not_le h128
        have HA' : Aside0 (∀ x ∈ s.data.toList.take (i + 1), x < 128) := ⟨fun x hx => by
          rw [HT.out] at hx
          rcases List.mem_append.1 hx with hx | hx
          · exact HA.out x hx
          · rw [List.mem_singleton.1 hx]; exact hc128⟩
        by_cases h34 : c = 34
        · subst h34
          have hix2 : ∀ W, Calls Tryd.prog 22 #[.string ⟨#[34, 92, 47, 10, 13, 9]⟩, .int .u8 34] W fun e w' => e = .returned (.int .i64 0) ∧ w' = W := fun W => hix.out W
          have hwb := Aside0.mk (writeString_calls begins50 HB.out (⟨#[92]⟩ ++ (⟨#[34, 92, 47, 110, 114, 116]⟩ : ByteArray).extract 0 1) (by have := HQ.out; rw [show (ByteArray.size (⟨#[92]⟩ ++ (⟨#[34, 92, 47, 110, 114, 116]⟩ : ByteArray).extract 0 1)) = 2 from rfl]; simp [Lib.byteCells]; omega))
          replace hix2 := Aside0.mk hix2
          clear hix h128
          have hcell : wr.cell? ⟨W1.heap.size, i, none⟩ = some (.int .u8 34) := hcell
          go_wp2_with (go_at_call 22; refine (hix2.out _).mono ?_; rintro e w' ⟨rfl, rfl⟩)
          refine hwb.out.mono ?_
          rintro e W2 ⟨rfl, m2, b2, k2⟩
          have hN := QRel.next (c := 34) hlt HT.out HA'.out HR.out Hb.out hne HQ.out m2 b2 k2 ⟨rfl, by decide⟩
          replace hN := Aside0.mk hN
          clear m2 b2 k2
          go_wp2_with fail
          exact ⟨hN.out, mQ_next hlt⟩
        by_cases h92 : c = 92
        · subst h92
          have hix2 : ∀ W, Calls Tryd.prog 22 #[.string ⟨#[34, 92, 47, 10, 13, 9]⟩, .int .u8 92] W fun e w' => e = .returned (.int .i64 1) ∧ w' = W := fun W => hix.out W
          have hwb := Aside0.mk (writeString_calls begins50 HB.out (⟨#[92]⟩ ++ (⟨#[34, 92, 47, 110, 114, 116]⟩ : ByteArray).extract 1 2) (by have := HQ.out; rw [show (ByteArray.size (⟨#[92]⟩ ++ (⟨#[34, 92, 47, 110, 114, 116]⟩ : ByteArray).extract 1 2)) = 2 from rfl]; simp [Lib.byteCells]; omega))
          replace hix2 := Aside0.mk hix2
          clear hix h128
          have hcell : wr.cell? ⟨W1.heap.size, i, none⟩ = some (.int .u8 92) := hcell
          go_wp2_with (go_at_call 22; refine (hix2.out _).mono ?_; rintro e w' ⟨rfl, rfl⟩)
          refine hwb.out.mono ?_
          rintro e W2 ⟨rfl, m2, b2, k2⟩
          have hN := QRel.next (c := 92) hlt HT.out HA'.out HR.out Hb.out hne HQ.out m2 b2 k2 ⟨rfl, by decide⟩
          replace hN := Aside0.mk hN
          clear m2 b2 k2
          go_wp2_with fail
          exact ⟨hN.out, mQ_next hlt⟩
        by_cases h10 : c = 10
        · subst h10
          have hix2 : ∀ W, Calls Tryd.prog 22 #[.string ⟨#[34, 92, 47, 10, 13, 9]⟩, .int .u8 10] W fun e w' => e = .returned (.int .i64 3) ∧ w' = W := fun W => hix.out W
          have hwb := Aside0.mk (writeString_calls begins50 HB.out (⟨#[92]⟩ ++ (⟨#[34, 92, 47, 110, 114, 116]⟩ : ByteArray).extract 3 4) (by have := HQ.out; rw [show (ByteArray.size (⟨#[92]⟩ ++ (⟨#[34, 92, 47, 110, 114, 116]⟩ : ByteArray).extract 3 4)) = 2 from rfl]; simp [Lib.byteCells]; omega))
          replace hix2 := Aside0.mk hix2
          clear hix h128
          have hcell : wr.cell? ⟨W1.heap.size, i, none⟩ = some (.int .u8 10) := hcell
          go_wp2_with (go_at_call 22; refine (hix2.out _).mono ?_; rintro e w' ⟨rfl, rfl⟩)
          refine hwb.out.mono ?_
          rintro e W2 ⟨rfl, m2, b2, k2⟩
          have hN := QRel.next (c := 10) hlt HT.out HA'.out HR.out Hb.out hne HQ.out m2 b2 k2 ⟨rfl, by decide⟩
          replace hN := Aside0.mk hN
          clear m2 b2 k2
          go_wp2_with fail
          exact ⟨hN.out, mQ_next hlt⟩
        by_cases h13 : c = 13
        · subst h13
          have hix2 : ∀ W, Calls Tryd.prog 22 #[.string ⟨#[34, 92, 47, 10, 13, 9]⟩, .int .u8 13] W fun e w' => e = .returned (.int .i64 4) ∧ w' = W := fun W => hix.out W
          have hwb := Aside0.mk (writeString_calls begins50 HB.out (⟨#[92]⟩ ++ (⟨#[34, 92, 47, 110, 114, 116]⟩ : ByteArray).extract 4 5) (by have := HQ.out; rw [show (ByteArray.size (⟨#[92]⟩ ++ (⟨#[34, 92, 47, 110, 114, 116]⟩ : ByteArray).extract 4 5)) = 2 from rfl]; simp [Lib.byteCells]; omega))
          replace hix2 := Aside0.mk hix2
          clear hix h128
          have hcell : wr.cell? ⟨W1.heap.size, i, none⟩ = some (.int .u8 13) := hcell
          go_wp2_with (go_at_call 22; refine (hix2.out _).mono ?_; rintro e w' ⟨rfl, rfl⟩)
          refine hwb.out.mono ?_
          rintro e W2 ⟨rfl, m2, b2, k2⟩
          have hN := QRel.next (c := 13) hlt HT.out HA'.out HR.out Hb.out hne HQ.out m2 b2 k2 ⟨rfl, by decide⟩
          replace hN := Aside0.mk hN
          clear m2 b2 k2
          go_wp2_with fail
          exact ⟨hN.out, mQ_next hlt⟩
        by_cases h9 : c = 9
        · subst h9
          have hix2 : ∀ W, Calls Tryd.prog 22 #[.string ⟨#[34, 92, 47, 10, 13, 9]⟩, .int .u8 9] W fun e w' => e = .returned (.int .i64 5) ∧ w' = W := fun W => hix.out W
          have hwb := Aside0.mk (writeString_calls begins50 HB.out (⟨#[92]⟩ ++ (⟨#[34, 92, 47, 110, 114, 116]⟩ : ByteArray).extract 5 6) (by have := HQ.out; rw [show (ByteArray.size (⟨#[92]⟩ ++ (⟨#[34, 92, 47, 110, 114, 116]⟩ : ByteArray).extract 5 6)) = 2 from rfl]; simp [Lib.byteCells]; omega))
          replace hix2 := Aside0.mk hix2
          clear hix h128
          have hcell : wr.cell? ⟨W1.heap.size, i, none⟩ = some (.int .u8 9) := hcell
          go_wp2_with (go_at_call 22; refine (hix2.out _).mono ?_; rintro e w' ⟨rfl, rfl⟩)
          refine hwb.out.mono ?_
          rintro e W2 ⟨rfl, m2, b2, k2⟩
          have hN := QRel.next (c := 9) hlt HT.out HA'.out HR.out Hb.out hne HQ.out m2 b2 k2 ⟨rfl, by decide⟩
          replace hN := Aside0.mk hN
          clear m2 b2 k2
          go_wp2_with fail
          exact ⟨hN.out, mQ_next hlt⟩
        by_cases h47 : c = 47
        · subst h47
          have hix2 : ∀ W, Calls Tryd.prog 22 #[.string ⟨#[34, 92, 47, 10, 13, 9]⟩, .int .u8 47] W fun e w' => e = .returned (.int .i64 2) ∧ w' = W := fun W => hix.out W
          have hwb := Aside0.mk (writeByte_calls begins50 HB.out (by have := HQ.out; simp [Lib.byteCells]; omega) 47)
          replace hix2 := Aside0.mk hix2
          clear hix h128
          have hcell : wr.cell? ⟨W1.heap.size, i, none⟩ = some (.int .u8 47) := hcell
          go_wp2_with (go_at_call 22; refine (hix2.out _).mono ?_; rintro e w' ⟨rfl, rfl⟩)
          refine hwb.out.mono ?_
          rintro e W2 ⟨rfl, m2, b2, k2⟩
          have hN := QRel.next (c := 47) hlt HT.out HA'.out HR.out Hb.out hne HQ.out m2 b2 k2 ⟨rfl, by decide⟩
          replace hN := Aside0.mk hN
          clear m2 b2 k2
          go_wp2_with fail
          exact ⟨hN.out, mQ_next hlt⟩
        have hix2 : ∀ W, Calls Tryd.prog 22 #[.string ⟨#[34, 92, 47, 10, 13, 9]⟩, .int .u8 (c.toNat : Int)] W fun e w' => e = .returned (.int .i64 (-1)) ∧ w' = W := fun W => by
          have h := hix.out W
          have hne : ∀ a : UInt8, c ≠ a → (a == c) = false := fun a h => by simpa using fun e => h e.symm
          rw [show Lib.indexByte (⟨#[34, 92, 47, 10, 13, 9]⟩ : ByteArray).data.toList c = -1 by simp [Lib.indexByte, hne _ h34, hne _ h92, hne _ h47, hne _ h10, hne _ h13, hne _ h9]] at h
          exact h
        replace hix2 := Aside0.mk hix2
        clear hix
        have g128 : (128 ≤ (c.toNat : Int)) = False := eq_false (by omega)
        by_cases hctl : c.toNat < 32 ∨ c.toNat = 127
        · have hq1 : Js.q1 c = [92, 117, 48, 48, Js.hx (c.toNat / 16), Js.hx (c.toNat % 16)] := by
            unfold Js.q1
            rw [if_neg h34, if_neg h92, if_neg h10, if_neg h13, if_neg h9, if_pos]
            rcases hctl with h | h
            · exact .inl (by rw [UInt8.lt_iff_toNat_lt]; exact h)
            · exact .inr (UInt8.toNat_inj.1 h)
          replace hq1 := Aside0.mk hq1
          rcases hctl with hctl | hctl
          · have g32 : ((c.toNat : Int) < 32) = True := eq_true (by omega)
            have hs1 := hex_hi c
            have hs2 := hex_lo c
            have hwb := Aside0.mk (writeString_calls begins50 (HB.out.below (Below.drew (Below.refl _ _))) ((⟨#[92, 117, 48, 48]⟩ ++ ⟨#[Js.hx (c.toNat / 16)]⟩) ++ ⟨#[Js.hx (c.toNat % 16)]⟩) (by have := HQ.out; simp [Lib.byteCells, ByteArray.size_append, bsz1, bsz4]; omega))
            replace hctl := Aside0.mk hctl
            clear h34 h92 h10 h13 h9 h47
            go_wp2_with (go_at_call 22; refine (hix2.out _).mono ?_; rintro e w' ⟨rfl, rfl⟩)
            clear hix2 hcell hctl g32
            refine start_ (n := 15) (S := fun w' => True) (ds := []) #[false, false, false, false, false, false, false, false, false, false, false, false, false, false, false] (by kernel_rfl) rfl rfl trivial (fun hHeld => ?_)
            refine pure_ (i := 0) (N := some 43) (v := ?_) (a' := ?_) #[true, false, false, false, false, false, false, false, false, false, false, false, false, false, false] rfl rfl (by kernel_rfl) (fun _ _ _ h => h) (Or.inl ⟨by rfl, ?_⟩) ?_ ?_
            rotate_left
            · intro w'
              go_simp
              with_reducible rfl
            rotate_left
            · simp only [Act.put, List.setIfInBounds_toArray, List.set_cons_zero, List.set_cons_succ, i64_w, i32_w]
              rfl
            refine pure_ (i := 1) (N := some 44) (v := ?_) (a' := ?_) #[true, true, false, false, false, false, false, false, false, false, false, false, false, false, false] rfl rfl (by kernel_rfl) (fun _ _ _ h => h) (Or.inl ⟨by rfl, ?_⟩) ?_ ?_
            rotate_left
            · intro w'
              go_simp
              with_reducible rfl
            rotate_left
            · simp only [Act.put, List.setIfInBounds_toArray, List.set_cons_zero, List.set_cons_succ, i64_w, i32_w]
              rfl
            refine pure_ (i := 2) (N := some 45) (v := ?_) (a' := ?_) #[true, true, true, false, false, false, false, false, false, false, false, false, false, false, false] rfl rfl (by kernel_rfl) (fun _ _ _ h => h) (Or.inl ⟨by rfl, ?_⟩) ?_ ?_
            rotate_left
            · intro w'
              go_simp
              with_reducible rfl
            rotate_left
            · simp only [Act.put, List.setIfInBounds_toArray, List.set_cons_zero, List.set_cons_succ, i64_w, i32_w]
              rfl
            refine pure_ (i := 3) (N := some 46) (v := ?_) (a' := ?_) #[true, true, true, true, false, false, false, false, false, false, false, false, false, false, false] rfl rfl (by kernel_rfl) (fun _ _ _ h => h) (Or.inl ⟨by rfl, ?_⟩) ?_ ?_
            rotate_left
            · intro w'
              go_simp
              with_reducible rfl
            rotate_left
            · simp only [Act.put, List.setIfInBounds_toArray, List.set_cons_zero, List.set_cons_succ, i64_w, i32_w]
              rfl
            refine pure_ (i := 4) (N := some 47) (v := ?_) (a' := ?_) #[true, true, true, true, true, false, false, false, false, false, false, false, false, false, false] rfl rfl (by kernel_rfl) (fun _ _ _ h => h) (Or.inl ⟨by rfl, ?_⟩) ?_ ?_
            rotate_left
            · intro w'
              go_simp
              with_reducible rfl
            rotate_left
            · simp only [Act.put, List.setIfInBounds_toArray, List.set_cons_zero, List.set_cons_succ, i64_w, i32_w]
              rfl
            refine pure_ (i := 5) (N := some 48) (v := ?_) (a' := ?_) #[true, true, true, true, true, true, false, false, false, false, false, false, false, false, false] rfl rfl (by kernel_rfl) (fun _ _ _ h => h) (Or.inl ⟨by rfl, ?_⟩) ?_ ?_
            rotate_left
            · intro w'
              go_simp
              with_reducible rfl
            rotate_left
            · simp only [Act.put, List.setIfInBounds_toArray, List.set_cons_zero, List.set_cons_succ, i64_w, i32_w]
              rfl
            refine pure_ (i := 6) (N := some 49) (v := ?_) (a' := ?_) #[true, true, true, true, true, true, true, false, false, false, false, false, false, false, false] rfl rfl (by kernel_rfl) (fun _ _ _ h => h) (Or.inl ⟨by rfl, ?_⟩) ?_ ?_
            rotate_left
            · intro w'
              go_simp
              with_reducible rfl
            rotate_left
            · simp only [Act.put, List.setIfInBounds_toArray, List.set_cons_zero, List.set_cons_succ, i64_w, i32_w]
              rfl
            refine pure_ (i := 7) (N := some 50) (v := ?_) (a' := ?_) #[true, true, true, true, true, true, true, true, false, false, false, false, false, false, false] rfl rfl (by kernel_rfl) (fun _ _ _ h => h) (Or.inl ⟨by rfl, ?_⟩) ?_ ?_
            rotate_left
            · intro w'
              go_simp
              with_reducible rfl
            rotate_left
            · simp only [Act.put, List.setIfInBounds_toArray, List.set_cons_zero, List.set_cons_succ, i64_w, i32_w]
              rfl
            refine pure_ (i := 8) (N := some 51) (v := ?_) (a' := ?_) #[true, true, true, true, true, true, true, true, true, false, false, false, false, false, false] rfl rfl (by kernel_rfl) (fun _ _ _ h => h) (Or.inl ⟨by rfl, ?_⟩) ?_ ?_
            rotate_left
            · intro w'
              go_simp
              with_reducible rfl
            rotate_left
            · simp only [Act.put, List.setIfInBounds_toArray, List.set_cons_zero, List.set_cons_succ, i64_w, i32_w]
              rfl
            refine pure_ (i := 9) (N := some 52) (v := ?_) (a' := ?_) #[true, true, true, true, true, true, true, true, true, true, false, false, false, false, false] rfl rfl (by kernel_rfl) (fun _ _ _ h => h) (Or.inl ⟨by rfl, ?_⟩) ?_ ?_
            rotate_left
            · intro w'
              go_simp
              with_reducible rfl
            rotate_left
            · simp only [Act.put, List.setIfInBounds_toArray, List.set_cons_zero, List.set_cons_succ, i64_w, i32_w]
              rfl
            refine pure_ (i := 10) (N := some 53) (v := ?_) (a' := ?_) #[true, true, true, true, true, true, true, true, true, true, true, false, false, false, false] rfl rfl (by kernel_rfl) (fun _ _ _ h => h) (Or.inl ⟨by rfl, ?_⟩) ?_ ?_
            rotate_left
            · intro w'
              go_simp
              with_reducible rfl
            rotate_left
            · simp only [Act.put, List.setIfInBounds_toArray, List.set_cons_zero, List.set_cons_succ, i64_w, i32_w]
              rfl
            refine pure_ (i := 11) (N := some 54) (v := ?_) (a' := ?_) #[true, true, true, true, true, true, true, true, true, true, true, true, false, false, false] rfl rfl (by kernel_rfl) (fun _ _ _ h => h) (Or.inl ⟨by rfl, ?_⟩) ?_ ?_
            rotate_left
            · intro w'
              go_simp
              with_reducible rfl
            rotate_left
            · simp only [Act.put, List.setIfInBounds_toArray, List.set_cons_zero, List.set_cons_succ, i64_w, i32_w]
              rfl
            refine pure_ (i := 12) (N := some 55) (v := ?_) (a' := ?_) #[true, true, true, true, true, true, true, true, true, true, true, true, true, false, false] rfl rfl (by kernel_rfl) (fun _ _ _ h => h) (Or.inl ⟨by rfl, ?_⟩) ?_ ?_
            rotate_left
            · intro w'
              go_simp
              with_reducible rfl
            rotate_left
            · simp only [Act.put, List.setIfInBounds_toArray, List.set_cons_zero, List.set_cons_succ, i64_w, i32_w]
              rfl
            refine pure_ (i := 13) (N := some 56) (v := ?_) (a' := ?_) #[true, true, true, true, true, true, true, true, true, true, true, true, true, true, false] rfl rfl (by kernel_rfl) (fun _ _ _ h => h) (Or.inl ⟨by rfl, ?_⟩) ?_ ?_
            rotate_left
            · intro w'
              go_simp
              with_reducible rfl
            rotate_left
            · simp only [Act.put, List.setIfInBounds_toArray, List.set_cons_zero, List.set_cons_succ, i64_w, i32_w]
              rfl
            refine one_ (i := 14) (N := some 57) #[true, true, true, true, true, true, true, true, true, true, true, true, true, true, true] rfl rfl (by kernel_rfl) (by decide) (fun K hK => ?_)
            refine goes_ Tryd.func23 (by kernel_rfl) rfl #[.pointer (some ⟨w.heap.size, 0, none⟩), .string ((⟨#[92, 117, 48, 48]⟩ ++ ⟨#[Js.hx (c.toNat / 16)]⟩) ++ ⟨#[Js.hx (c.toNat % 16)]⟩)] (by rfl) rfl rfl (by simp only [List.map_toArray, List.map_cons, List.map_nil]; rfl) ?_
            with_reducible refine (hwb.out).mono ?_
            rintro e W2 ⟨rfl, m2, b2, k2⟩
            refine ⟨_, rfl, ?_⟩
            refine hK.out _ _ trivial (fun hHeld => ?_)
            clear hK K
            refine norm_ (a' := ?_) ?_ ?_
            rotate_left
            · show Act.put _ (some 57) _ = _
              simp only [Act.put, List.setIfInBounds_toArray, List.set_cons_zero, List.set_cons_succ, i64_w, i32_w]
              rfl
            refine done_ (by kernel_rfl) ?_

            have hN := QRel.next (c := c) hlt HT.out HA'.out HR.out Hb.out hne HQ.out m2 ((Below.drew (Below.refl _ _)).trans b2) ((Kp.drew (Kp.refl _ _)).trans k2) ⟨by rw [hq1.out]; rfl, by rw [hq1.out]; simp⟩
            replace hN := Aside0.mk hN
            clear m2 b2 k2
            go_wp2_with fail
            exact ⟨hN.out, mQ_next hlt⟩

          · have g32 : ((c.toNat : Int) < 32) = False := eq_false (by omega)
            have g127 : ((c.toNat : Int) == 127) = true := by simp; omega
            have hs1 := hex_hi c
            have hs2 := hex_lo c
            have hwb := Aside0.mk (writeString_calls begins50 (HB.out.below (Below.drew (Below.refl _ _))) ((⟨#[92, 117, 48, 48]⟩ ++ ⟨#[Js.hx (c.toNat / 16)]⟩) ++ ⟨#[Js.hx (c.toNat % 16)]⟩) (by have := HQ.out; simp [Lib.byteCells, ByteArray.size_append, bsz1, bsz4]; omega))
            replace hctl := Aside0.mk hctl
            clear h34 h92 h10 h13 h9 h47
            go_wp2_with (go_at_call 22; refine (hix2.out _).mono ?_; rintro e w' ⟨rfl, rfl⟩)
            clear hix2 hcell hctl g32
            refine start_ (n := 15) (S := fun w' => True) (ds := []) #[false, false, false, false, false, false, false, false, false, false, false, false, false, false, false] (by kernel_rfl) rfl rfl trivial (fun hHeld => ?_)
            refine pure_ (i := 0) (N := some 43) (v := ?_) (a' := ?_) #[true, false, false, false, false, false, false, false, false, false, false, false, false, false, false] rfl rfl (by kernel_rfl) (fun _ _ _ h => h) (Or.inl ⟨by rfl, ?_⟩) ?_ ?_
            rotate_left
            · intro w'
              go_simp
              with_reducible rfl
            rotate_left
            · simp only [Act.put, List.setIfInBounds_toArray, List.set_cons_zero, List.set_cons_succ, i64_w, i32_w]
              rfl
            refine pure_ (i := 1) (N := some 44) (v := ?_) (a' := ?_) #[true, true, false, false, false, false, false, false, false, false, false, false, false, false, false] rfl rfl (by kernel_rfl) (fun _ _ _ h => h) (Or.inl ⟨by rfl, ?_⟩) ?_ ?_
            rotate_left
            · intro w'
              go_simp
              with_reducible rfl
            rotate_left
            · simp only [Act.put, List.setIfInBounds_toArray, List.set_cons_zero, List.set_cons_succ, i64_w, i32_w]
              rfl
            refine pure_ (i := 2) (N := some 45) (v := ?_) (a' := ?_) #[true, true, true, false, false, false, false, false, false, false, false, false, false, false, false] rfl rfl (by kernel_rfl) (fun _ _ _ h => h) (Or.inl ⟨by rfl, ?_⟩) ?_ ?_
            rotate_left
            · intro w'
              go_simp
              with_reducible rfl
            rotate_left
            · simp only [Act.put, List.setIfInBounds_toArray, List.set_cons_zero, List.set_cons_succ, i64_w, i32_w]
              rfl
            refine pure_ (i := 3) (N := some 46) (v := ?_) (a' := ?_) #[true, true, true, true, false, false, false, false, false, false, false, false, false, false, false] rfl rfl (by kernel_rfl) (fun _ _ _ h => h) (Or.inl ⟨by rfl, ?_⟩) ?_ ?_
            rotate_left
            · intro w'
              go_simp
              with_reducible rfl
            rotate_left
            · simp only [Act.put, List.setIfInBounds_toArray, List.set_cons_zero, List.set_cons_succ, i64_w, i32_w]
              rfl
            refine pure_ (i := 4) (N := some 47) (v := ?_) (a' := ?_) #[true, true, true, true, true, false, false, false, false, false, false, false, false, false, false] rfl rfl (by kernel_rfl) (fun _ _ _ h => h) (Or.inl ⟨by rfl, ?_⟩) ?_ ?_
            rotate_left
            · intro w'
              go_simp
              with_reducible rfl
            rotate_left
            · simp only [Act.put, List.setIfInBounds_toArray, List.set_cons_zero, List.set_cons_succ, i64_w, i32_w]
              rfl
            refine pure_ (i := 5) (N := some 48) (v := ?_) (a' := ?_) #[true, true, true, true, true, true, false, false, false, false, false, false, false, false, false] rfl rfl (by kernel_rfl) (fun _ _ _ h => h) (Or.inl ⟨by rfl, ?_⟩) ?_ ?_
            rotate_left
            · intro w'
              go_simp
              with_reducible rfl
            rotate_left
            · simp only [Act.put, List.setIfInBounds_toArray, List.set_cons_zero, List.set_cons_succ, i64_w, i32_w]
              rfl
            refine pure_ (i := 6) (N := some 49) (v := ?_) (a' := ?_) #[true, true, true, true, true, true, true, false, false, false, false, false, false, false, false] rfl rfl (by kernel_rfl) (fun _ _ _ h => h) (Or.inl ⟨by rfl, ?_⟩) ?_ ?_
            rotate_left
            · intro w'
              go_simp
              with_reducible rfl
            rotate_left
            · simp only [Act.put, List.setIfInBounds_toArray, List.set_cons_zero, List.set_cons_succ, i64_w, i32_w]
              rfl
            refine pure_ (i := 7) (N := some 50) (v := ?_) (a' := ?_) #[true, true, true, true, true, true, true, true, false, false, false, false, false, false, false] rfl rfl (by kernel_rfl) (fun _ _ _ h => h) (Or.inl ⟨by rfl, ?_⟩) ?_ ?_
            rotate_left
            · intro w'
              go_simp
              with_reducible rfl
            rotate_left
            · simp only [Act.put, List.setIfInBounds_toArray, List.set_cons_zero, List.set_cons_succ, i64_w, i32_w]
              rfl
            refine pure_ (i := 8) (N := some 51) (v := ?_) (a' := ?_) #[true, true, true, true, true, true, true, true, true, false, false, false, false, false, false] rfl rfl (by kernel_rfl) (fun _ _ _ h => h) (Or.inl ⟨by rfl, ?_⟩) ?_ ?_
            rotate_left
            · intro w'
              go_simp
              with_reducible rfl
            rotate_left
            · simp only [Act.put, List.setIfInBounds_toArray, List.set_cons_zero, List.set_cons_succ, i64_w, i32_w]
              rfl
            refine pure_ (i := 9) (N := some 52) (v := ?_) (a' := ?_) #[true, true, true, true, true, true, true, true, true, true, false, false, false, false, false] rfl rfl (by kernel_rfl) (fun _ _ _ h => h) (Or.inl ⟨by rfl, ?_⟩) ?_ ?_
            rotate_left
            · intro w'
              go_simp
              with_reducible rfl
            rotate_left
            · simp only [Act.put, List.setIfInBounds_toArray, List.set_cons_zero, List.set_cons_succ, i64_w, i32_w]
              rfl
            refine pure_ (i := 10) (N := some 53) (v := ?_) (a' := ?_) #[true, true, true, true, true, true, true, true, true, true, true, false, false, false, false] rfl rfl (by kernel_rfl) (fun _ _ _ h => h) (Or.inl ⟨by rfl, ?_⟩) ?_ ?_
            rotate_left
            · intro w'
              go_simp
              with_reducible rfl
            rotate_left
            · simp only [Act.put, List.setIfInBounds_toArray, List.set_cons_zero, List.set_cons_succ, i64_w, i32_w]
              rfl
            refine pure_ (i := 11) (N := some 54) (v := ?_) (a' := ?_) #[true, true, true, true, true, true, true, true, true, true, true, true, false, false, false] rfl rfl (by kernel_rfl) (fun _ _ _ h => h) (Or.inl ⟨by rfl, ?_⟩) ?_ ?_
            rotate_left
            · intro w'
              go_simp
              with_reducible rfl
            rotate_left
            · simp only [Act.put, List.setIfInBounds_toArray, List.set_cons_zero, List.set_cons_succ, i64_w, i32_w]
              rfl
            refine pure_ (i := 12) (N := some 55) (v := ?_) (a' := ?_) #[true, true, true, true, true, true, true, true, true, true, true, true, true, false, false] rfl rfl (by kernel_rfl) (fun _ _ _ h => h) (Or.inl ⟨by rfl, ?_⟩) ?_ ?_
            rotate_left
            · intro w'
              go_simp
              with_reducible rfl
            rotate_left
            · simp only [Act.put, List.setIfInBounds_toArray, List.set_cons_zero, List.set_cons_succ, i64_w, i32_w]
              rfl
            refine pure_ (i := 13) (N := some 56) (v := ?_) (a' := ?_) #[true, true, true, true, true, true, true, true, true, true, true, true, true, true, false] rfl rfl (by kernel_rfl) (fun _ _ _ h => h) (Or.inl ⟨by rfl, ?_⟩) ?_ ?_
            rotate_left
            · intro w'
              go_simp
              with_reducible rfl
            rotate_left
            · simp only [Act.put, List.setIfInBounds_toArray, List.set_cons_zero, List.set_cons_succ, i64_w, i32_w]
              rfl
            refine one_ (i := 14) (N := some 57) #[true, true, true, true, true, true, true, true, true, true, true, true, true, true, true] rfl rfl (by kernel_rfl) (by decide) (fun K hK => ?_)
            refine goes_ Tryd.func23 (by kernel_rfl) rfl #[.pointer (some ⟨w.heap.size, 0, none⟩), .string ((⟨#[92, 117, 48, 48]⟩ ++ ⟨#[Js.hx (c.toNat / 16)]⟩) ++ ⟨#[Js.hx (c.toNat % 16)]⟩)] (by rfl) rfl rfl (by simp only [List.map_toArray, List.map_cons, List.map_nil]; rfl) ?_
            with_reducible refine (hwb.out).mono ?_
            rintro e W2 ⟨rfl, m2, b2, k2⟩
            refine ⟨_, rfl, ?_⟩
            refine hK.out _ _ trivial (fun hHeld => ?_)
            clear hK K
            refine norm_ (a' := ?_) ?_ ?_
            rotate_left
            · show Act.put _ (some 57) _ = _
              simp only [Act.put, List.setIfInBounds_toArray, List.set_cons_zero, List.set_cons_succ, i64_w, i32_w]
              rfl
            refine done_ (by kernel_rfl) ?_

            have hN := QRel.next (c := c) hlt HT.out HA'.out HR.out Hb.out hne HQ.out m2 ((Below.drew (Below.refl _ _)).trans b2) ((Kp.drew (Kp.refl _ _)).trans k2) ⟨by rw [hq1.out]; rfl, by rw [hq1.out]; simp⟩
            replace hN := Aside0.mk hN
            clear m2 b2 k2
            go_wp2_with fail
            exact ⟨hN.out, mQ_next hlt⟩

        · have hq1 : Js.q1 c = [c] := by
            unfold Js.q1
            rw [if_neg h34, if_neg h92, if_neg h10, if_neg h13, if_neg h9, if_neg]
            rintro (h | h)
            · rw [UInt8.lt_iff_toNat_lt] at h; exact hctl (.inl h)
            · exact hctl (.inr (by rw [h]; rfl))
          replace hq1 := Aside0.mk hq1
          have g32 : ((c.toNat : Int) < 32) = False := eq_false (by omega)
          have g127 : ((c.toNat : Int) == 127) = false := by simp; omega
          have hwb := Aside0.mk (writeByte_calls begins50 HB.out (by have := HQ.out; simp [Lib.byteCells]; omega) (c.toNat : Int))
          clear h34 h92 h10 h13 h9 h47 hctl
          go_wp2_with (go_at_call 22; refine (hix2.out _).mono ?_; rintro e w' ⟨rfl, rfl⟩)
          refine hwb.out.mono ?_
          rintro e W2 ⟨rfl, m2, b2, k2⟩
          have hN := QRel.next (c := c) hlt HT.out HA'.out HR.out Hb.out hne HQ.out m2 b2 k2 ⟨by rw [hq1.out]; rfl, by rw [hq1.out]; simp⟩
          replace hN := Aside0.mk hN
          clear m2 b2 k2
          go_wp2_with fail
          exact ⟨hN.out, mQ_next hlt⟩
    · have hge : ((i : Int) < (s.size : Int)) = False := eq_false (by omega)
      have hwb := Aside0.mk (writeByte_calls begins50 HB.out (by have := HQ.out; simp [Lib.byteCells]; omega) 34)
      clear hR
      go_wp2_with (go_at_call 21; refine hwb.out.mono ?_; rintro e W2 ⟨rfl, m2, b2, _⟩)
      have hie : i = s.size := by omega
      have htk : s.data.toList.take i = s.data.toList := by rw [hie]; exact List.take_length
      have HL := HA.out
      rw [htk] at m2 HL
      have m3 : Bld 50 [] w.heap.size w.heap.size (Lib.byteCells (34 :: (Js.qall s.data.toList ++ [34]))) W2 := by
        rw [show (34 : UInt8) :: (Js.qall s.data.toList ++ [34]) = (34 :: Js.qall s.data.toList) ++ [34] from rfl, ← bytes_snoc]; exact m2
      have hst := Aside0.mk (string_calls begins50 m3 (by simp))
      have HL := Aside0.mk (And.intro HL (Hb.out.trans b2))
      clear m2 m3 b2 hge htk
      refine hst.out.mono ?_
      rintro e W3 ⟨rfl, b3, _⟩
      have HF := Aside0.mk (HL.out.2.trans b3)
      clear b3
      go_wp2_with fail
      go_ret2
      refine ⟨HF.out, ?_⟩
      have hq : Js.quote s.data.toList = some (34 :: (Js.qall s.data.toList ++ [34])) := by
        unfold Js.quote
        rw [if_pos (List.all_eq_true.2 fun c hc => by simpa using HL.out.1 c hc)]
      rw [hq]; rfl
def quoteR (q : Option (List UInt8)) : ByteArray × Bool := match q with
  | some q => (S q, true)
  | none => (ByteArray.empty, false)
def jsonic_Quote.f (a0 : ByteArray) : Option (ByteArray × Bool) := if a0.size ≤ 1000000000 then some (quoteR (Js.quote a0.data.toList)) else none
theorem jsonic_Quote.calls (a0 : ByteArray) (r : ByteArray) (r1 : Bool) (w : World) (HT : Tab w) (h : jsonic_Quote.f a0 = some (r, r1)) :
    Calls Tryd.prog 13 #[.string a0] w fun e w' => e = .returned (.tuple #[.string r, .bool r1]) ∧ Below w.heap.size w w' := by
  unfold jsonic_Quote.f at h
  split at h
  · rename_i hs
    have h := Option.some.inj h
    refine (quote_walk a0 w hs).mono ?_
    rintro e w' ⟨hb, hh⟩
    refine ⟨?_, hb⟩
    cases hq : Js.quote a0.data.toList with
    | some q => rw [hq] at hh h; simp only [quoteR, Prod.mk.injEq] at h; obtain ⟨rfl, rfl⟩ := h; exact hh
    | none => rw [hq] at hh h; simp only [quoteR, Prod.mk.injEq] at h; obtain ⟨rfl, rfl⟩ := h; exact hh
  · exact absurd h (by simp)
end Go.Proofs.YtainnkpoibgkcaaDoor
