/- jsonic's machine: number, walked by hand; strconv.Atoi and Itoa at this dump. Conditions: the machine lies as told; the listed variables too. -/
import Derived.Test.YtainnkpoibgkcaaDoorGivenC
import Derived.Lib.ItoaLen
namespace Go.Proofs.YtainnkpoibgkcaaDoor
set_option linter.unusedVariables false
set_option linter.unusedSimpArgs false
open Go.RowKit Go.Proofs.YtainnkpoibgkcaaDoor.PAll Go.Proofs.YtainnkpoibgkcaaDoorW.PrintWords Go.Proofs.YtainnkpoibgkcaaDoorW.PrintLast

def errAt (w : World) (g : Nat) : Prop := ∃ ev, w.cell? ⟨g, 0, none⟩ = some ev ∧ (ev = .nilIface ∨ ∃ te pe, ev = .iface te pe)
/-- What is asked of the listed variables. -/
def Tab (w : World) : Prop := Lib.TabIs Tryd.prog w "internal/strconv.uint64pow10" .u64 Lib.pow10Tab ∧ errAt w 2 ∧ errAt w 3
theorem errAt.below {w w' : World} {g : Nat} (h : errAt w g) (hb : Below w.heap.size w w') : errAt w' g := by
  obtain ⟨ev, h1, h2⟩ := h
  exact ⟨ev, (hb.cell (World.block_lt_of_cell? w _ h1)).trans h1, h2⟩
theorem Tab.below {w w' : World} (h : Tab w) (hb : Below w.heap.size w w') : Tab w' := by
  refine ⟨?_, h.2.1.below hb, h.2.2.below hb⟩
  have h := h.1
  unfold Lib.TabIs World.var? at *
  cases hg : Tryd.prog.globalNamed "internal/strconv.uint64pow10" with
  | none => simp [hg] at h
  | some g =>
    simp only [hg, Option.bind_some] at h ⊢
    have hlt : g < w.heap.size := by
      rcases Nat.lt_or_ge g w.heap.size with h' | h'
      · exact h'
      · rw [Array.getElem?_eq_none h'] at h; simp at h
    rw [hb.block g hlt]
    exact h
theorem below_grows {b : Nat} {w wr : World} (h : Below b w wr) (hb : b ≤ wr.heap.size) (q : Nat) (os : Array Obj) : Below b w (Sort.grow (wr.drewN q) os) := by
  refine ⟨h.os, h.tape, h.output, ?_, fun k hk => ?_⟩
  · have := h.size
    show w.heap.size ≤ (wr.heap ++ os).size
    rw [Array.size_append]; omega
  · show (wr.heap ++ os)[k]? = w.heap[k]?
    rw [Array.getElem?_append_left (by omega)]
    exact h.block k hk
theorem itoa_calls (n : Int) (h0 : -9223372036854775808 ≤ n) (h1 : n ≤ 9223372036854775807) (w : World) (HT : Tab w) :
    Calls Tryd.prog 30 #[.int .i64 n] w fun e w' => e = .returned (.string (S (Lib.itoa n))) ∧ Below w.heap.size w w' := by
  refine (Any.strconv_Itoa Tryd.laysM171 n h0 h1 w HT.1).mono ?_
  rintro e w' ⟨rfl, k, os, rfl⟩
  exact ⟨rfl, below_grows (Below.refl _ _) (Nat.le_refl _) _ _⟩
theorem atoi_ok (s : ByteArray) (hs : s.size ≤ 1000000000) (v : Int) (h : Lib.atoiAll s.data.toList = .ok v) (w : World) :
    Calls Tryd.prog 48 #[.string s] w fun e w' => e = .returned (.tuple #[.int .i64 v, .nilIface]) ∧ Below w.heap.size w w' := by
  refine (Any.strconv_Atoi_ok Tryd.laysC172 s (by omega) v h w).mono ?_
  rintro e w' ⟨rfl, hw⟩
  refine ⟨rfl, ?_⟩
  rcases hw with rfl | ⟨t, rfl⟩
  · exact Below.refl _ _
  · exact Lib.bytesWorld_below _ _ _
theorem atoi_bad (s : ByteArray) (hs : s.size ≤ 1000000000) (h : ∀ v, Lib.atoiAll s.data.toList ≠ .ok v) (w : World) (HT : Tab w) :
    Calls Tryd.prog 48 #[.string s] w fun e w' => ∃ u t p, e = .returned (.tuple #[.int .i64 u, .iface t p]) ∧ Below w.heap.size w w' := by
  cases hc : Lib.atoiAll s.data.toList with
  | ok v => exact absurd hc (h v)
  | range =>
    obtain ⟨ev, h1, h2⟩ := HT.2.2
    refine (Any.strconv_Atoi_range Tryd.laysC172 s (by omega) hc ev w h1 h2).mono ?_
    rintro e w' ⟨N, rfl, _, _, hb⟩
    exact ⟨_, _, _, rfl, hb⟩
  | _ =>
    obtain ⟨ev, h1, h2⟩ := HT.2.1
    refine (Any.strconv_Atoi_syntax Tryd.laysC172 s (by omega) hc ev w h1 h2).mono ?_
    rintro e w' ⟨N, rfl, _, _, hb⟩
    exact ⟨_, _, _, rfl, hb⟩
theorem MS.cell1 {w : World} {base B p : Nat} {s : ByteArray} {st : List UInt8} {its : List S38} {d0 d1 : Int} (h : MS w base B s p st its d0 d1) : w.cell? ⟨B, 1, none⟩ = some (.int .i64 (p : Int)) := by
  obtain ⟨o, v, hM, _⟩ := h; exact hM.cells.2.1
theorem MS.cell0 {w : World} {base B p : Nat} {s : ByteArray} {st : List UInt8} {its : List S38} {d0 d1 : Int} (h : MS w base B s p st its d0 d1) : w.cell? ⟨B, 0, none⟩ = some (.string s) := by
  obtain ⟨o, v, hM, _⟩ := h; exact hM.cells.1
theorem MS.froz {w : World} {base B p : Nat} {s : ByteArray} {st : List UInt8} {its : List S38} {d0 d1 : Int} (h : MS w base B s p st its d0 d1) (j : Nat) : w.frozen? ⟨B, j, none⟩ = false := by
  obtain ⟨o, v, hM, _⟩ := h; exact hM.cells.2.2.2.2.2.2 j
namespace Js
def dg : List UInt8 := [45, 48, 49, 50, 51, 52, 53, 54, 55, 56, 57]
def digs (l : List UInt8) : List UInt8 := l.takeWhile (dg.contains ·)
/-- The number that these signs spell. -/
def num (d : List UInt8) : Option Int := match Lib.atoiAll d with
  | .ok v => if Lib.itoa v = d ∧ -100000000 ≤ v ∧ v ≤ 100000000 then some v else none
  | _ => none
theorem digs_le (l : List UInt8) : (digs l).length ≤ l.length := (List.takeWhile_sublist _).length_le
end Js
theorem ext_take (s : ByteArray) (n : Nat) : (s.extract 0 n).data.toList = s.data.toList.take n := by rw [ext_data, List.drop_zero, Nat.sub_zero]
/-- What stands ahead of the walk of number. -/
theorem digs_split (s : ByteArray) (p : Nat) (hp : p ≤ s.size) : ∃ n, n = (Js.digs (s.data.toList.drop p)).length ∧ n + p ≤ s.size ∧
    (Lib.trimLeftS (s.data.toList.drop p) Js.dg).length = s.size - p - n ∧ ((s.extract p s.size).extract 0 n).data.toList = Js.digs (s.data.toList.drop p) := by
  have hl : (s.data.toList.drop p).length = s.size - p := by rw [List.length_drop]; rfl
  refine ⟨_, rfl, by have := Js.digs_le (s.data.toList.drop p); omega, ?_, ?_⟩
  · have := congrArg List.length (List.takeWhile_append_dropWhile (p := (Js.dg.contains ·)) (l := s.data.toList.drop p))
    rw [List.length_append] at this
    unfold Lib.trimLeftS Js.digs
    omega
  · rw [ext_take, ext_end]
    have h := List.takeWhile_append_dropWhile (p := (Js.dg.contains ·)) (l := s.data.toList.drop p)
    unfold Js.digs
    generalize hA : List.takeWhile (Js.dg.contains ·) (s.data.toList.drop p) = A at h ⊢
    rw [← h]
    exact List.take_left' rfl

theorem grown_below' (w : World) (n : Nat) : Below w.heap.size w (w.drewN n) := ⟨rfl, rfl, rfl, Nat.le_refl _, fun _ _ => rfl⟩
set_option maxRecDepth 100000 in
set_option maxHeartbeats 4000000 in
theorem number_bad {w : World} {base B p : Nat} {s : ByteArray} {st : List UInt8} {its : List S38} {d0 d1 : Int} (h : MS w base B s p st its d0 d1) (HT : Tab w) (hp : p ≤ s.size) (hs : s.size ≤ 1000000000) (hn : ∀ v, Lib.atoiAll (Js.digs (s.data.toList.drop p)) ≠ .ok v) :
    Calls Tryd.prog 40 #[.pointer (some ⟨B, 0, none⟩)] w fun e w' => e = .returned (.bool false) ∧ MS w' base B s p st its p 190 ∧ Below base w w' := by
  have hbw := h.base_le
  have hlt := h.lt
  obtain ⟨n, hn1, hn2, hn3, hn4⟩ := digs_split s p hp
  have htr := fun W => trimLeft_calls (s.extract p s.size) ⟨#[45, 48, 49, 50, 51, 52, 53, 54, 55, 56, 57]⟩ W (by decide) (ascii_of_all (by decide))
  rw [ext_end] at htr
  have htr : ∀ W, Calls Tryd.prog 42 #[.string (s.extract p s.size), .string ⟨#[45, 48, 49, 50, 51, 52, 53, 54, 55, 56, 57]⟩] W fun e w' => e = .returned (.string (S (Lib.trimLeftS (s.data.toList.drop p) Js.dg))) ∧ Below W.heap.size W w' := htr
  obtain ⟨z, hz⟩ : ∃ z, S (Lib.trimLeftS (s.data.toList.drop p) Js.dg) = z := ⟨_, rfl⟩
  have hzs : z.size = s.size - p - n := by rw [← hz, S_size, hn3]
  rw [hz] at htr
  obtain ⟨r, hr⟩ : ∃ r, s.extract p s.size = r := ⟨_, rfl⟩
  have hrs : r.size = s.size - p := by rw [← hr, ByteArray.size_extract]; omega
  rw [hr] at htr hn4
  obtain ⟨d, hd⟩ : ∃ d, r.extract 0 n = d := ⟨_, rfl⟩
  have hds : d.size ≤ 1000000000 := by rw [← hd, ByteArray.size_extract]; omega
  rw [hd] at hn4
  have hat := fun W hT => atoi_bad d hds (by rw [hn4]; exact hn) W hT
  replace htr := Aside0.mk htr
  replace hat := Aside0.mk hat
  obtain ⟨o, v, hM, ho, hb, hst⟩ := h
  obtain ⟨c0, c1, c18, c19, c20, c21, hf⟩ := hM.cells
  have HMS : Aside0 (MS w base B s p st its d0 d1) := ⟨⟨o, v, hM, ho, hb, hst⟩⟩
  replace HT := Aside0.mk HT
  have hbB := Aside0.mk hb
  have hnr : (n : Int) ≤ (r.size : Int) := by omega
  have hsub : (r.size : Int) - (z.size : Int) = (n : Int) := by omega
  have hzr : (z.size : Int) ≤ (r.size : Int) := by omega
  have hrm : (r.size : Int) ≤ 1000000000 := by omega
  clear hz hn1 hn3 hn4 hrs hM ho hst hf c18 c19 c20 c21 hn hb hzs
  have b1 : ((p : Int) ≤ (s.size : Int)) = True := eq_true (by omega)
  go_enter Tryd.func40, Tryd.ntmps40
  go_wp2_with fail
  go_quiet (fail)
  go_wp2_with fail
  refine (htr.out _).mono ?_
  rintro e W2 ⟨rfl, hb2⟩
  have HB2 : Aside0 (Below w.heap.size w W2) := ⟨(grown_below' w nq).trans hb2⟩
  clear hb2
  go_wp2_with fail
  have HT2 := Aside0.mk (HT.out.below HB2.out)
  refine (hat.out _ HT2.out).mono ?_
  rintro e W3 ⟨u, te, pe, rfl, hb3⟩
  have HB3 : Aside0 (Below w.heap.size w W3) := ⟨HB2.out.trans (hb3.mono HB2.out.size)⟩
  clear hb3 hat htr HT2
  have HM3 := Aside0.mk (HMS.out.below HB3.out)
  go_wp2_with fail
  go_quiet (fail)
  have HM4 : MS (W3.drewN nq) base B s p st its d0 d1 := HM3.out.below (grown_below' W3 nq)
  have HB4 : Below w.heap.size w (W3.drewN nq) := HB3.out.trans ((grown_below' W3 nq).mono HB3.out.size)
  obtain ⟨W4, hW4⟩ : ∃ W4, W3.drewN nq = W4 := ⟨_, rfl⟩
  rw [hW4] at HM4 HB4 ⊢
  have c4 := HM4.cell1
  replace HM4 := Aside0.mk HM4
  replace HB4 := Aside0.mk HB4
  clear hW4 HM3 HB3 HMS HB2 c0 c1 hlt
  have hfl := Aside0.mk (fail_ms HM4.out (p : Int) 190)
  go_wp2_with fail
  refine hfl.out.mono ?_
  rintro e W5 ⟨rfl, hM5, hb5⟩
  have HF := Aside0.mk (And.intro hM5 ((HB4.out.mono hbw).trans hb5))
  clear hM5 hb5
  go_wp2_with fail
  go_ret
  exact ⟨rfl, HF.out⟩
end Go.Proofs.YtainnkpoibgkcaaDoor
