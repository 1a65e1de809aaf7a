/- Texts of this claim, joined: GivenS, GivenT. Each as it was, cut to what the claim uses. Conditions: each theorem's own. -/
import Derived.Test.YtofklpphalalhaaGreatDoorUzGivenR
section
namespace Go.Proofs.YtofklpphalalhaaGreatDoor
set_option linter.unusedVariables false
set_option linter.unusedSimpArgs false
open Go.RowKit Go.Proofs.YtofklpphalalhaaGreatDoor.PAll Go.Proofs.YtofklpphalalhaaGreatDoorW.PrintWords Go.Proofs.YtofklpphalalhaaGreatDoorW.PrintLast Go.Proofs.YtofklpphalalhaaGreatDoorW.PrintMore
namespace Rr
/-- Where a reader is, and what went wrong: at, place, code. -/
structure St where
  p : Int
  a : Int
  c : Int
def gi (s : ByteArray) (p : Int) : Int × Int × Int := Evs.t3i (Pk.getI s.data.toList p)
def gu (s : ByteArray) (p : Int) : Int × Int × Int := Evs.t3 (Pk.getU s.data.toList p)
def gt (s : ByteArray) (p : Int) : ByteArray × Int × Int := Evs.t3t (Pk.getT s.data.toList p)
def number (take : Int → Int × Int × Int) (st : St) : Int × St :=
  if st.c = 0 then (if (take st.p).2.2 = 0 then ((take st.p).1, ⟨(take st.p).2.1, st.a, st.c⟩) else (0, ⟨st.p, st.p, (take st.p).2.2⟩)) else (0, st)
def num (s : ByteArray) (st : St) : Int × St := number (gi s) st
def count (s : ByteArray) (st : St) : Int × St :=
  if (number (gu s) st).2.c = 0 ∧ (s.size : Int) - (number (gu s) st).2.p < (number (gu s) st).1 then (0, ⟨(number (gu s) st).2.p, st.p, 211⟩) else number (gu s) st
def text (s : ByteArray) (st : St) : ByteArray × St :=
  if st.c = 0 then (if (gt s st.p).2.2 = 0 then ((gt s st.p).1, ⟨(gt s st.p).2.1, st.a, st.c⟩) else (⟨#[]⟩, ⟨st.p, st.p, (gt s st.p).2.2⟩)) else (⟨#[]⟩, st)
def fin (s : ByteArray) (st : St) : St := if st.c = 0 ∧ 0 < (s.size : Int) - st.p then ⟨st.p, st.p, 4⟩ else st
end Rr
/-- A reader lies in block g. -/
def RI (w0 w : World) (g : Nat) (s : ByteArray) (st : Rr.St) : Prop := IsS139 w0 w g s st.p st.a st.c ∧ Below w0.heap.size w0 w
section
variable {w0 w w' : World} {g : Nat} {s : ByteArray} {st : Rr.St}
theorem RI.is (h : RI w0 w g s st) : IsS139 w0 w g s st.p st.a st.c := And.left h
theorem RI.bl (h : RI w0 w g s st) : Below w0.heap.size w0 w := And.right h
theorem RI.blk (h : RI w0 w g s st) : w.heap[g]? = some (.cells #[.string s, .int .i64 st.p, .int .i64 st.a, .int .i64 st.c] 139 (0, 0)) := h.is.1
theorem RI.below (h : RI w0 w g s st) (hb : Below w.heap.size w w') : RI w0 w' g s st := ⟨⟨(hb.block g (Array.getElem?_eq_some_iff.1 h.blk).1).trans h.blk, h.is.2⟩, h.bl.trans (hb.mono h.bl.size)⟩
theorem RI.cells (h : RI w0 w g s st) : w.cell? ⟨g, 0, none⟩ = some (.string s) ∧ w.cell? ⟨g, 1, none⟩ = some (.int .i64 st.p) ∧ w.cell? ⟨g, 2, none⟩ = some (.int .i64 st.a) ∧ w.cell? ⟨g, 3, none⟩ = some (.int .i64 st.c) := by
  refine ⟨?_, ?_, ?_, ?_⟩ <;> (rw [Lib.cell_of_heap h.blk]; rfl)
theorem RI.fz (h : RI w0 w g s st) (j : Nat) : w.frozen? ⟨g, j, none⟩ = false := Lib.frozen_of_heap h.blk j
theorem RI.setp (h : RI w0 w g s st) (q : Int) : RI w0 (w.setCell ⟨g, 1, none⟩ (.int .i64 q)) g s ⟨q, st.a, st.c⟩ := ⟨⟨blk_put h.blk 1 _ rfl, h.is.2⟩, h.bl.setCell (p := ⟨g, 1, none⟩) h.is.2 _⟩
theorem RI.fail (h : RI w0 w g s st) (a c : Int) : Calls Tryz.prog 130 #[.pointer (some ⟨g, 0, none⟩), .int .i64 a, .int .i64 c] w fun e w' => e = .returned (.tuple #[]) ∧ RI w0 w' g s ⟨st.p, a, c⟩ ∧ KeepBut w w' g none :=
  (packet_reader_fail.calls g s st.p st.a st.c a c s st.p a c w0 w h.is h.bl rfl).mono fun e w' ⟨h1, h2, h3, h4⟩ => ⟨h1, ⟨h2, h3⟩, h4⟩
theorem RI.fine (h : RI w0 w g s st) : Calls Tryz.prog 90 #[.pointer (some ⟨g, 0, none⟩)] w fun e w' => e = .returned (.bool (st.c == 0)) ∧ RI w0 w' g s st ∧ KeepBut w w' g none :=
  (packet_reader_fine.calls g s st.p st.a st.c _ s st.p st.a st.c w0 w h.is h.bl rfl).mono fun e w' ⟨h1, h2, h3, h4⟩ => ⟨h1, ⟨h2, h3⟩, h4⟩
theorem KB.trans {w1 w2 : World} (h : KeepBut w w1 g none) (k : KeepBut w1 w2 g none) : KeepBut w w2 g none := h.trans k (.inl rfl)
end
theorem spot_int (s : ByteArray) (hs : s.size ≤ 140737488351232) (p : Int) (w : World) : Calls Tryz.prog 134 #[.agg #[.string s, .int .i64 p]] w fun e w' => e = .returned (.tuple #[.int .i64 (Rr.gi s p).1, .int .i64 (Rr.gi s p).2.1, .int .i64 (Rr.gi s p).2.2]) ∧ Below w.heap.size w w' :=
  packet_spot_int.calls s p _ _ _ w (by unfold packet_spot_int.f; rw [Evs.getInt s p hs]; rfl)
theorem spot_uint (s : ByteArray) (hs : s.size ≤ 140737488351232) (p : Int) (w : World) : Calls Tryz.prog 135 #[.agg #[.string s, .int .i64 p]] w fun e w' => e = .returned (.tuple #[.int .i64 (Rr.gu s p).1, .int .i64 (Rr.gu s p).2.1, .int .i64 (Rr.gu s p).2.2]) ∧ Below w.heap.size w w' :=
  packet_spot_uint.calls s p _ _ _ w (by unfold packet_spot_uint.f; rw [Evs.getUint s p hs]; rfl)
set_option maxRecDepth 100000 in
set_option maxHeartbeats 4000000 in
theorem number_134 {w0 w : World} {g : Nat} {s : ByteArray} {st : Rr.St} (h : RI w0 w g s st) (hs : s.size ≤ 140737488351232) : Calls Tryz.prog 133 #[.pointer (some ⟨g, 0, none⟩), .func (.func 134) #[] #[]] w fun e w' => e = .returned (.int .i64 (Rr.number (Rr.gi s) st).1) ∧ RI w0 w' g s (Rr.number (Rr.gi s) st).2 ∧ KeepBut w w' g none := by
  have HF := Aside0.mk h.fine
  obtain ⟨r, hr⟩ : ∃ r, Rr.number (Rr.gi s) st = r := ⟨_, rfl⟩
  rw [hr]
  have HSP := Aside0.mk (spot_int s hs st.p)
  by_cases h0 : st.c = 0
  · have hb : (st.c == 0) = true := by simpa using h0
    rw [hb] at HF
    obtain ⟨q, hq⟩ : ∃ q, Rr.gi s st.p = q := ⟨_, rfl⟩
    rw [hq] at HSP
    unfold Rr.number at hr
    rw [if_pos h0, hq] at hr
    have HR := Aside0.mk hr
    clear hr h hq hb
    go_enter Tryz.func133, Tryz.ntmps133
    go_wp2_with fail
    refine HF.out.mono ?_
    rintro e w1 ⟨rfl, h1, k1⟩
    obtain ⟨c0, c1, c2, c3⟩ := h1.cells
    have H1 := Aside0.mk h1
    have K1 := Aside0.mk k1
    clear h1 k1 HF
    go_wp2_with fail
    refine (HSP.out _).mono ?_
    rintro e w2 ⟨rfl, b2⟩
    have H2 := Aside0.mk (H1.out.below b2)
    have K2 := Aside0.mk (KB.trans K1.out (KeepBut.of_below b2 g none))
    clear b2 H1 K1 HSP c0 c1 c2 c3
    obtain ⟨c0, c1, c2, c3⟩ := H2.out.cells
    by_cases he : q.2.2 = 0
    · have hr := HR.out
      rw [if_pos he] at hr
      subst hr
      have f1 := H2.out.fz 1
      have HE := Aside0.mk (H2.out.setp q.2.1)
      have KE := Aside0.mk (K2.out.set_ 1 (.int .i64 q.2.1))
      clear HR H2 K2
      go_wp2_with fail
      go_ret
      exact ⟨rfl, by first | exact HE.out | (have hq := HE.out; rw [h0] at hq; exact hq), KE.out⟩
    · have hr := HR.out
      rw [if_neg he] at hr
      subst hr
      have hne : (q.2.2 != 0) = true := by simpa using he
      have HFL := Aside0.mk (H2.out.fail st.p q.2.2)
      clear HR H2
      go_wp2_with fail
      refine HFL.out.mono ?_
      rintro e w3 ⟨rfl, h3, k3⟩
      have HE := Aside0.mk h3
      have KE := Aside0.mk (KB.trans K2.out k3)
      clear h3 k3 K2 HFL c0 c1 c2 c3
      go_wp2_with fail
      go_ret
      exact ⟨rfl, by first | exact HE.out | (have hq := HE.out; rw [h0] at hq; exact hq), KE.out⟩
  · have hb : (st.c == 0) = false := by simpa using h0
    rw [hb] at HF
    unfold Rr.number at hr
    rw [if_neg h0] at hr
    subst hr
    clear h hb h0 HSP
    go_enter Tryz.func133, Tryz.ntmps133
    go_wp2_with fail
    refine HF.out.mono ?_
    rintro e w1 ⟨rfl, h1, k1⟩
    have HE := Aside0.mk h1
    have KE := Aside0.mk k1
    clear h1 k1 HF
    go_wp2_with fail
    go_ret
    exact ⟨rfl, by first | exact HE.out | (have hq := HE.out; rw [h0] at hq; exact hq), KE.out⟩
set_option maxRecDepth 100000 in
set_option maxHeartbeats 4000000 in
theorem number_135 {w0 w : World} {g : Nat} {s : ByteArray} {st : Rr.St} (h : RI w0 w g s st) (hs : s.size ≤ 140737488351232) : Calls Tryz.prog 133 #[.pointer (some ⟨g, 0, none⟩), .func (.func 135) #[] #[]] w fun e w' => e = .returned (.int .i64 (Rr.number (Rr.gu s) st).1) ∧ RI w0 w' g s (Rr.number (Rr.gu s) st).2 ∧ KeepBut w w' g none := by
  have HF := Aside0.mk h.fine
  obtain ⟨r, hr⟩ : ∃ r, Rr.number (Rr.gu s) st = r := ⟨_, rfl⟩
  rw [hr]
  have HSP := Aside0.mk (spot_uint s hs st.p)
  by_cases h0 : st.c = 0
  · have hb : (st.c == 0) = true := by simpa using h0
    rw [hb] at HF
    obtain ⟨q, hq⟩ : ∃ q, Rr.gu s st.p = q := ⟨_, rfl⟩
    rw [hq] at HSP
    unfold Rr.number at hr
    rw [if_pos h0, hq] at hr
    have HR := Aside0.mk hr
    clear hr h hq hb
    go_enter Tryz.func133, Tryz.ntmps133
    go_wp2_with fail
    refine HF.out.mono ?_
    rintro e w1 ⟨rfl, h1, k1⟩
    obtain ⟨c0, c1, c2, c3⟩ := h1.cells
    have H1 := Aside0.mk h1
    have K1 := Aside0.mk k1
    clear h1 k1 HF
    go_wp2_with fail
    refine (HSP.out _).mono ?_
    rintro e w2 ⟨rfl, b2⟩
    have H2 := Aside0.mk (H1.out.below b2)
    have K2 := Aside0.mk (KB.trans K1.out (KeepBut.of_below b2 g none))
    clear b2 H1 K1 HSP c0 c1 c2 c3
    obtain ⟨c0, c1, c2, c3⟩ := H2.out.cells
    by_cases he : q.2.2 = 0
    · have hr := HR.out
      rw [if_pos he] at hr
      subst hr
      have f1 := H2.out.fz 1
      have HE := Aside0.mk (H2.out.setp q.2.1)
      have KE := Aside0.mk (K2.out.set_ 1 (.int .i64 q.2.1))
      clear HR H2 K2
      go_wp2_with fail
      go_ret
      exact ⟨rfl, by first | exact HE.out | (have hq := HE.out; rw [h0] at hq; exact hq), KE.out⟩
    · have hr := HR.out
      rw [if_neg he] at hr
      subst hr
      have hne : (q.2.2 != 0) = true := by simpa using he
      have HFL := Aside0.mk (H2.out.fail st.p q.2.2)
      clear HR H2
      go_wp2_with fail
      refine HFL.out.mono ?_
      rintro e w3 ⟨rfl, h3, k3⟩
      have HE := Aside0.mk h3
      have KE := Aside0.mk (KB.trans K2.out k3)
      clear h3 k3 K2 HFL c0 c1 c2 c3
      go_wp2_with fail
      go_ret
      exact ⟨rfl, by first | exact HE.out | (have hq := HE.out; rw [h0] at hq; exact hq), KE.out⟩
  · have hb : (st.c == 0) = false := by simpa using h0
    rw [hb] at HF
    unfold Rr.number at hr
    rw [if_neg h0] at hr
    subst hr
    clear h hb h0 HSP
    go_enter Tryz.func133, Tryz.ntmps133
    go_wp2_with fail
    refine HF.out.mono ?_
    rintro e w1 ⟨rfl, h1, k1⟩
    have HE := Aside0.mk h1
    have KE := Aside0.mk k1
    clear h1 k1 HF
    go_wp2_with fail
    go_ret
    exact ⟨rfl, by first | exact HE.out | (have hq := HE.out; rw [h0] at hq; exact hq), KE.out⟩
set_option maxRecDepth 100000 in
set_option maxHeartbeats 2000000 in
theorem left_walk (s : ByteArray) (p : Int) (w : World) (hp : 0 ≤ p) (hp2 : p ≤ 4611686018427387904) (hs : s.size ≤ 140737488351232) : Calls Tryz.prog 136 #[.agg #[.string s, .int .i64 p]] w fun e w' => e = .returned (.int .i64 ((s.size : Int) - p)) ∧ Below w.heap.size w w' := by
  have hw : wrap64 ((s.size : Int) - p) = (s.size : Int) - p := IntWalk.wrap64_in _ ⟨by omega, by omega⟩
  have HB := Aside0.mk (below_one w (.cells #[.string s, .int .i64 p] 137))
  go_enter Tryz.func136, Tryz.ntmps136
  go_wp2_with fail
  go_ret
  exact ⟨by first | rfl | (rw [hw]), HB.out⟩
end Go.Proofs.YtofklpphalalhaaGreatDoor
end
section
namespace Go.Proofs.YtofklpphalalhaaGreatDoor
set_option linter.unusedVariables false
set_option linter.unusedSimpArgs false
open Go.RowKit Go.Proofs.YtofklpphalalhaaGreatDoor.PAll Go.Proofs.YtofklpphalalhaaGreatDoorW.PrintWords Go.Proofs.YtofklpphalalhaaGreatDoorW.PrintLast Go.Proofs.YtofklpphalalhaaGreatDoorW.PrintMore
namespace Pk2
theorem gA_end (s : List UInt8) (p : Nat) (j : Nat) : ∀ i acc, i + j = 9 → (Pk.gA s p i acc).2.2 = 0 → p < (Pk.gA s p i acc).2.1 ∧ (Pk.gA s p i acc).2.1 ≤ s.length := by
  induction j with
  | zero =>
    intro i acc hi h
    rw [Pk.gA, if_pos (by omega)] at h
    exact absurd h (by decide)
  | succ j ih =>
    intro i acc hi h
    rw [Pk.gA, if_neg (by omega)] at h ⊢
    cases hb : s[p + i]? with
    | none => rw [hb] at h; exact absurd h (by simp)
    | some b =>
      rw [hb] at h
      simp only at h ⊢
      split at h
      · rename_i h1
        rw [if_pos h1]
        exact ih _ _ (by omega) h
      · rename_i h1
        rw [if_neg h1]
        split at h
        · exact absurd h (by decide)
        · rename_i h2
          rw [if_neg h2]
          have := (List.getElem?_eq_some_iff.1 hb).1
          exact ⟨by simp; omega, by simp; omega⟩
theorem getU_end (s : List UInt8) (p : Int) (h : (Pk.getU s p).2.2 = 0) : 0 ≤ p ∧ p < (Pk.getU s p).2.1 ∧ (Pk.getU s p).2.1 ≤ s.length := by
  unfold Pk.getU at h ⊢
  split at h
  · exact absurd h (by decide)
  · rename_i h1
    rw [if_neg h1]
    have := gA_end s p.toNat 9 0 0 (by omega) h
    exact ⟨by omega, by omega, this.2⟩
theorem getT_end (s : List UInt8) (p : Int) (h : (Pk.getT s p).2.2 = 0) : 0 ≤ p ∧ p < (Pk.getT s p).2.1 ∧ (Pk.getT s p).2.1 ≤ s.length := by
  unfold Pk.getT at h ⊢
  split at h
  · rename_i h1; exact absurd h h1
  · rename_i h1
    rw [if_neg h1]
    split at h
    · exact absurd h (by decide)
    · rename_i h2
      rw [if_neg h2]
      have := getU_end s p (by omega)
      exact ⟨this.1, by simp; omega, by simp; omega⟩
end Pk2
namespace Rr
/-- The place lies in the text, or little behind. -/
def Ok (s : ByteArray) (st : St) : Prop := 0 ≤ st.p ∧ st.p ≤ s.size + 4
theorem ok_number {s : ByteArray} {take : Int → Int × Int × Int} (ht : ∀ p, (take p).2.2 = 0 → 0 ≤ (take p).2.1 ∧ (take p).2.1 ≤ s.size) {st : St} (h : Ok s st) : Ok s (number take st).2 := by
  unfold number
  split
  · split
    · rename_i h2; have := ht _ h2; exact ⟨this.1, by show (take st.p).2.1 ≤ _; omega⟩
    · exact h
  · exact h
theorem gi_end (s : ByteArray) (p : Int) (h : (gi s p).2.2 = 0) : 0 ≤ (gi s p).2.1 ∧ (gi s p).2.1 ≤ s.size := by
  have e : (Pk.getU s.data.toList p).2.2 = 0 := by have : ((Pk.getU s.data.toList p).2.2 : Int) = 0 := h; omega
  have := Pk2.getU_end s.data.toList p e
  show (0 : Int) ≤ ((Pk.getU s.data.toList p).2.1 : Nat) ∧ (((Pk.getU s.data.toList p).2.1 : Nat) : Int) ≤ s.size
  rw [Evs.size_len] at this
  omega
theorem gu_end (s : ByteArray) (p : Int) (h : (gu s p).2.2 = 0) : 0 ≤ (gu s p).2.1 ∧ (gu s p).2.1 ≤ s.size := gi_end s p h
theorem gt_end (s : ByteArray) (p : Int) (h : (gt s p).2.2 = 0) : 0 ≤ (gt s p).2.1 ∧ (gt s p).2.1 ≤ s.size := by
  have e : (Pk.getT s.data.toList p).2.2 = 0 := by have : ((Pk.getT s.data.toList p).2.2 : Int) = 0 := h; omega
  have := Pk2.getT_end s.data.toList p e
  show (0 : Int) ≤ ((Pk.getT s.data.toList p).2.1 : Nat) ∧ (((Pk.getT s.data.toList p).2.1 : Nat) : Int) ≤ s.size
  rw [Evs.size_len] at this
  omega
theorem ok_num {s : ByteArray} {st : St} (h : Ok s st) : Ok s (num s st).2 := ok_number (gi_end s) h
theorem ok_count {s : ByteArray} {st : St} (h : Ok s st) : Ok s (count s st).2 := by
  have := ok_number (gu_end s) h
  unfold count
  split
  · exact this
  · exact this
theorem ok_text {s : ByteArray} {st : St} (h : Ok s st) : Ok s (text s st).2 := by
  unfold text
  split
  · split
    · rename_i h2; have := gt_end s _ h2; exact ⟨this.1, by show (gt s st.p).2.1 ≤ _; omega⟩
    · exact h
  · exact h
def nums (s : ByteArray) : Nat → St → List Int × St
  | 0, st => ([], st)
  | m + 1, st => ((nums s m st).1 ++ [(num s (nums s m st).2).1], (num s (nums s m st).2).2)
theorem nums_len (s : ByteArray) (st : St) : ∀ m, (nums s m st).1.length = m
  | 0 => rfl
  | m + 1 => by rw [nums, List.length_append, nums_len s st m]; rfl
theorem ok_nums {s : ByteArray} {st : St} (h : Ok s st) : ∀ m, Ok s (nums s m st).2
  | 0 => h
  | m + 1 => ok_num (ok_nums h m)
/-- A list of n numbers: none at all, where one is wrong. -/
def listN (s : ByteArray) : Nat → List Int → St → List Int × St
  | 0, l, st => (l, st)
  | n + 1, l, st => if (num s st).2.c = 0 then listN s n (l ++ [(num s st).1]) (num s st).2 else ([], (num s st).2)
def list (s : ByteArray) (st : St) : List Int × St := listN s (count s st).1.toNat [] (count s st).2
end Rr
set_option maxRecDepth 100000 in
set_option maxHeartbeats 4000000 in
theorem text_walk {w0 w : World} {g : Nat} {s : ByteArray} {st : Rr.St} (h : RI w0 w g s st) (hs : s.size ≤ 140737488351232) : Calls Tryz.prog 87 #[.pointer (some ⟨g, 0, none⟩)] w fun e w' => e = .returned (.string (Rr.text s st).1) ∧ RI w0 w' g s (Rr.text s st).2 ∧ KeepBut w w' g none := by
  have HF := Aside0.mk h.fine
  obtain ⟨r, hr⟩ : ∃ r, Rr.text s st = r := ⟨_, rfl⟩
  rw [hr]
  have HSP : Aside0 (∀ w, Calls Tryz.prog 132 #[.string s, .int .i64 st.p] w fun e w' => e = .returned (.tuple #[.string (Rr.gt s st.p).1, .int .i64 (Rr.gt s st.p).2.1, .int .i64 (Rr.gt s st.p).2.2]) ∧ Below w.heap.size w w') := ⟨fun w => pack_GetText.calls s st.p _ _ _ w (Evs.getText s st.p hs)⟩
  by_cases h0 : st.c = 0
  · have hb : (st.c == 0) = true := by simpa using h0
    rw [hb] at HF
    obtain ⟨q, hq⟩ : ∃ q, Rr.gt s st.p = q := ⟨_, rfl⟩
    rw [hq] at HSP
    unfold Rr.text at hr
    rw [if_pos h0, hq] at hr
    have HR := Aside0.mk hr
    clear hr h hq hb
    go_enter Tryz.func87, Tryz.ntmps87
    go_wp2_with fail
    refine HF.out.mono ?_
    rintro e w1 ⟨rfl, h1, k1⟩
    obtain ⟨c0, c1, c2, c3⟩ := h1.cells
    have H1 := Aside0.mk h1
    have K1 := Aside0.mk k1
    clear h1 k1 HF
    go_wp2_with fail
    refine start_ (n := 18) (S := fun w' => w'.cell? ⟨g, 0, none⟩ = some (.string s) ∧ w'.cell? ⟨g, 1, none⟩ = some (.int .i64 st.p)) (ds := [10]) #[false, false, false, false, false, false, false, false, false, false, false, false, false, false, false, false, false, false] (by kernel_rfl) rfl rfl ⟨c0, c1⟩ (fun hHeld => ?_)
    refine pure_ (i := 0) (N := some 9) (v := ?_) (a' := ?_) #[true, false, false, false, false, false, false, false, false, false, false, false, false, false, false, false, false, false] rfl rfl (by kernel_rfl) (fun _ _ _ h => h) (Or.inl ⟨by rfl, ?_⟩) ?_ ?_
    rotate_left
    · intro w'
      go_simp
      with_reducible rfl
    rotate_left
    · simp only [Act.put, List.setIfInBounds_toArray, List.set_cons_zero, List.set_cons_succ, i64_w, i32_w]
      rfl
    refine pure_ (i := 1) (N := some 10) (v := ?_) (a' := ?_) #[true, true, false, false, false, false, false, false, false, false, false, false, false, false, false, false, false, false] rfl rfl (by kernel_rfl) (fun _ _ _ h => h) (Or.inl ⟨by rfl, ?_⟩) ?_ ?_
    rotate_left
    · intro w'
      go_simp
      with_reducible rfl
    rotate_left
    · simp only [Act.put, List.setIfInBounds_toArray, List.set_cons_zero, List.set_cons_succ, i64_w, i32_w]
      rfl
    refine pure_ (i := 2) (N := some 11) (v := ?_) (a' := ?_) #[true, true, true, false, false, false, false, false, false, false, false, false, false, false, false, false, false, false] rfl rfl (by kernel_rfl) (fun _ _ _ h => h) (Or.inl ⟨by rfl, ?_⟩) ?_ ?_
    rotate_left
    · intro w'
      go_simp
      with_reducible rfl
    rotate_left
    · simp only [Act.put, List.setIfInBounds_toArray, List.set_cons_zero, List.set_cons_succ, i64_w, i32_w]
      rfl
    refine pure_ (i := 3) (N := some 12) (v := ?_) (a' := ?_) #[true, true, true, true, false, false, false, false, false, false, false, false, false, false, false, false, false, false] rfl rfl (by kernel_rfl) (fun _ _ _ h => h) (Or.inl ⟨by rfl, ?_⟩) ?_ ?_
    rotate_left
    · intro w'
      go_simp
      with_reducible rfl
    rotate_left
    · simp only [Act.put, List.setIfInBounds_toArray, List.set_cons_zero, List.set_cons_succ, i64_w, i32_w]
      rfl
    refine pure_ (i := 5) (N := some 14) (v := ?_) (a' := ?_) #[true, true, true, true, false, true, false, false, false, false, false, false, false, false, false, false, false, false] rfl rfl (by kernel_rfl) (fun _ _ _ h => h) (Or.inl ⟨by rfl, ?_⟩) ?_ ?_
    rotate_left
    · intro w'
      go_simp
      with_reducible rfl
    rotate_left
    · simp only [Act.put, List.setIfInBounds_toArray, List.set_cons_zero, List.set_cons_succ, i64_w, i32_w]
      rfl
    refine pure_ (i := 6) (N := some 15) (v := ?_) (a' := ?_) #[true, true, true, true, false, true, true, false, false, false, false, false, false, false, false, false, false, false] rfl rfl (by kernel_rfl) (fun _ _ _ h => h) (Or.inl ⟨by rfl, ?_⟩) ?_ ?_
    rotate_left
    · intro w'
      go_simp
      with_reducible rfl
    rotate_left
    · simp only [Act.put, List.setIfInBounds_toArray, List.set_cons_zero, List.set_cons_succ, i64_w, i32_w]
      rfl
    refine pure_ (i := 7) (N := some 16) (v := ?_) (a' := ?_) #[true, true, true, true, false, true, true, true, false, false, false, false, false, false, false, false, false, false] rfl rfl (by kernel_rfl) (fun _ _ _ h => h) (Or.inl ⟨by rfl, ?_⟩) ?_ ?_
    rotate_left
    · intro w'
      go_simp
      with_reducible rfl
    rotate_left
    · simp only [Act.put, List.setIfInBounds_toArray, List.set_cons_zero, List.set_cons_succ, i64_w, i32_w]
      rfl
    refine pure_ (i := 8) (N := some 17) (v := ?_) (a' := ?_) #[true, true, true, true, false, true, true, true, true, false, false, false, false, false, false, false, false, false] rfl rfl (by kernel_rfl) (fun _ _ _ h => h) (Or.inl ⟨by rfl, ?_⟩) ?_ ?_
    rotate_left
    · intro w'
      go_simp
      with_reducible rfl
    rotate_left
    · simp only [Act.put, List.setIfInBounds_toArray, List.set_cons_zero, List.set_cons_succ, i64_w, i32_w]
      rfl
    refine take_ (i := 4) (N := some 13) (v := ?_) (a' := ?_) #[true, true, true, true, true, true, true, true, true, false, false, false, false, false, false, false, false, false] rfl rfl (by kernel_rfl) (fun _ _ _ h => h) (Or.inl ⟨by rfl, ?_⟩) hHeld ?_ ?_
    rotate_left
    · rintro w' ⟨s0, s1⟩
      go_simp
      with_reducible rfl
    rotate_left
    · simp only [Act.put, List.setIfInBounds_toArray, List.set_cons_zero, List.set_cons_succ, i64_w, i32_w]
      rfl
    refine take_ (i := 9) (N := some 18) (v := ?_) (a' := ?_) #[true, true, true, true, true, true, true, true, true, true, false, false, false, false, false, false, false, false] rfl rfl (by kernel_rfl) (fun _ _ _ h => h) (Or.inl ⟨by rfl, ?_⟩) hHeld ?_ ?_
    rotate_left
    · rintro w' ⟨s0, s1⟩
      go_simp
      with_reducible rfl
    rotate_left
    · simp only [Act.put, List.setIfInBounds_toArray, List.set_cons_zero, List.set_cons_succ, i64_w, i32_w]
      rfl
    refine last_ (i := 10) (N := some 19) #[true, true, true, true, true, true, true, true, true, true, true, false, false, false, false, false, false, false] rfl rfl (by kernel_rfl) (by decide) (fun K hK => ?_)
    refine goes_ Tryz.func132 (by kernel_rfl) rfl #[.string s, .int .i64 st.p] (by rfl) rfl rfl (by simp only [List.map_toArray, List.map_cons, List.map_nil]; rfl) ?_
    with_reducible refine ((HSP.out _)).mono ?_
    rintro e w2 ⟨rfl, b2⟩
    refine ⟨_, rfl, ?_⟩
    refine hK.out _ _ ?_
    clear hK K
    refine norm_ (a' := ?_) ?_ ?_
    rotate_left
    · show Act.put _ (some 19) _ = _
      simp only [Act.put, List.setIfInBounds_toArray, List.set_cons_zero, List.set_cons_succ, i64_w, i32_w]
      rfl
    refine pure_ (i := 11) (N := some 8) (v := ?_) (a' := ?_) #[true, true, true, true, true, true, true, true, true, true, true, true, false, false, false, false, false, false] rfl rfl (by kernel_rfl) (fun _ _ _ h => h) (Or.inl ⟨by rfl, ?_⟩) ?_ ?_
    rotate_left
    · intro w'
      go_simp
      with_reducible rfl
    rotate_left
    · simp only [Act.put, List.setIfInBounds_toArray, List.set_cons_zero, List.set_cons_succ, i64_w, i32_w]
      rfl
    refine pure_ (i := 12) (N := some 20) (v := ?_) (a' := ?_) #[true, true, true, true, true, true, true, true, true, true, true, true, true, false, false, false, false, false] rfl rfl (by kernel_rfl) (fun _ _ _ h => h) (Or.inl ⟨by rfl, ?_⟩) ?_ ?_
    rotate_left
    · intro w'
      go_simp
      with_reducible rfl
    rotate_left
    · simp only [Act.put, List.setIfInBounds_toArray, List.set_cons_zero, List.set_cons_succ, i64_w, i32_w]
      rfl
    refine pure_ (i := 13) (N := some 21) (v := ?_) (a' := ?_) #[true, true, true, true, true, true, true, true, true, true, true, true, true, true, false, false, false, false] rfl rfl (by kernel_rfl) (fun _ _ _ h => h) (Or.inl ⟨by rfl, ?_⟩) ?_ ?_
    rotate_left
    · intro w'
      go_simp
      with_reducible rfl
    rotate_left
    · simp only [Act.put, List.setIfInBounds_toArray, List.set_cons_zero, List.set_cons_succ, i64_w, i32_w]
      rfl
    refine pure_ (i := 14) (N := some 22) (v := ?_) (a' := ?_) #[true, true, true, true, true, true, true, true, true, true, true, true, true, true, true, false, false, false] rfl rfl (by kernel_rfl) (fun _ _ _ h => h) (Or.inl ⟨by rfl, ?_⟩) ?_ ?_
    rotate_left
    · intro w'
      go_simp
      with_reducible rfl
    rotate_left
    · simp only [Act.put, List.setIfInBounds_toArray, List.set_cons_zero, List.set_cons_succ, i64_w, i32_w]
      rfl
    refine pure_ (i := 15) (N := some 2) (v := ?_) (a' := ?_) #[true, true, true, true, true, true, true, true, true, true, true, true, true, true, true, true, false, false] rfl rfl (by kernel_rfl) (fun _ _ _ h => h) (Or.inl ⟨by rfl, ?_⟩) ?_ ?_
    rotate_left
    · intro w'
      go_simp
      with_reducible rfl
    rotate_left
    · simp only [Act.put, List.setIfInBounds_toArray, List.set_cons_zero, List.set_cons_succ, i64_w, i32_w]
      rfl
    refine pure_ (i := 16) (N := some 3) (v := ?_) (a' := ?_) #[true, true, true, true, true, true, true, true, true, true, true, true, true, true, true, true, true, false] rfl rfl (by kernel_rfl) (fun _ _ _ h => h) (Or.inl ⟨by rfl, ?_⟩) ?_ ?_
    rotate_left
    · intro w'
      go_simp
      with_reducible rfl
    rotate_left
    · simp only [Act.put, List.setIfInBounds_toArray, List.set_cons_zero, List.set_cons_succ, i64_w, i32_w]
      rfl
    refine pure_ (i := 17) (N := some 4) (v := ?_) (a' := ?_) #[true, true, true, true, true, true, true, true, true, true, true, true, true, true, true, true, true, true] rfl rfl (by kernel_rfl) (fun _ _ _ h => h) (Or.inl ⟨by rfl, ?_⟩) ?_ ?_
    rotate_left
    · intro w'
      go_simp
      with_reducible rfl
    rotate_left
    · simp only [Act.put, List.setIfInBounds_toArray, List.set_cons_zero, List.set_cons_succ, i64_w, i32_w]
      rfl
    refine done_ (by kernel_rfl) ?_
    have H2 : Aside0 (RI w0 w2 g s st) := ⟨(show RI w0 w1.drew g s st from ⟨H1.out.is, H1.out.bl.drew⟩).below b2⟩
    have K2 : Aside0 (KeepBut w w2 g none) := ⟨KB.trans K1.out ⟨b2.size, fun i hi _ _ => b2.block i hi⟩⟩
    clear b2 H1 K1 HSP c0 c1 c2 c3
    obtain ⟨c0, c1, c2, c3⟩ := H2.out.cells
    by_cases he : q.2.2 = 0
    · have hr := HR.out
      rw [if_pos he] at hr
      subst hr
      have f1 := H2.out.fz 1
      have HE := Aside0.mk (H2.out.setp q.2.1)
      have KE := Aside0.mk (K2.out.set_ 1 (.int .i64 q.2.1))
      clear HR H2 K2
      go_wp2_with fail
      go_ret
      exact ⟨by first | rfl | (rw [hb]; rfl) | (rw [h0]; rfl), by first | exact HE.out | (have hq := HE.out; rw [h0] at hq; exact hq), KE.out⟩
    · have hr := HR.out
      rw [if_neg he] at hr
      subst hr
      have hne : (q.2.2 != 0) = true := by simpa using he
      have HFL := Aside0.mk (H2.out.fail st.p q.2.2)
      clear HR H2
      go_wp2_with fail
      refine HFL.out.mono ?_
      rintro e w3 ⟨rfl, h3, k3⟩
      have HE := Aside0.mk h3
      have KE := Aside0.mk (KB.trans K2.out k3)
      clear h3 k3 K2 HFL c0 c1 c2 c3
      go_wp2_with fail
      go_ret
      exact ⟨by first | rfl | (rw [hb]; rfl) | (rw [h0]; rfl), by first | exact HE.out | (have hq := HE.out; rw [h0] at hq; exact hq), KE.out⟩
  · have hb : (st.c == 0) = false := by simpa using h0
    rw [hb] at HF
    unfold Rr.text at hr
    rw [if_neg h0] at hr
    subst hr
    clear h hb h0 HSP
    go_enter Tryz.func87, Tryz.ntmps87
    go_wp2_with fail
    refine HF.out.mono ?_
    rintro e w1 ⟨rfl, h1, k1⟩
    have HE := Aside0.mk h1
    have KE := Aside0.mk k1
    clear h1 k1 HF
    go_wp2_with fail
    go_ret
    exact ⟨by first | rfl | (rw [hb]; rfl) | (rw [h0]; rfl), by first | exact HE.out | (have hq := HE.out; rw [h0] at hq; exact hq), KE.out⟩
set_option maxRecDepth 100000 in
set_option maxHeartbeats 4000000 in
theorem count_walk {w0 w : World} {g : Nat} {s : ByteArray} {st : Rr.St} (h : RI w0 w g s st) (hs : s.size ≤ 140737488351232) (hok : Rr.Ok s st) : Calls Tryz.prog 89 #[.pointer (some ⟨g, 0, none⟩)] w fun e w' => e = .returned (.int .i64 (Rr.count s st).1) ∧ RI w0 w' g s (Rr.count s st).2 ∧ KeepBut w w' g none := by
  obtain ⟨r, hr⟩ : ∃ r, Rr.count s st = r := ⟨_, rfl⟩
  rw [hr]
  have HN := Aside0.mk (number_135 h hs)
  have hok1 := Rr.ok_number (Rr.gu_end s) hok
  unfold Rr.count at hr
  obtain ⟨n, hn⟩ : ∃ n, Rr.number (Rr.gu s) st = n := ⟨_, rfl⟩
  rw [hn] at hr HN hok1
  obtain ⟨c0, c1, c2, c3⟩ := h.cells
  have HR := Aside0.mk hr
  clear hr hn h hok
  go_enter Tryz.func89, Tryz.ntmps89
  go_wp2_with fail
  refine HN.out.mono ?_
  rintro e w1 ⟨rfl, h1, k1⟩
  have H1 := Aside0.mk h1
  have K1 := Aside0.mk k1
  have HF := Aside0.mk h1.fine
  clear h1 k1 HN c0 c1 c2 c3
  by_cases h0 : n.2.c = 0
  · have hb : (n.2.c == 0) = true := by simpa using h0
    rw [hb] at HF
    clear hb
    go_wp2_with fail
    refine HF.out.mono ?_
    rintro e w2 ⟨rfl, h2, k2⟩
    obtain ⟨c0, c1, c2, c3⟩ := h2.cells
    have H2 := Aside0.mk h2
    have K2 := Aside0.mk (KB.trans K1.out k2)
    have HL := Aside0.mk (left_walk s n.2.p w2 hok1.1 (by have := hok1.2; omega) hs)
    clear h2 k2 HF H1 K1
    go_wp2_with fail
    refine HL.out.mono ?_
    rintro e w3 ⟨rfl, b3⟩
    have H3 := Aside0.mk (H2.out.below b3)
    have K3 := Aside0.mk (KB.trans K2.out (KeepBut.of_below b3 g none))
    clear b3 HL H2 K2 c0 c1 c2 c3
    by_cases hgt : (s.size : Int) - n.2.p < n.1
    · have hr := HR.out
      rw [if_pos ⟨h0, hgt⟩] at hr
      subst hr
      have HFL := Aside0.mk (H3.out.fail st.p 211)
      clear HR H3
      go_wp2_with fail
      refine HFL.out.mono ?_
      rintro e w4 ⟨rfl, h4, k4⟩
      have HE := Aside0.mk h4
      have KE := Aside0.mk (KB.trans K3.out k4)
      clear h4 k4 K3 HFL
      go_wp2_with fail
      go_ret
      exact ⟨by first | rfl | (rw [hb]; rfl) | (rw [h0]; rfl), by first | exact HE.out | (have hq := HE.out; rw [h0] at hq; exact hq), KE.out⟩
    · have hr := HR.out
      rw [if_neg (fun h => hgt h.2)] at hr
      subst hr
      clear HR
      go_wp2_with fail
      go_ret
      exact ⟨rfl, by first | exact H3.out | (have hq := H3.out; rw [h0] at hq; exact hq), K3.out⟩
  · have hb : (n.2.c == 0) = false := by simpa using h0
    rw [hb] at HF
    have hr := HR.out
    rw [if_neg (fun h => h0 h.1)] at hr
    subst hr
    clear hb HR
    go_wp2_with fail
    refine HF.out.mono ?_
    rintro e w2 ⟨rfl, h2, k2⟩
    have HE := Aside0.mk h2
    have KE := Aside0.mk (KB.trans K1.out k2)
    clear h2 k2 HF H1 K1
    go_wp2_with fail
    go_ret
    exact ⟨by first | rfl | (rw [hb]; rfl) | (rw [h0]; rfl), by first | exact HE.out | (have hq := HE.out; rw [h0] at hq; exact hq), KE.out⟩
set_option maxRecDepth 100000 in
set_option maxHeartbeats 4000000 in
theorem end_walk {w0 w : World} {g : Nat} {s : ByteArray} {st : Rr.St} (h : RI w0 w g s st) (hs : s.size ≤ 140737488351232) (hok : Rr.Ok s st) : Calls Tryz.prog 92 #[.pointer (some ⟨g, 0, none⟩)] w fun e w' => e = .returned (.bool ((Rr.fin s st).c == 0)) ∧ RI w0 w' g s (Rr.fin s st) ∧ KeepBut w w' g none := by
  obtain ⟨r, hr⟩ : ∃ r, Rr.fin s st = r := ⟨_, rfl⟩
  rw [hr]
  unfold Rr.fin at hr
  have HF := Aside0.mk h.fine
  have HR := Aside0.mk hr
  clear hr h
  by_cases h0 : st.c = 0
  · have hb : (st.c == 0) = true := by simpa using h0
    rw [hb] at HF
    clear hb
    go_enter Tryz.func92, Tryz.ntmps92
    go_wp2_with fail
    refine HF.out.mono ?_
    rintro e w2 ⟨rfl, h2, k2⟩
    obtain ⟨c0, c1, c2, c3⟩ := h2.cells
    have H2 := Aside0.mk h2
    have K2 := Aside0.mk k2
    have HL := Aside0.mk (left_walk s st.p w2 hok.1 (by have := hok.2; omega) hs)
    clear h2 k2 HF
    go_wp2_with fail
    refine HL.out.mono ?_
    rintro e w3 ⟨rfl, b3⟩
    have H3 := Aside0.mk (H2.out.below b3)
    have K3 := Aside0.mk (KB.trans K2.out (KeepBut.of_below b3 g none))
    clear b3 HL H2 K2 c0 c1 c2 c3
    obtain ⟨c0, c1, c2, c3⟩ := H3.out.cells
    by_cases hgt : 0 < (s.size : Int) - st.p
    · have hr := HR.out
      rw [if_pos ⟨h0, hgt⟩] at hr
      subst hr
      have HFL := Aside0.mk (H3.out.fail st.p 4)
      clear HR H3
      go_wp2_with fail
      refine HFL.out.mono ?_
      rintro e w4 ⟨rfl, h4, k4⟩
      have HF := Aside0.mk h4.fine
      have K4 := Aside0.mk (KB.trans K3.out k4)
      clear h4 k4 K3 HFL c0 c1 c2 c3
      go_wp2_with fail
      refine HF.out.mono ?_
      rintro e w5 ⟨rfl, h5, k5⟩
      have HE := Aside0.mk h5
      have KE := Aside0.mk (KB.trans K4.out k5)
      clear h5 k5 HF K4
      go_wp2_with fail
      go_ret
      exact ⟨by first | rfl | (rw [hb]; rfl) | (rw [h0]; rfl), by first | exact HE.out | (have hq := HE.out; rw [h0] at hq; exact hq), KE.out⟩
    · have hr := HR.out
      rw [if_neg (fun h => hgt h.2)] at hr
      subst hr
      have HF := Aside0.mk H3.out.fine
      clear HR H3 c0 c1 c2 c3
      go_wp2_with fail
      refine HF.out.mono ?_
      rintro e w5 ⟨rfl, h5, k5⟩
      have HE := Aside0.mk h5
      have KE := Aside0.mk (KB.trans K3.out k5)
      clear h5 k5 HF K3
      go_wp2_with fail
      go_ret
      exact ⟨by first | rfl | (rw [hb]; rfl) | (rw [h0]; rfl), by first | exact HE.out | (have hq := HE.out; rw [h0] at hq; exact hq), KE.out⟩
  · have hb : (st.c == 0) = false := by simpa using h0
    rw [hb] at HF
    have hr := HR.out
    rw [if_neg (fun h => h0 h.1)] at hr
    subst hr
    clear HR
    go_enter Tryz.func92, Tryz.ntmps92
    go_wp2_with fail
    refine HF.out.mono ?_
    rintro e w2 ⟨rfl, h2, k2⟩
    have HF2 := Aside0.mk h2.fine
    rw [hb] at HF2
    have K2 := Aside0.mk k2
    clear h2 k2 HF
    go_wp2_with fail
    refine HF2.out.mono ?_
    rintro e w5 ⟨rfl, h5, k5⟩
    have HE := Aside0.mk h5
    have KE := Aside0.mk (KB.trans K2.out k5)
    clear h5 k5 HF2 K2
    go_wp2_with fail
    go_ret
    exact ⟨by rw [hb]; rfl, HE.out, KE.out⟩
end Go.Proofs.YtofklpphalalhaaGreatDoor
end
