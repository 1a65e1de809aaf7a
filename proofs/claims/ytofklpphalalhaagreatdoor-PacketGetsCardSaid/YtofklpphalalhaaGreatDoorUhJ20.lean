/- Texts of this claim, joined: GivenT, GivenU, GivenV. Each as it was, cut to what the claim uses. Conditions: each theorem's own. -/
import Derived.Test.YtofklpphalalhaaGreatDoorUhJ1
import Derived.Test.YtofklpphalalhaaGreatDoorUhJ19
section
namespace Go.Proofs.YtofklpphalalhaaGreatDoor
set_option linter.unusedVariables false
set_option linter.unusedSimpArgs false
open Go.RowKit Go.Proofs.YtofklpphalalhaaGreatDoor.PAll Go.Proofs.YtofklpphalalhaaGreatDoorW.PrintWords Go.Proofs.YtofklpphalalhaaGreatDoorW.PrintLast Go.Proofs.YtofklpphalalhaaGreatDoorW.PrintMore
namespace Pk2
theorem gA_end (s : List UInt8) (p : Nat) (j : Nat) : ∀ i acc, i + j = 9 → (Pk.gA s p i acc).2.2 = 0 → p < (Pk.gA s p i acc).2.1 ∧ (Pk.gA s p i acc).2.1 ≤ s.length := by
  induction j with
  | zero =>
    intro i acc hi h
    rw [Pk.gA, if_pos (by omega)] at h
    exact absurd h (by decide)
  | succ j ih =>
    intro i acc hi h
    rw [Pk.gA, if_neg (by omega)] at h ⊢
    cases hb : s[p + i]? with
    | none => rw [hb] at h; exact absurd h (by simp)
    | some b =>
      rw [hb] at h
      simp only at h ⊢
      split at h
      · rename_i h1
        rw [if_pos h1]
        exact ih _ _ (by omega) h
      · rename_i h1
        rw [if_neg h1]
        split at h
        · exact absurd h (by decide)
        · rename_i h2
          rw [if_neg h2]
          have := (List.getElem?_eq_some_iff.1 hb).1
          exact ⟨by simp; omega, by simp; omega⟩
theorem getU_end (s : List UInt8) (p : Int) (h : (Pk.getU s p).2.2 = 0) : 0 ≤ p ∧ p < (Pk.getU s p).2.1 ∧ (Pk.getU s p).2.1 ≤ s.length := by
 unfold Pk.getU at h ⊢
 split at h
 ·exact absurd h (by decide)
 ·rename_i h1
  rw [if_neg h1]
  have := gA_end s p.toNat 9 0 0 (by omega) h
  exact ⟨by omega, by omega, this.2⟩
theorem getT_end (s : List UInt8) (p : Int) (h : (Pk.getT s p).2.2 = 0) : 0 ≤ p ∧ p < (Pk.getT s p).2.1 ∧ (Pk.getT s p).2.1 ≤ s.length := by
 unfold Pk.getT at h ⊢
 split at h
 ·rename_i h1; exact absurd h h1
 ·rename_i h1
  rw [if_neg h1]
  split at h
  ·exact absurd h (by decide)
  ·rename_i h2
   rw [if_neg h2]
   have := getU_end s p (by omega)
   exact ⟨this.1, by simp; omega, by simp; omega⟩
end Pk2
namespace Rr
/-- The place lies in the text, or little behind. -/
def Ok (s : ByteArray) (st : St) : Prop := 0 ≤ st.p ∧ st.p ≤ s.size + 4
theorem ok_number {s : ByteArray} {take : Int → Int × Int × Int} (ht : ∀ p, (take p).2.2 = 0 → 0 ≤ (take p).2.1 ∧ (take p).2.1 ≤ s.size) {st : St} (h : Ok s st) : Ok s (number take st).2 := by
 unfold number
 split
 ·split
  ·rename_i h2; have := ht _ h2; exact ⟨this.1, by show (take st.p).2.1 ≤ _; omega⟩
  ·exact h
 ·exact h
theorem gi_end (s : ByteArray) (p : Int) (h : (gi s p).2.2 = 0) : 0 ≤ (gi s p).2.1 ∧ (gi s p).2.1 ≤ s.size := by
 have e : (Pk.getU s.data.toList p).2.2 = 0 := by have : ((Pk.getU s.data.toList p).2.2 : Int) = 0 := h; omega
 have := Pk2.getU_end s.data.toList p e
 show (0 : Int) ≤ ((Pk.getU s.data.toList p).2.1 : Nat) ∧ (((Pk.getU s.data.toList p).2.1 : Nat) : Int) ≤ s.size
 rw [Evs.size_len] at this
 omega
theorem gu_end (s : ByteArray) (p : Int) (h : (gu s p).2.2 = 0) : 0 ≤ (gu s p).2.1 ∧ (gu s p).2.1 ≤ s.size := gi_end s p h
theorem gt_end (s : ByteArray) (p : Int) (h : (gt s p).2.2 = 0) : 0 ≤ (gt s p).2.1 ∧ (gt s p).2.1 ≤ s.size := by
 have e : (Pk.getT s.data.toList p).2.2 = 0 := by have : ((Pk.getT s.data.toList p).2.2 : Int) = 0 := h; omega
 have := Pk2.getT_end s.data.toList p e
 show (0 : Int) ≤ ((Pk.getT s.data.toList p).2.1 : Nat) ∧ (((Pk.getT s.data.toList p).2.1 : Nat) : Int) ≤ s.size
 rw [Evs.size_len] at this
 omega
theorem ok_num {s : ByteArray} {st : St} (h : Ok s st) : Ok s (num s st).2 := ok_number (gi_end s) h
theorem ok_count {s : ByteArray} {st : St} (h : Ok s st) : Ok s (count s st).2 := by
 have := ok_number (gu_end s) h
 unfold count
 split
 ·exact this
 ·exact this
theorem ok_text {s : ByteArray} {st : St} (h : Ok s st) : Ok s (text s st).2 := by
 unfold text
 split
 ·split
  ·rename_i h2; have := gt_end s _ h2; exact ⟨this.1, by show (gt s st.p).2.1 ≤ _; omega⟩
  ·exact h
 ·exact h
def nums (s : ByteArray) : Nat → St → List Int × St
 | 0, st => ([], st)
 | m + 1, st => ((nums s m st).1 ++ [(num s (nums s m st).2).1], (num s (nums s m st).2).2)
theorem nums_len (s : ByteArray) (st : St) : ∀ m, (nums s m st).1.length = m
 | 0 => rfl
 | m + 1 => by rw [nums, List.length_append, nums_len s st m]; rfl
theorem ok_nums {s : ByteArray} {st : St} (h : Ok s st) : ∀ m, Ok s (nums s m st).2
 | 0 => h
 | m + 1 => ok_num (ok_nums h m)
/-- A list of n numbers: none at all, where one is wrong. -/
def listN (s : ByteArray) : Nat → List Int → St → List Int × St
 | 0, l, st => (l, st)
 | n + 1, l, st => if (num s st).2.c = 0 then listN s n (l ++ [(num s st).1]) (num s st).2 else ([], (num s st).2)
def list (s : ByteArray) (st : St) : List Int × St := listN s (count s st).1.toNat [] (count s st).2
end Rr
set_option maxRecDepth 100000 in
set_option maxHeartbeats 4000000 in
theorem text_walk {w0 w : World} {g : Nat} {s : ByteArray} {st : Rr.St} (h : RI w0 w g s st) (hs : s.size ≤ 140737488351232) : Calls Tryz.prog 87 #[.pointer (some ⟨g, 0, none⟩)] w fun e w' => e = .returned (.string (Rr.text s st).1) ∧ RI w0 w' g s (Rr.text s st).2 ∧ KeepBut w w' g none := by
 have HF := Aside0.mk h.fine
 obtain ⟨r, hr⟩ : ∃ r, Rr.text s st = r := ⟨_, rfl⟩
 rw [hr]
 have HSP : Aside0 (∀ w, Calls Tryz.prog 132 #[.string s, .int .i64 st.p] w fun e w' => e = .returned (.tuple #[.string (Rr.gt s st.p).1, .int .i64 (Rr.gt s st.p).2.1, .int .i64 (Rr.gt s st.p).2.2]) ∧ Below w.heap.size w w') := ⟨fun w => pack_GetText.calls s st.p _ _ _ w (Evs.getText s st.p hs)⟩
 by_cases h0 : st.c = 0
 ·have hb : (st.c == 0) = true := by simpa using h0
  rw [hb] at HF
  obtain ⟨q, hq⟩ : ∃ q, Rr.gt s st.p = q := ⟨_, rfl⟩
  rw [hq] at HSP
  unfold Rr.text at hr
  rw [if_pos h0, hq] at hr
  have HR := Aside0.mk hr
  clear hr h hq hb
  go_enter Tryz.func87, Tryz.ntmps87
  go_wp2_with fail
  refine HF.out.mono ?_
  rintro e w1 ⟨rfl, h1, k1⟩
  obtain ⟨c0, c1, c2, c3⟩ := h1.cells
  have H1 := Aside0.mk h1
  have K1 := Aside0.mk k1
  clear h1 k1 HF
  go_wp2_with fail
  refine start_ (n := 18) (S := fun w' => w'.cell? ⟨g, 0, none⟩ = some (.string s) ∧ w'.cell? ⟨g, 1, none⟩ = some (.int .i64 st.p)) (ds := [10]) #[false, false, false, false, false, false, false, false, false, false, false, false, false, false, false, false, false, false] (by kernel_rfl) rfl rfl ⟨c0, c1⟩ (fun hHeld => ?_)
  refine pz (i := 0) (N := some 9) (bz 18 1) ?_
  refine pz (i := 1) (N := some 10) (bz 18 3) ?_
  refine pz (i := 2) (N := some 11) (bz 18 7) ?_
  refine pz (i := 3) (N := some 12) (bz 18 15) ?_
  refine pz (i := 5) (N := some 14) (bz 18 47) ?_
  refine pz (i := 6) (N := some 15) (bz 18 111) ?_
  refine pz (i := 7) (N := some 16) (bz 18 239) ?_
  refine pz (i := 8) (N := some 17) (bz 18 495) ?_
  refine tz (i := 4) (N := some 13) (bz 18 511) hHeld ?_
  refine tz (i := 9) (N := some 18) (bz 18 1023) hHeld ?_
  refine last_ (i := 10) (N := some 19) (bz 18 2047) rfl rfl (by kernel_rfl) (by decide) (fun K hK => ?_)
  refine goes_ Tryz.func132 (by kernel_rfl) rfl #[.string s, .int .i64 st.p] (by rfl) rfl rfl (by simp only [List.map_toArray, List.map_cons, List.map_nil]; rfl) ?_
  with_reducible refine ((HSP.out _)).mono ?_
  rintro e w2 ⟨rfl, b2⟩
  refine ⟨_, rfl, ?_⟩
  refine hK.out _ _ ?_
  clear hK K
  refine nz (N := some 19) ?_
  refine pz (i := 11) (N := some 8) (bz 18 4095) ?_
  refine pz (i := 12) (N := some 20) (bz 18 8191) ?_
  refine pz (i := 13) (N := some 21) (bz 18 16383) ?_
  refine pz (i := 14) (N := some 22) (bz 18 32767) ?_
  refine pz (i := 15) (N := some 2) (bz 18 65535) ?_
  refine pz (i := 16) (N := some 3) (bz 18 131071) ?_
  refine pz (i := 17) (N := some 4) (bz 18 262143) ?_
  refine done_ (by kernel_rfl) ?_
  have H2 : Aside0 (RI w0 w2 g s st) := ⟨(show RI w0 w1.drew g s st from ⟨H1.out.is, H1.out.bl.drew⟩).below b2⟩
  have K2 : Aside0 (KeepBut w w2 g none) := ⟨KB.trans K1.out ⟨b2.size, fun i hi _ _ => b2.block i hi⟩⟩
  clear b2 H1 K1 HSP c0 c1 c2 c3
  obtain ⟨c0, c1, c2, c3⟩ := H2.out.cells
  by_cases he : q.2.2 = 0
  ·have hr := HR.out
   rw [if_pos he] at hr
   subst hr
   have f1 := H2.out.fz 1
   have HE := Aside0.mk (H2.out.setp q.2.1)
   have KE := Aside0.mk (K2.out.set_ 1 (.int .i64 q.2.1))
   clear HR H2 K2
   go_wp2_with fail
   go_ret
   exact ⟨by first | rfl | (rw [hb]; rfl) | (rw [h0]; rfl), by first | exact HE.out | (have hq := HE.out; rw [h0] at hq; exact hq), KE.out⟩
  ·have hr := HR.out
   rw [if_neg he] at hr
   subst hr
   have hne : (q.2.2 != 0) = true := by simpa using he
   have HFL := Aside0.mk (H2.out.fail st.p q.2.2)
   clear HR H2
   go_wp2_with fail
   refine HFL.out.mono ?_
   rintro e w3 ⟨rfl, h3, k3⟩
   have HE := Aside0.mk h3
   have KE := Aside0.mk (KB.trans K2.out k3)
   clear h3 k3 K2 HFL c0 c1 c2 c3
   go_wp2_with fail
   go_ret
   exact ⟨by first | rfl | (rw [hb]; rfl) | (rw [h0]; rfl), by first | exact HE.out | (have hq := HE.out; rw [h0] at hq; exact hq), KE.out⟩
 ·have hb : (st.c == 0) = false := by simpa using h0
  rw [hb] at HF
  unfold Rr.text at hr
  rw [if_neg h0] at hr
  subst hr
  clear h hb h0 HSP
  go_enter Tryz.func87, Tryz.ntmps87
  go_wp2_with fail
  refine HF.out.mono ?_
  rintro e w1 ⟨rfl, h1, k1⟩
  have HE := Aside0.mk h1
  have KE := Aside0.mk k1
  clear h1 k1 HF
  go_wp2_with fail
  go_ret
  exact ⟨by first | rfl | (rw [hb]; rfl) | (rw [h0]; rfl), by first | exact HE.out | (have hq := HE.out; rw [h0] at hq; exact hq), KE.out⟩
set_option maxRecDepth 100000 in
set_option maxHeartbeats 4000000 in
theorem count_walk {w0 w : World} {g : Nat} {s : ByteArray} {st : Rr.St} (h : RI w0 w g s st) (hs : s.size ≤ 140737488351232) (hok : Rr.Ok s st) : Calls Tryz.prog 89 #[.pointer (some ⟨g, 0, none⟩)] w fun e w' => e = .returned (.int .i64 (Rr.count s st).1) ∧ RI w0 w' g s (Rr.count s st).2 ∧ KeepBut w w' g none := by
 obtain ⟨r, hr⟩ : ∃ r, Rr.count s st = r := ⟨_, rfl⟩
 rw [hr]
 have HN := Aside0.mk (number_135 h hs)
 have hok1 := Rr.ok_number (Rr.gu_end s) hok
 unfold Rr.count at hr
 obtain ⟨n, hn⟩ : ∃ n, Rr.number (Rr.gu s) st = n := ⟨_, rfl⟩
 rw [hn] at hr HN hok1
 obtain ⟨c0, c1, c2, c3⟩ := h.cells
 have HR := Aside0.mk hr
 clear hr hn h hok
 go_enter Tryz.func89, Tryz.ntmps89
 go_wp2_with fail
 refine HN.out.mono ?_
 rintro e w1 ⟨rfl, h1, k1⟩
 have H1 := Aside0.mk h1
 have K1 := Aside0.mk k1
 have HF := Aside0.mk h1.fine
 clear h1 k1 HN c0 c1 c2 c3
 by_cases h0 : n.2.c = 0
 ·have hb : (n.2.c == 0) = true := by simpa using h0
  rw [hb] at HF
  clear hb
  go_wp2_with fail
  refine HF.out.mono ?_
  rintro e w2 ⟨rfl, h2, k2⟩
  obtain ⟨c0, c1, c2, c3⟩ := h2.cells
  have H2 := Aside0.mk h2
  have K2 := Aside0.mk (KB.trans K1.out k2)
  have HL := Aside0.mk (left_walk s n.2.p w2 hok1.1 (by have := hok1.2; omega) hs)
  clear h2 k2 HF H1 K1
  go_wp2_with fail
  refine HL.out.mono ?_
  rintro e w3 ⟨rfl, b3⟩
  have H3 := Aside0.mk (H2.out.below b3)
  have K3 := Aside0.mk (KB.trans K2.out (KeepBut.of_below b3 g none))
  clear b3 HL H2 K2 c0 c1 c2 c3
  by_cases hgt : (s.size : Int) - n.2.p < n.1
  ·have hr := HR.out
   rw [if_pos ⟨h0, hgt⟩] at hr
   subst hr
   have HFL := Aside0.mk (H3.out.fail st.p 211)
   clear HR H3
   go_wp2_with fail
   refine HFL.out.mono ?_
   rintro e w4 ⟨rfl, h4, k4⟩
   have HE := Aside0.mk h4
   have KE := Aside0.mk (KB.trans K3.out k4)
   clear h4 k4 K3 HFL
   go_wp2_with fail
   go_ret
   exact ⟨by first | rfl | (rw [hb]; rfl) | (rw [h0]; rfl), by first | exact HE.out | (have hq := HE.out; rw [h0] at hq; exact hq), KE.out⟩
  ·have hr := HR.out
   rw [if_neg (fun h => hgt h.2)] at hr
   subst hr
   clear HR
   go_wp2_with fail
   go_ret
   exact ⟨rfl, by first | exact H3.out | (have hq := H3.out; rw [h0] at hq; exact hq), K3.out⟩
 ·have hb : (n.2.c == 0) = false := by simpa using h0
  rw [hb] at HF
  have hr := HR.out
  rw [if_neg (fun h => h0 h.1)] at hr
  subst hr
  clear hb HR
  go_wp2_with fail
  refine HF.out.mono ?_
  rintro e w2 ⟨rfl, h2, k2⟩
  have HE := Aside0.mk h2
  have KE := Aside0.mk (KB.trans K1.out k2)
  clear h2 k2 HF H1 K1
  go_wp2_with fail
  go_ret
  exact ⟨by first | rfl | (rw [hb]; rfl) | (rw [h0]; rfl), by first | exact HE.out | (have hq := HE.out; rw [h0] at hq; exact hq), KE.out⟩
set_option maxRecDepth 100000 in
set_option maxHeartbeats 4000000 in
theorem end_walk {w0 w : World} {g : Nat} {s : ByteArray} {st : Rr.St} (h : RI w0 w g s st) (hs : s.size ≤ 140737488351232) (hok : Rr.Ok s st) : Calls Tryz.prog 92 #[.pointer (some ⟨g, 0, none⟩)] w fun e w' => e = .returned (.bool ((Rr.fin s st).c == 0)) ∧ RI w0 w' g s (Rr.fin s st) ∧ KeepBut w w' g none := by
 obtain ⟨r, hr⟩ : ∃ r, Rr.fin s st = r := ⟨_, rfl⟩
 rw [hr]
 unfold Rr.fin at hr
 have HF := Aside0.mk h.fine
 have HR := Aside0.mk hr
 clear hr h
 by_cases h0 : st.c = 0
 ·have hb : (st.c == 0) = true := by simpa using h0
  rw [hb] at HF
  clear hb
  go_enter Tryz.func92, Tryz.ntmps92
  go_wp2_with fail
  refine HF.out.mono ?_
  rintro e w2 ⟨rfl, h2, k2⟩
  obtain ⟨c0, c1, c2, c3⟩ := h2.cells
  have H2 := Aside0.mk h2
  have K2 := Aside0.mk k2
  have HL := Aside0.mk (left_walk s st.p w2 hok.1 (by have := hok.2; omega) hs)
  clear h2 k2 HF
  go_wp2_with fail
  refine HL.out.mono ?_
  rintro e w3 ⟨rfl, b3⟩
  have H3 := Aside0.mk (H2.out.below b3)
  have K3 := Aside0.mk (KB.trans K2.out (KeepBut.of_below b3 g none))
  clear b3 HL H2 K2 c0 c1 c2 c3
  obtain ⟨c0, c1, c2, c3⟩ := H3.out.cells
  by_cases hgt : 0 < (s.size : Int) - st.p
  ·have hr := HR.out
   rw [if_pos ⟨h0, hgt⟩] at hr
   subst hr
   have HFL := Aside0.mk (H3.out.fail st.p 4)
   clear HR H3
   go_wp2_with fail
   refine HFL.out.mono ?_
   rintro e w4 ⟨rfl, h4, k4⟩
   have HF := Aside0.mk h4.fine
   have K4 := Aside0.mk (KB.trans K3.out k4)
   clear h4 k4 K3 HFL c0 c1 c2 c3
   go_wp2_with fail
   refine HF.out.mono ?_
   rintro e w5 ⟨rfl, h5, k5⟩
   have HE := Aside0.mk h5
   have KE := Aside0.mk (KB.trans K4.out k5)
   clear h5 k5 HF K4
   go_wp2_with fail
   go_ret
   exact ⟨by first | rfl | (rw [hb]; rfl) | (rw [h0]; rfl), by first | exact HE.out | (have hq := HE.out; rw [h0] at hq; exact hq), KE.out⟩
  ·have hr := HR.out
   rw [if_neg (fun h => hgt h.2)] at hr
   subst hr
   have HF := Aside0.mk H3.out.fine
   clear HR H3 c0 c1 c2 c3
   go_wp2_with fail
   refine HF.out.mono ?_
   rintro e w5 ⟨rfl, h5, k5⟩
   have HE := Aside0.mk h5
   have KE := Aside0.mk (KB.trans K3.out k5)
   clear h5 k5 HF K3
   go_wp2_with fail
   go_ret
   exact ⟨by first | rfl | (rw [hb]; rfl) | (rw [h0]; rfl), by first | exact HE.out | (have hq := HE.out; rw [h0] at hq; exact hq), KE.out⟩
 ·have hb : (st.c == 0) = false := by simpa using h0
  rw [hb] at HF
  have hr := HR.out
  rw [if_neg (fun h => h0 h.1)] at hr
  subst hr
  clear HR
  go_enter Tryz.func92, Tryz.ntmps92
  go_wp2_with fail
  refine HF.out.mono ?_
  rintro e w2 ⟨rfl, h2, k2⟩
  have HF2 := Aside0.mk h2.fine
  rw [hb] at HF2
  have K2 := Aside0.mk k2
  clear h2 k2 HF
  go_wp2_with fail
  refine HF2.out.mono ?_
  rintro e w5 ⟨rfl, h5, k5⟩
  have HE := Aside0.mk h5
  have KE := Aside0.mk (KB.trans K2.out k5)
  clear h5 k5 HF2 K2
  go_wp2_with fail
  go_ret
  exact ⟨by rw [hb]; rfl, HE.out, KE.out⟩
end Go.Proofs.YtofklpphalalhaaGreatDoor
end
section
namespace Go.Proofs.YtofklpphalalhaaGreatDoor
set_option linter.unusedVariables false
set_option linter.unusedSimpArgs false
open Go.RowKit Go.Proofs.YtofklpphalalhaaGreatDoor.PAll Go.Proofs.YtofklpphalalhaaGreatDoorW.PrintWords Go.Proofs.YtofklpphalalhaaGreatDoorW.PrintLast Go.Proofs.YtofklpphalalhaaGreatDoorW.PrintMore
namespace Rr
def opT (s : ByteArray) : ByteArray := Evs.S (Pk.opn s.data.toList).1
def opE (s : ByteArray) : Nat := (Pk.opn s.data.toList).2
def opened (s : ByteArray) (kind : UInt8) : St :=
 if opE s = 211 then ⟨4, s.size, 211⟩ else if opE s ≠ 0 then ⟨4, (s.size : Int) - 4, opE s⟩ else if (opT s).data.toList.take 4 = [69, 80, 84, kind] then ⟨4, 0, 0⟩ else ⟨4, 0, 220⟩
theorem ok_opened (s : ByteArray) (kind : UInt8) : Ok (opT s) (opened s kind) := by
  have h : (opened s kind).p = 4 := by unfold opened; repeat' split
                                       all_goals rfl
  unfold Ok; rw [h]; omega
theorem prefix_of (t : ByteArray) (kind : UInt8) : strings_HasPrefix.f t (⟨#[69, 80, 84]⟩ ++ ⟨#[kind]⟩) = some (decide (t.data.toList.take 4 = [69, 80, 84, kind])) := by
 have hsz : ((⟨#[69, 80, 84]⟩ : ByteArray) ++ ⟨#[kind]⟩).size = 4 := by rw [ByteArray.size_append]; rfl
 have hto : ((⟨#[69, 80, 84]⟩ : ByteArray) ++ ⟨#[kind]⟩).toList = [69, 80, 84, kind] := by rw [ByteArray.toList_eq, ByteArray.data_append]; rfl
 unfold strings_HasPrefix.f stringslite_HasPrefix.f
 rw [hsz, hto]
 have hl := Evs.size_len t
 by_cases h : 4 ≤ t.size
 ·have e1 : ((4 : Nat) : Int) ≤ (t.size : Int) := by omega
  have e2 : (t.size : Int) ≥ ((4 : Nat) : Int) := e1
  rw [if_pos e2, if_pos (by omega), if_pos e1]
  have hx : (t.extract 0 ((4 : Nat) : Int).toNat).toList = t.data.toList.take 4 := by
   rw [Int.toNat_natCast, Evs.ext_S, Evs.S_toList]; simp
  rw [hx]
  simp only [Option.bind_some, Option.some.injEq]
  rw [Bool.eq_iff_iff]; simp
 ·have e2 : ¬ ((t.size : Int) ≥ ((4 : Nat) : Int)) := by omega
  rw [if_neg e2]
  simp only [Option.bind_some, Option.some.injEq]
  rw [Bool.eq_iff_iff]
  simp only [Bool.false_eq_true, false_iff, decide_eq_true_eq]
  intro hc
  have := congrArg List.length hc
  rw [List.length_take] at this
  simp at this
  omega
end Rr
set_option maxRecDepth 100000 in
set_option maxHeartbeats 8000000 in
theorem opened_walk (s : ByteArray) (hs : s.size ≤ 140737488351232) (kind : UInt8) (w : World) (HT : Tab w) : Calls Tryz.prog 86 #[.string s, .int .u8 kind.toNat] w fun e w' => ∃ g, e = .returned (.pointer (some ⟨g, 0, none⟩)) ∧ RI w w' g (Rr.opT s) (Rr.opened s kind) := by
  have hop := pack_Open.calls s (Rr.opT s) (Rr.opE s : Int) w HT (by rw [Evs.opened s hs]; rfl)
  have HOP := Aside0.mk hop
  have HPF := Aside0.mk (Rr.prefix_of (Rr.opT s) kind)
  obtain ⟨r, hr⟩ : ∃ r, Rr.opened s kind = r := ⟨_, rfl⟩
  rw [hr]
  unfold Rr.opened at hr
  obtain ⟨t, ht⟩ : ∃ t, Rr.opT s = t := ⟨_, rfl⟩
  obtain ⟨e, he⟩ : ∃ e, Rr.opE s = e := ⟨_, rfl⟩
  rw [ht, he] at hr
  rw [ht, he] at HOP
  rw [ht] at HPF ⊢
  have HR := Aside0.mk hr
  have hk : kind.toNat < 256 := kind.toNat_lt
  clear hop hr ht he HT
  go_enter Tryz.func86, Tryz.ntmps86
  go_wp2_with fail
  refine HOP.out.mono ?_
  rintro e0 W1 ⟨rfl, b1⟩
  have HI := Aside0.mk (show RI w (W1.alloc (.cells #[.string t, .int .i64 4, .int .i64 0, .int .i64 0] 139)) W1.heap.size t ⟨4, 0, 0⟩ from ⟨⟨Array.getElem?_push_size, b1.size⟩, b1.alloc b1.size _⟩)
  clear b1 HOP
  by_cases h1 : e = 211
  · subst h1
    have hr := HR.out
    rw [if_pos rfl] at hr
    subst hr
    have HFL := Aside0.mk (HI.out.fail s.size 211)
    clear HI HR HPF
    go_wp2_with fail
    refine HFL.out.mono ?_
    rintro e w2 ⟨rfl, h2, _⟩
    have HE := Aside0.mk h2
    clear h2 HFL
    go_wp2_with fail
    go_ret
    exact ⟨_, rfl, HE.out⟩
  · have hr := HR.out
    rw [if_neg h1] at hr
    have h1' : ((e : Int) == 211) = false := by simpa using (by omega : ¬ ((e : Int) = 211))
    have hcv : Sem.run Tryz.prog (convert 59 9 (.slice (some ⟨W1.heap.size + 1, 0, none⟩) 1 1)) ((W1.alloc (.cells #[.string t, .int .i64 4, .int .i64 0, .int .i64 0] 139)).alloc (.cells #[.int .u8 kind.toNat] 5)) = .ok (.string ⟨#[kind]⟩) ((W1.alloc (.cells #[.string t, .int .i64 4, .int .i64 0, .int .i64 0] 139)).alloc (.cells #[.int .u8 kind.toNat] 5)) := by
      have hb := (two_blocks W1 (.cells #[.string t, .int .i64 4, .int .i64 0, .int .i64 0] 139) (.cells #[.int .u8 kind.toNat] 5)).2
      have hC : Kd.C (Kd.int .u8) ((W1.alloc (.cells #[.string t, .int .i64 4, .int .i64 0, .int .i64 0] 139)).alloc (.cells #[.int .u8 kind.toNat] 5)) (some ⟨W1.heap.size + 1, 0, none⟩) 1 (Evs.nats [kind]) := by
        refine ⟨rfl, by decide, fun _ => ⟨_, rfl, fun j p hp => ⟨[.int .u8 p], rfl, rfl, fun i u hu => ?_⟩⟩⟩
        match j, hp with
        | 0, hp =>
          simp only [Evs.nats, List.map_cons, List.map_nil, List.getElem?_cons_zero, Option.some.injEq] at hp
          subst hp
          match i, hu with
          | 0, hu =>
            simp only [List.getElem?_cons_zero, Option.some.injEq] at hu
            subst hu
            show World.cell? _ ⟨W1.heap.size + 1, 0, none⟩ = _
            rw [Lib.cell_of_heap hb]; rfl
      have := Kd.C_string (P := Tryz.prog) (src := 59) (dst := 9) (e := 5) (c := 1) Tryz.underlying59 Tryz.underlying5 Tryz.underlying9 hC
      rw [Evs.str_nats] at this
      exact this
    have HB2 := Aside0.mk (HI.out.below (below_one _ (.cells #[.int .u8 kind.toNat] 5)))
    by_cases h2 : e = 0
    · subst h2
      rw [if_neg (by simp)] at hr
      clear HR h1'
      by_cases h3 : t.data.toList.take 4 = [69, 80, 84, kind]
      · rw [if_pos h3] at hr
        subst hr
        have hpf := HPF.out
        rw [decide_eq_true h3] at hpf
        have HP : Aside0 (∀ w, Calls Tryz.prog 131 #[.string t, .string (⟨#[69, 80, 84]⟩ ++ ⟨#[kind]⟩)] w fun e w' => e = .returned (.bool true) ∧ Drawn0 w w') := ⟨fun w => strings_HasPrefix.calls t _ true w hpf⟩
        clear HPF hpf h3
        go_wp2_with fail
        refine (HP.out _).mono ?_
        rintro e w2 ⟨rfl, hd⟩
        have HE := Aside0.mk (HB2.out.below hd.below)
        clear hd HP HB2 HI hcv
        go_wp2_with fail
        go_ret
        exact ⟨_, rfl, HE.out⟩
      · rw [if_neg h3] at hr
        subst hr
        have hpf := HPF.out
        rw [decide_eq_false h3] at hpf
        have HP : Aside0 (∀ w, Calls Tryz.prog 131 #[.string t, .string (⟨#[69, 80, 84]⟩ ++ ⟨#[kind]⟩)] w fun e w' => e = .returned (.bool false) ∧ Drawn0 w w') := ⟨fun w => strings_HasPrefix.calls t _ false w hpf⟩
        clear HPF hpf h3
        go_wp2_with fail
        refine (HP.out _).mono ?_
        rintro e w2 ⟨rfl, hd⟩
        have HFL := Aside0.mk ((HB2.out.below hd.below).fail 0 220)
        clear hd HP HB2 HI hcv
        go_wp2_with fail
        refine HFL.out.mono ?_
        rintro e w3 ⟨rfl, h3, _⟩
        have HE := Aside0.mk h3
        clear h3 HFL
        go_wp2_with fail
        go_ret
        exact ⟨_, rfl, HE.out⟩
    · rw [if_pos h2] at hr
      subst hr
      have h2' : ((e : Int) != 0) = true := by simpa using (by omega : ¬ ((e : Int) = 0))
      have hse : wrap64 ((s.size : Int) - 4) = (s.size : Int) - 4 := IntWalk.wrap64_in _ ⟨by omega, by omega⟩
      have HFL := Aside0.mk (HI.out.fail ((s.size : Int) - 4) e)
      clear HI HR HPF hcv HB2
      go_wp2_with fail
      refine HFL.out.mono ?_
      rintro e w2 ⟨rfl, h2, _⟩
      have HE := Aside0.mk h2
      clear h2 HFL
      go_wp2_with fail
      go_ret
      exact ⟨_, rfl, HE.out⟩
namespace Rr
theorem number_zero {take : Int → Int × Int × Int} {st : St} (h : (number take st).2.c ≠ 0) : (number take st).1 = 0 := by
 unfold number at *
 split
 ·rename_i h1
  rw [if_pos h1] at h
  split
  ·rename_i h2; rw [if_pos h2] at h; exact absurd h1 h
  ·rfl
 ·rfl
theorem count_le {s : ByteArray} {st : St} (hok : Ok s st) : (count s st).1.toNat ≤ s.size := by
 have h1 := ok_number (gu_end s) hok
 have h2 := @number_zero (gu s) st
 unfold count
 split
 ·simp
 ·rename_i h
  have := h1.1
  by_cases hc : (number (gu s) st).2.c = 0
  ·have h3 : ¬ ((s.size : Int) - (number (gu s) st).2.p < (number (gu s) st).1) := fun h' => h ⟨hc, h'⟩
   omega
  ·rw [h2 hc]; simp
theorem ok_listN {s : ByteArray} : ∀ (n : Nat) (l : List Int) (st : St), Ok s st → Ok s (listN s n l st).2
  | 0, _, _, h => h
  | n + 1, l, st, h => by
    unfold listN
    split
    · exact ok_listN n _ _ (ok_num h)
    · exact ok_num h
theorem ok_list {s : ByteArray} {st : St} (h : Ok s st) : Ok s (list s st).2 := ok_listN _ _ _ (ok_count h)
end Rr
theorem own3_ne {w : World} {base n B T : Nat} {v : Value} {xs : List Value} {cs : Array Value} {fr : Nat × Nat} (hown : w.ownsRow base 3 1 v n xs) (hb : w.heap[B]? = some (.cells cs T fr)) (hT : T ≠ 3) : v.ownBlock ≠ some B := by
 rcases hown.2 with ⟨rfl, _⟩ | ⟨g, cap, cur, rfl, _, hg, _⟩
 ·simp [Value.ownBlock]
 ·intro h
  simp only [Value.ownBlock, Option.some.injEq] at h
  subst h
  rw [hg] at hb
  simp only [Option.some.injEq, Obj.cells.injEq] at hb
  exact hT hb.2.1.symm
/-- append of one number to a row of one's own. -/
theorem wpList_int {W : World} {ops : Array Oper} {rest : List Oper} {o : Oper} {a : Act} {Q : Exit → Act → World → Prop} {base : Nat} {v : Value} {l : List Int} (hown : W.ownsRow base 3 1 v l.length (l.flatMap ic)) (hlen : l.length ≤ 1000000000000) (hbase : base ≤ W.heap.size) (x : Int) (hgd : o.guard = none) (s y : Operand)
  (ho : o.op = .call { callee := .builtin .append, args := #[s, y], argTypes := #[23, 23] }) (hs : a.eval s = v) (hy : a.eval y = .slice (some ⟨W.heap.size, 0, none⟩) 1 1)
  (hk : ∀ v' w', w'.ownsRow base 3 1 v' (l ++ [x]).length ((l ++ [x]).flatMap ic) → (W.alloc (.cells #[.int .i64 x] 3)).grownBy w' v.ownBlock → wpList Tryz.prog ops Q rest (a.put o.dst v') w') : wpList Tryz.prog ops Q (o :: rest) a (W.alloc (.cells #[.int .i64 x] 3)) := by
 obtain ⟨i0, hi, hz0, hz1, hz2⟩ := info_parts info3
 have hnew : (W.alloc (.cells #[.int .i64 x] 3)).heap[W.heap.size]? = some (.cells #[.int .i64 x] 3) := Array.getElem?_push_size
 have hal : Below W.heap.size W (W.alloc (.cells #[.int .i64 x] 3)) := below_one _ _
 have hown' := pw_own_below hown hal
 have hll : (l.flatMap ic).length = l.length := by
  have h := (reps_enc (enc := ic) (z := 1) (R := fun _ _ => True) (fun _ => trivial) (fun _ => rfl) l).1
  omega
 refine wpList_append_own _ hgd s y 23 ho base 3 i0 (.int .i64 0) 1 8 Tryz.underlying23 hi hz0 hz1 hz2 rfl (by decide) v l.length (l.flatMap ic) hs hown' ⟨W.heap.size, 0, none⟩ 1 1 [.int .i64 x] hy rfl (fun j u hu => ?_) (fun u hu => ?_) (by simp only [maxLen]; omega) (by omega) (by simp; omega) (fun v' w' ho' hg _ => ?_)
 ·match j, hu with
  | 0, hu => simp only [List.getElem?_cons_zero, Option.some.injEq] at hu; subst hu; show World.cell? _ ⟨W.heap.size, 0, none⟩ = _; rw [Lib.cell_of_heap hnew]; rfl
 ·simp only [List.mem_singleton] at hu; subst hu; rfl
 ·refine hk v' w' ?_ hg
  rw [List.flatMap_append, List.length_append]
  have e : [x].flatMap ic = [.int .i64 x] := by simp
  rw [e]
  exact ho'
set_option maxRecDepth 100000 in
set_option maxHeartbeats 8000000 in
theorem rlist_walk {w0 w : World} {g : Nat} {s : ByteArray} {st : Rr.St} (h : RI w0 w g s st) (hs : s.size ≤ 1000000000) (hok : Rr.Ok s st) : Calls Tryz.prog 91 #[.pointer (some ⟨g, 0, none⟩)] w fun e w' => ∃ v, e = .returned v ∧ w'.ownsRow w.heap.size 3 1 v (Rr.list s st).1.length ((Rr.list s st).1.flatMap ic) ∧ RI w0 w' g s (Rr.list s st).2 ∧ KeepBut w w' g none := by
 have hc := count_walk h (by omega) hok
 have hcl := Rr.count_le hok
 have hok1 := Rr.ok_count hok
 obtain ⟨R, hR⟩ : ∃ R, Rr.list s st = R := ⟨_, rfl⟩
 rw [hR]
 unfold Rr.list at hR
 obtain ⟨n, hn⟩ : ∃ n, Rr.count s st = n := ⟨_, rfl⟩
 rw [hn] at hR hc hcl hok1
 have HC := Aside0.mk hc
 have HR := Aside0.mk hR
 have HOK := Aside0.mk hok1
 have HW0 := Aside0.mk h.bl.size
 clear hR hc hn hok hok1 h
 go_enter Tryz.func91, Tryz.ntmps91
 go_wp2_with fail
 refine HC.out.mono ?_
 rintro e w1 ⟨rfl, h1, k1⟩
 have H1 := Aside0.mk h1
 have K1 := Aside0.mk k1
 clear h1 k1 HC
 go_wp2_with fail
 go_loopw [2, 6] (fun v2 v6 wr => ∃ (k : Nat) (l : List Int) (st' : Rr.St), k ≤ n.1.toNat ∧ v6 = .int .i64 k ∧ l.length = k ∧ RI w0 wr g s st' ∧ wr.ownsRow w.heap.size 3 1 v2 l.length (l.flatMap ic) ∧ KeepBut w wr g none ∧ Rr.listN s (n.1.toNat - k) l st' = R) (fun _ v _ => n.1.toNat - (intOf v).toNat)
 case atStart => exact ⟨0, [], n.2, Nat.zero_le _, rfl, rfl, H1.out, World.ownsRow_nil _ _ _ _, K1.out, HR.out⟩
 case round =>
  obtain ⟨k, l, st', hk, rfl, hlk, hri, ho, hkb, hlN⟩ := hrel
  have HI := Aside0.mk hri
  have HO := Aside0.mk ho
  have HK := Aside0.mk hkb
  have HL := Aside0.mk hlN
  clear hri ho hkb hlN HR H1 K1
  by_cases hlt : (k : Int) < n.1
  ·have hnum := Aside0.mk (number_134 HI.out (by omega))
   obtain ⟨q, hq⟩ : ∃ q, Rr.number (Rr.gi s) st' = q := ⟨_, rfl⟩
   rw [hq] at hnum
   have hsub : n.1.toNat - k = (n.1.toNat - (k + 1)) + 1 := by omega
   have hlN := HL.out
   rw [hsub] at hlN
   unfold Rr.listN Rr.num at hlN
   rw [hq] at hlN
   replace HL := Aside0.mk hlN
   clear hlN hsub hq
   go_wp2_with fail
   refine hnum.out.mono ?_
   rintro e w2 ⟨rfl, h2, k2⟩
   have H2 := Aside0.mk h2
   have K2 := Aside0.mk (KB.trans HK.out k2)
   have HO2 : Aside0 (w2.ownsRow w.heap.size 3 1 _ l.length (l.flatMap ic)) := ⟨k2.own HO.out (own3_ne HO.out HI.out.blk (by decide)) (by cases hb : Value.ownBlock _ <;> simp)⟩
   have HF := Aside0.mk h2.fine
   clear h2 k2 hnum HO HK HI
   by_cases h0 : q.2.c = 0
   ·have hb : (q.2.c == 0) = true := by simpa using h0
    rw [hb] at HF
    have hlN := HL.out
    rw [if_pos h0] at hlN
    replace HL := Aside0.mk hlN
    clear hb hlN
    go_wp2_with fail
    refine HF.out.mono ?_
    rintro e w3 ⟨rfl, h3, k3⟩
    have H3 := Aside0.mk h3
    have K3 := Aside0.mk (KB.trans K2.out k3)
    have HO3 : Aside0 (w3.ownsRow w.heap.size 3 1 _ l.length (l.flatMap ic)) := ⟨k3.own HO2.out (own3_ne HO2.out H2.out.blk (by decide)) (by cases hb : Value.ownBlock _ <;> simp)⟩
    clear h3 k3 HF HO2 K2 H2
    go_wp2_with (at_builtin; refine wpList_int HO3.out (by omega) (K3.out.1) q.1 rfl _ _ rfl rfl rfl ?_)
    intro v' w4 ho4 hg4
    have HO4 : Aside0 (w4.ownsRow w.heap.size 3 1 v' (l ++ [q.1]).length ((l ++ [q.1]).flatMap ic)) := ⟨by first | exact ho4 | (rw [List.length_append, hlk, List.flatMap_append]; simpa using ho4)⟩
    have hal : Below w3.heap.size w3 (w3.alloc (.cells #[.int .i64 q.1] 3)) := below_one _ _
    have HI4 : Aside0 (RI w0 w4 g s q.2) := ⟨by
     have h5 := H3.out.below hal
     have hne : some g ≠ Value.ownBlock _ := fun e => own3_ne HO3.out H3.out.blk (by decide) e.symm
     refine ⟨h5.is.grown hg4 hne, h5.bl.grown hg4 h5.bl.size (fun k hk => ?_)⟩
     exact Nat.le_trans HW0.out ((HO3.out.lt k hk).1)⟩
    have K4 : Aside0 (KeepBut w w4 g none) := ⟨by
     have h5 : KeepBut w (w3.alloc (.cells #[.int .i64 q.1] 3)) g none := KB.trans K3.out (KeepBut.of_below hal g none)
     refine ⟨Nat.le_trans h5.1 hg4.size, fun i hi hg hr => ?_⟩
     rw [hg4.block i (Nat.lt_of_lt_of_le hi h5.1) (fun e => by have := (HO3.out.lt i e.symm).1; omega)]
     exact h5.2 i hi hg hr⟩
    clear ho4 hg4 hal HO3 H3 K3
    go_wp2_with fail
    go_roundw
    case rel => exact ⟨k + 1, l ++ [q.1], q.2, by omega, by go_num, by simp [hlk], HI4.out, HO4.out, K4.out, HL.out⟩
    case measure => simp [intOf]; omega
   ·have hb : (q.2.c == 0) = false := by simpa using h0
    rw [hb] at HF
    have hlN := HL.out
    rw [if_neg h0] at hlN
    subst hlN
    clear hb HL
    go_wp2_with fail
    refine HF.out.mono ?_
    rintro e w3 ⟨rfl, h3, k3⟩
    have H3 := Aside0.mk h3
    have K3 := Aside0.mk (KB.trans K2.out k3)
    clear h3 k3 HF HO2 K2 H2
    go_wp2_with fail
    go_ret
    exact ⟨_, rfl, World.ownsRow_nil _ _ _ _, H3.out, K3.out⟩
  ·have hlN := HL.out
   rw [show n.1.toNat - k = 0 by omega] at hlN
   subst hlN
   clear HL
   go_wp2_with fail
   go_ret
   exact ⟨_, rfl, HO.out, HI.out, HK.out⟩
end Go.Proofs.YtofklpphalalhaaGreatDoor
end
section
namespace Go.Proofs.YtofklpphalalhaaGreatDoor
set_option linter.unusedVariables false
set_option linter.unusedSimpArgs false
open Go.RowKit Go.Proofs.YtofklpphalalhaaGreatDoor.PAll Go.Proofs.YtofklpphalalhaaGreatDoorW.PrintWords Go.Proofs.YtofklpphalalhaaGreatDoorW.PrintLast Go.Proofs.YtofklpphalalhaaGreatDoorW.PrintMore
/-- Cells from o on are these numbers then. -/
def upd (cs : Array Value) (o : Nat) : List Int → Array Value
 | [] => cs
 | n :: l => upd (cs.setIfInBounds o (.int .i64 n)) (o + 1) l
theorem upd_size (l : List Int) : ∀ (cs : Array Value) (o : Nat), (upd cs o l).size = cs.size := by
 induction l with
 | nil => intro cs o; rfl
 | cons n l ih => intro cs o; rw [upd, ih]; simp
theorem upd_snoc (l : List Int) (n : Int) : ∀ (cs : Array Value) (o : Nat), upd cs o (l ++ [n]) = (upd cs o l).setIfInBounds (o + l.length) (.int .i64 n) := by
  induction l with
  | nil => intro cs o; rfl
  | cons a l ih =>
    intro cs o
    rw [List.cons_append, upd, upd, ih, List.length_cons]
    congr 1
    omega
/-- All blocks but two stay. -/
def K2 (w w' : World) (g B : Nat) : Prop := w.heap.size ≤ w'.heap.size ∧ ∀ i, i < w.heap.size → i ≠ g → i ≠ B → w'.heap[i]? = w.heap[i]?
theorem K2.refl (w : World) (g B : Nat) : K2 w w g B := ⟨Nat.le_refl _, fun _ _ _ _ => rfl⟩
theorem K2.keep {w w1 w2 : World} {g B : Nat} (h : K2 w w1 g B) (k : KeepBut w1 w2 g none) : K2 w w2 g B := ⟨Nat.le_trans h.1 k.1, fun i hi hg hb => (k.2 i (Nat.lt_of_lt_of_le hi h.1) hg (by simp)).trans (h.2 i hi hg hb)⟩
theorem K2.set {w w1 : World} {g B : Nat} (h : K2 w w1 g B) (j : Nat) (u : Value) : K2 w (w1.setCell ⟨B, j, none⟩ u) g B := ⟨by simpa [World.setCell] using h.1, fun i hi hg hb => (Below.heap_setCell w1 ⟨B, j, none⟩ u i hb).trans (h.2 i hi hg hb)⟩
theorem K2.blk {w w1 : World} {g B i : Nat} {o : Obj} (h : K2 w w1 g B) (hb : w.heap[i]? = some o) (hg : i ≠ g) (hB : i ≠ B) : w1.heap[i]? = some o := (h.2 i (Array.getElem?_eq_some_iff.1 hb).1 hg hB).trans hb
theorem RI.setB {w0 w : World} {g B j : Nat} {s : ByteArray} {st : Rr.St} (h : RI w0 w g s st) (hg : g ≠ B) (hB : w0.heap.size ≤ B) (u : Value) : RI w0 (w.setCell ⟨B, j, none⟩ u) g s st :=
 ⟨⟨(Below.heap_setCell w ⟨B, j, none⟩ u g hg).trans h.blk, h.is.2⟩, h.bl.setCell (p := ⟨B, j, none⟩) hB _⟩
set_option maxRecDepth 100000 in
set_option maxHeartbeats 8000000 in
theorem rints_walk {w0 w : World} {g B pb m o T TP : Nat} {s : ByteArray} {st : Rr.St} {cs ps : Array Value} (h : RI w0 w g s st) (hs : s.size ≤ 140737488351232) (hm : m ≤ 1000)
  (hB : w.heap[B]? = some (.cells cs T (0, 0))) (hBg : g ≠ B) (hB0 : w0.heap.size ≤ B) (hP : w.heap[pb]? = some (.cells ps TP (0, 0))) (hps : ∀ k, k < m → ps[k]? = some (.pointer (some ⟨B, o + k, none⟩))) (hpg : pb ≠ g) (hpB : pb ≠ B) (ho : o + m ≤ cs.size) :
  Calls Tryz.prog 88 #[.pointer (some ⟨g, 0, none⟩), .slice (some ⟨pb, 0, none⟩) m m] w fun e w' => e = .returned (.tuple #[]) ∧ RI w0 w' g s (Rr.nums s m st).2 ∧ w'.heap[B]? = some (.cells (upd cs o (Rr.nums s m st).1) T (0, 0)) ∧ K2 w w' g B := by
 have HI0 := Aside0.mk h
 have HB0 := Aside0.mk hB
 have HP := Aside0.mk hP
 have HPS := Aside0.mk hps
 clear h hB hP hps
 go_enter Tryz.func88, Tryz.ntmps88
 go_wp2_with fail
 go_loopw [8] (fun v wr => ∃ k : Nat, k ≤ m ∧ v = .int .i64 k ∧ RI w0 wr g s (Rr.nums s k st).2 ∧ wr.heap[B]? = some (.cells (upd cs o (Rr.nums s k st).1) T (0, 0)) ∧ K2 w wr g B) (fun v _ => m - (intOf v).toNat)
 case atStart => exact ⟨0, Nat.zero_le _, rfl, HI0.out, HB0.out, K2.refl _ _ _⟩
 case round =>
  obtain ⟨k, hk, rfl, hi, hb, hkk⟩ := hrel
  have HI := Aside0.mk hi
  have HB := Aside0.mk hb
  have HK := Aside0.mk hkk
  clear hi hb hkk
  by_cases hlt : k < m
  ·have hdl : (k : Int) < (m : Int) := by omega
   have x0 : wr.cell? ⟨pb, k, none⟩ = some (.pointer (some ⟨B, o + k, none⟩)) := by
    rw [Lib.cell_of_heap (HK.out.blk HP.out hpg hpB)]; exact HPS.out k hlt
   have HN := Aside0.mk (number_134 HI.out hs)
   have hnx : Rr.nums s (k + 1) st = ((Rr.nums s k st).1 ++ [(Rr.number (Rr.gi s) (Rr.nums s k st).2).1], (Rr.number (Rr.gi s) (Rr.nums s k st).2).2) := rfl
   have hln := Rr.nums_len s st k
   obtain ⟨q, hq⟩ : ∃ q, Rr.nums s k st = q := ⟨_, rfl⟩
   rw [hq] at HI HB HN hnx hln
   obtain ⟨y, hy⟩ : ∃ y, Rr.number (Rr.gi s) q.2 = y := ⟨_, rfl⟩
   rw [hy] at HN hnx
   have HNX := Aside0.mk hnx
   clear hq hy hnx
   go_wp2_with fail
   refine HN.out.mono ?_
   rintro e w2 ⟨rfl, h2, k2⟩
   have hB2 : w2.heap[B]? = some (.cells (upd cs o q.1) T (0, 0)) := (k2.2 B (Array.getElem?_eq_some_iff.1 HB.out).1 (fun e => hBg e.symm) (by simp)).trans HB.out
   obtain ⟨c, hc⟩ : ∃ c, w2.cell? ⟨B, o + k, none⟩ = some c := by
    refine ⟨(upd cs o q.1)[o + k]'(by rw [upd_size]; omega), ?_⟩
    rw [Lib.cell_of_heap hB2]
    exact Array.getElem?_eq_getElem (by rw [upd_size]; omega)
   have hfz := Lib.frozen_of_heap hB2 (o + k)
   have HE : Aside0 ((w2.setCell ⟨B, o + k, none⟩ (.int .i64 y.1)).heap[B]? = some (.cells (upd cs o (Rr.nums s (k + 1) st).1) T (0, 0))) := ⟨by
    rw [HNX.out, upd_snoc, hln]
    exact blk_put hB2 (o + k) _ rfl⟩
   have HF : Aside0 (RI w0 (w2.setCell ⟨B, o + k, none⟩ (.int .i64 y.1)) g s (Rr.nums s (k + 1) st).2) := ⟨by rw [HNX.out]; exact h2.setB hBg hB0 _⟩
   have HKK := Aside0.mk ((HK.out.keep k2).set (o + k) (.int .i64 y.1))
   clear h2 k2 hB2 HN HI HB HK x0 HNX hln
   go_wp2_with fail
   go_roundw
   case rel => exact ⟨k + 1, by omega, by go_num, HF.out, HE.out, HKK.out⟩
   case measure => simp [intOf]; omega
  ·have hdl : ¬ ((k : Int) < (m : Int)) := by omega
   obtain rfl : k = m := by omega
   go_wp2_with fail
   go_end0
   exact ⟨rfl, HI.out, HB.out, HK.out⟩
end Go.Proofs.YtofklpphalalhaaGreatDoor
end
