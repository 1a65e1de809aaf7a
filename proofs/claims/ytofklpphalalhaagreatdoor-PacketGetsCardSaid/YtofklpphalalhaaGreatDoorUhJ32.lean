/- Texts of this claim, joined: GivenO, PlD. Each as it was, cut to what the claim uses. Conditions: each theorem's own. -/
import Derived.Test.YtofklpphalalhaaGreatDoorUhJ1
import Derived.Test.YtofklpphalalhaaGreatDoorUhJ31
section
namespace Go.Proofs.YtofklpphalalhaaGreatDoor
set_option linter.unusedVariables false
set_option linter.unusedSimpArgs false
open Go.RowKit Go.Proofs.YtofklpphalalhaaGreatDoor.PAll Go.Proofs.YtofklpphalalhaaGreatDoorW.PrintWords Go.Proofs.YtofklpphalalhaaGreatDoorW.PrintLast Go.Proofs.YtofklpphalalhaaGreatDoorW.PrintMore
namespace Rq
open Rr (St gi gu gt)
theorem fl0 (a e : Int) (h : e ≠ 0) : fl ⟨4, 0, 0⟩ a e = ⟨4, a, e⟩ := by unfold fl; rw [if_pos ⟨rfl, h⟩]
theorem take4 (l : List UInt8) (k : UInt8) : l.take 4 = [69, 80, 84, k] ↔ 4 ≤ l.length ∧ l.take 3 = [69, 80, 84] ∧ l[3]? = some k := by
 match l with
 | [] => simp
 | [a] => simp
 | [a, b] => simp
 | [a, b, c] => simp
 | a :: b :: c :: d :: l => simp; constructor <;> (rintro ⟨h1, h2, h3, h4⟩ <;> simp_all)
theorem ext3 (t : ByteArray) : (t.extract 0 3).toList = t.data.toList.take 3 := by rw [Evs.ext_S, Evs.S_toList]; simp
theorem bt3 (t : ByteArray) (h : 4 ≤ t.size) (k : UInt8) : t.data.toList[3]? = some k ↔ bt t 3 = (k.toNat : Int) := by
 have := Evs.bt_get t 3
 rw [show ((3 : Nat) : Int) = 3 from rfl] at this
 have hl := Evs.size_len t
 rw [this, List.getD_eq_getElem?_getD, List.getElem?_eq_getElem (by omega)]
 simp only [Option.some.injEq, Option.getD_some, Int.ofNat_inj]
 exact ⟨fun h => by rw [h], fun h => UInt8.toNat_inj.1 h⟩
end Rq
set_option maxRecDepth 100000 in
set_option maxHeartbeats 8000000 in
theorem opened2_walk (s : ByteArray) (hs : s.size ≤ 140737488351232) (kind : UInt8) (w : World) : Calls Tryz.prog 123 #[.string s, .int .u8 kind.toNat] w fun e w' => ∃ g, e = .returned (.pointer (some ⟨g, 0, none⟩)) ∧ RQ w w' g (Rr.opT s) (Rr.opened s kind) := by
 obtain ⟨k, hk⟩ := (Evs.refOpened s hs).rounds
 have hop := entrepotref21_Open.calls k s (Rr.opT s) (Rr.opE s : Int) w (by rw [hk]; rfl)
 have HOP := Aside0.mk hop
 obtain ⟨r, hr⟩ : ∃ r, Rr.opened s kind = r := ⟨_, rfl⟩
 rw [hr]
 unfold Rr.opened at hr
 obtain ⟨t, ht⟩ : ∃ t, Rr.opT s = t := ⟨_, rfl⟩
 obtain ⟨e, he⟩ : ∃ e, Rr.opE s = e := ⟨_, rfl⟩
 rw [ht, he] at hr
 rw [ht, he] at HOP
 rw [ht]
 have HR := Aside0.mk hr
 have hk8 : kind.toNat < 256 := kind.toNat_lt
 clear hop hr ht he hk
 go_enter Tryz.func123, Tryz.ntmps123
 go_wp2_with fail
 refine HOP.out.mono ?_
 rintro e0 W1 ⟨rfl, b1⟩
 have HI := Aside0.mk (show RQ w (W1.alloc (.cells #[.string t, .int .i64 4, .int .i64 0, .int .i64 0] 179)) W1.heap.size t ⟨4, 0, 0⟩ from ⟨⟨Array.getElem?_push_size, b1.size⟩, b1.alloc b1.size _⟩)
 clear b1 HOP
 by_cases h1 : e = 211
 ·subst h1
  have hr := HR.out
  rw [if_pos rfl] at hr
  subst hr
  have hfl := HI.out.fail s.size 211
  rw [Rq.fl0 _ _ (by decide)] at hfl
  have HFL := Aside0.mk hfl
  clear HI HR hfl
  go_wp2_with fail
  refine HFL.out.mono ?_
  rintro e w2 ⟨rfl, h2, _⟩
  have HE := Aside0.mk h2
  clear h2 HFL
  go_wp2_with fail
  go_ret
  exact ⟨_, rfl, HE.out⟩
 ·have hr := HR.out
  rw [if_neg h1] at hr
  have h1' : ((e : Int) == 211) = false := by simpa using (by omega : ¬ ((e : Int) = 211))
  by_cases h2 : e = 0
  ·subst h2
   rw [if_neg (by simp)] at hr
   clear HR h1'
   by_cases hl : t.size < 4
   ·have hl' : (t.size : Int) < 4 := by omega
    have hno : ¬ t.data.toList.take 4 = [69, 80, 84, kind] := by rw [Rq.take4]; intro h; have := h.1; rw [Evs.size_len] at this; omega
    rw [if_neg hno] at hr
    subst hr
    have hfl := HI.out.fail 0 220
    rw [Rq.fl0 _ _ (by decide)] at hfl
    have HFL := Aside0.mk hfl
    clear HI hfl hno
    go_wp2_with fail
    refine HFL.out.mono ?_
    rintro e w2 ⟨rfl, h2, _⟩
    have HE := Aside0.mk h2
    clear h2 HFL
    go_wp2_with fail
    go_ret
    exact ⟨_, rfl, HE.out⟩
   ·have hl' : ¬ (t.size : Int) < 4 := by omega
    have hl3 : (3 : Int) ≤ (t.size : Int) := by omega
    have hl4 : (3 : Int) < (t.size : Int) := by omega
    have e3 := Rq.ext3 t
    have h43 : 3 < t.size := by omega
    have hbt := Rq.bt3 t (by omega) kind
    have hbe : bt t 3 = ((t[3]'h43).toNat : Int) := by
     have := Evs.bt_get t 3
     rw [show ((3 : Nat) : Int) = 3 from rfl] at this
     rw [this, List.getD_eq_getElem?_getD, List.getElem?_eq_getElem (by rw [Evs.size_len]; exact h43)]
     rfl
    rw [hbe] at hbt
    by_cases h3 : t.data.toList.take 3 = [69, 80, 84]
    ·rw [h3] at e3
     by_cases h4 : ((t[3]'h43).toNat : Int) = (kind.toNat : Int)
     ·have hb4 : (((t[3]'h43).toNat : Int) != (kind.toNat : Int)) = false := by simpa using h4
      rw [if_pos ((Rq.take4 _ _).2 ⟨by rw [Evs.size_len]; omega, h3, hbt.2 h4⟩)] at hr
      subst hr
      clear h3 h4 hbt hbe
      go_wp2_with fail
      go_ret
      exact ⟨_, rfl, HI.out⟩
     ·have hb4 : (((t[3]'h43).toNat : Int) != (kind.toNat : Int)) = true := by simpa using h4
      rw [if_neg (fun h => h4 (hbt.1 ((Rq.take4 _ _).1 h).2.2))] at hr
      subst hr
      have hfl := HI.out.fail 0 220
      rw [Rq.fl0 _ _ (by decide)] at hfl
      have HFL := Aside0.mk hfl
      clear HI hfl h3 h4 hbt hbe
      go_wp2_with fail
      refine HFL.out.mono ?_
      rintro e w2 ⟨rfl, h2, _⟩
      have HE := Aside0.mk h2
      clear h2 HFL
      go_wp2_with fail
      go_ret
      exact ⟨_, rfl, HE.out⟩
    ·rw [if_neg (fun h => h3 ((Rq.take4 _ _).1 h).2.1)] at hr
     subst hr
     have hfl := HI.out.fail 0 220
     rw [Rq.fl0 _ _ (by decide)] at hfl
     have HFL := Aside0.mk hfl
     clear HI hfl hbt hbe
     go_wp2_with fail
     refine HFL.out.mono ?_
     rintro e w2 ⟨rfl, h2, _⟩
     have HE := Aside0.mk h2
     clear h2 HFL
     go_wp2_with fail
     go_ret
     exact ⟨_, rfl, HE.out⟩
  ·rw [if_pos h2] at hr
   subst hr
   have h2' : ((e : Int) != 0) = true := by simpa using (by omega : ¬ ((e : Int) = 0))
   have hse : wrap64 ((s.size : Int) - 4) = (s.size : Int) - 4 := IntWalk.wrap64_in _ ⟨by omega, by omega⟩
   have hfl := HI.out.fail ((s.size : Int) - 4) e
   rw [Rq.fl0 _ _ (by omega)] at hfl
   have HFL := Aside0.mk hfl
   clear HI HR hfl
   go_wp2_with fail
   refine HFL.out.mono ?_
   rintro e w2 ⟨rfl, h2, _⟩
   have HE := Aside0.mk h2
   clear h2 HFL
   go_wp2_with fail
   go_ret
   exact ⟨_, rfl, HE.out⟩
theorem RQ.drew {w0 w : World} {g : Nat} {s : ByteArray} {st : Rr.St} (h : RQ w0 w g s st) : RQ w0 w.drew g s st := ⟨h.1, h.bl.drew⟩
set_option maxRecDepth 100000 in
set_option maxHeartbeats 8000000 in
theorem end2_walk {w0 w : World} {g : Nat} {s : ByteArray} {st : Rr.St} (h : RQ w0 w g s st) : Calls Tryz.prog 128 #[.pointer (some ⟨g, 0, none⟩)] w fun e w' => e = .returned (.tuple #[]) ∧ RQ w0 w' g s (Rq.fin s st) ∧ KeepBut w w' g none := by
 have HI := Aside0.mk h
 have HFN := Aside0.mk h.drew.fine
 have HK := Aside0.mk (show KeepBut w w.drew g none from KeepBut.of_below ((Below.refl _ _).drew) g none)
 obtain ⟨r, hr⟩ : ∃ r, Rq.fin s st = r := ⟨_, rfl⟩
 rw [hr]
 unfold Rq.fin at hr
 obtain ⟨c0, c1, _, _⟩ := h.cells
 clear h
 by_cases hc : st.c = 0
 ·have hb : (st.c == 0) = true := by simpa using hc
  rw [hb] at HFN
  by_cases hp : st.p < (s.size : Int)
  ·rw [if_pos ⟨hc, hp⟩] at hr
   subst hr
   clear hb
   go_enter Tryz.func128, Tryz.ntmps128
   go_wp2_with fail
   refine start_ (n := 14) (S := fun w' => w'.cell? ⟨g, 0, none⟩ = some (.string s) ∧ w'.cell? ⟨g, 1, none⟩ = some (.int .i64 st.p)) (ds := []) #[false, false, false, false, false, false, false, false, false, false, false, false, false, false] (by kernel_rfl) rfl rfl ⟨c0, c1⟩ (fun hHeld => ?_)
   refine pz (i := 0) (N := some 2) (bz 14 1) ?_
   refine one_ (i := 1) (N := some 3) (bz 14 3) rfl rfl (by kernel_rfl) (by decide) (fun K hK => ?_)
   refine goes_ Tryz.func127 (by kernel_rfl) rfl #[.pointer (some ⟨g, 0, none⟩)] (by rfl) rfl rfl (by simp only [List.map_toArray, List.map_cons, List.map_nil]; rfl) ?_
   with_reducible refine ((HFN.out)).mono ?_
   rintro e w1 ⟨rfl, h1, k1⟩
   refine ⟨_, rfl, ?_⟩
   have H1 := Aside0.mk h1
   have K1 := Aside0.mk (KB.trans HK.out k1)
   obtain ⟨d0, d1, _, _⟩ := h1.cells
   clear h1 k1
   refine hK.out _ _ ⟨d0, d1⟩ (fun hHeld => ?_)
   clear hK K
   refine nz (N := some 3) ?_
   refine pz (i := 2) (N := some 4) (bz 14 7) ?_
   refine pz (i := 3) (N := some 5) (bz 14 15) ?_
   refine pz (i := 4) (N := some 6) (bz 14 31) ?_
   refine pz (i := 5) (N := some 7) (bz 14 63) ?_
   refine pz (i := 7) (N := some 9) (bz 14 191) ?_
   refine pz (i := 8) (N := some 10) (bz 14 447) ?_
   refine pz (i := 9) (N := some 11) (bz 14 959) ?_
   refine tz (i := 6) (N := some 8) (bz 14 1023) hHeld ?_
   refine tz (i := 10) (N := some 12) (bz 14 2047) hHeld ?_
   refine pz (i := 11) (N := some 13) (bz 14 4095) ?_
   refine pz (i := 12) (N := some 14) (bz 14 8191) ?_
   refine pz (i := 13) (N := some 15) (bz 14 16383) ?_
   refine done_ (by kernel_rfl) ?_
   have HFL := Aside0.mk (H1.out.fail st.p 4)
   have hfe : Rq.fl st st.p 4 = ⟨st.p, st.p, 4⟩ := by unfold Rq.fl; rw [if_pos ⟨hc, by decide⟩]
   rw [hfe] at HFL
   clear hfe
   go_wp2_with fail
   refine HFL.out.mono ?_
   rintro e w2 ⟨rfl, h2, k2⟩
   have HE := Aside0.mk h2
   have HKE := Aside0.mk (KB.trans K1.out k2)
   clear h2 k2 HFL
   go_wp2_with fail
   go_end0
   exact ⟨rfl, HE.out, HKE.out⟩
  ·rw [if_neg (fun h => hp h.2)] at hr
   subst hr
   clear hb
   go_enter Tryz.func128, Tryz.ntmps128
   go_wp2_with fail
   refine start_ (n := 14) (S := fun w' => w'.cell? ⟨g, 0, none⟩ = some (.string s) ∧ w'.cell? ⟨g, 1, none⟩ = some (.int .i64 st.p)) (ds := []) #[false, false, false, false, false, false, false, false, false, false, false, false, false, false] (by kernel_rfl) rfl rfl ⟨c0, c1⟩ (fun hHeld => ?_)
   refine pz (i := 0) (N := some 2) (bz 14 1) ?_
   refine one_ (i := 1) (N := some 3) (bz 14 3) rfl rfl (by kernel_rfl) (by decide) (fun K hK => ?_)
   refine goes_ Tryz.func127 (by kernel_rfl) rfl #[.pointer (some ⟨g, 0, none⟩)] (by rfl) rfl rfl (by simp only [List.map_toArray, List.map_cons, List.map_nil]; rfl) ?_
   with_reducible refine ((HFN.out)).mono ?_
   rintro e w1 ⟨rfl, h1, k1⟩
   refine ⟨_, rfl, ?_⟩
   have H1 := Aside0.mk h1
   have K1 := Aside0.mk (KB.trans HK.out k1)
   obtain ⟨d0, d1, _, _⟩ := h1.cells
   clear h1 k1
   refine hK.out _ _ ⟨d0, d1⟩ (fun hHeld => ?_)
   clear hK K
   refine nz (N := some 3) ?_
   refine pz (i := 2) (N := some 4) (bz 14 7) ?_
   refine pz (i := 3) (N := some 5) (bz 14 15) ?_
   refine pz (i := 4) (N := some 6) (bz 14 31) ?_
   refine pz (i := 5) (N := some 7) (bz 14 63) ?_
   refine pz (i := 7) (N := some 9) (bz 14 191) ?_
   refine pz (i := 8) (N := some 10) (bz 14 447) ?_
   refine pz (i := 9) (N := some 11) (bz 14 959) ?_
   refine tz (i := 6) (N := some 8) (bz 14 1023) hHeld ?_
   refine tz (i := 10) (N := some 12) (bz 14 2047) hHeld ?_
   refine pz (i := 11) (N := some 13) (bz 14 4095) ?_
   refine pz (i := 12) (N := some 14) (bz 14 8191) ?_
   refine pz (i := 13) (N := some 15) (bz 14 16383) ?_
   refine done_ (by kernel_rfl) ?_
   go_wp2_with fail
   go_end0
   exact ⟨rfl, H1.out, K1.out⟩
 ·have hb : (st.c == 0) = false := by simpa using hc
  rw [hb] at HFN
  rw [if_neg (fun h => hc h.1)] at hr
  subst hr
  clear hb
  go_enter Tryz.func128, Tryz.ntmps128
  go_wp2_with fail
  refine start_ (n := 14) (S := fun w' => w'.cell? ⟨g, 0, none⟩ = some (.string s) ∧ w'.cell? ⟨g, 1, none⟩ = some (.int .i64 st.p)) (ds := []) #[false, false, false, false, false, false, false, false, false, false, false, false, false, false] (by kernel_rfl) rfl rfl ⟨c0, c1⟩ (fun hHeld => ?_)
  refine pz (i := 0) (N := some 2) (bz 14 1) ?_
  refine one_ (i := 1) (N := some 3) (bz 14 3) rfl rfl (by kernel_rfl) (by decide) (fun K hK => ?_)
  refine goes_ Tryz.func127 (by kernel_rfl) rfl #[.pointer (some ⟨g, 0, none⟩)] (by rfl) rfl rfl (by simp only [List.map_toArray, List.map_cons, List.map_nil]; rfl) ?_
  with_reducible refine ((HFN.out)).mono ?_
  rintro e w1 ⟨rfl, h1, k1⟩
  refine ⟨_, rfl, ?_⟩
  have H1 := Aside0.mk h1
  have K1 := Aside0.mk (KB.trans HK.out k1)
  obtain ⟨d0, d1, _, _⟩ := h1.cells
  clear h1 k1
  refine hK.out _ _ ⟨d0, d1⟩ (fun hHeld => ?_)
  clear hK K
  refine nz (N := some 3) ?_
  refine pz (i := 2) (N := some 4) (bz 14 7) ?_
  refine uz (i := 3) (N := some 5) (bz 14 15) ?_
  refine uz (i := 4) (N := some 6) (bz 14 31) ?_
  refine uz (i := 5) (N := some 7) (bz 14 63) ?_
  refine uz (i := 6) (N := some 8) (bz 14 127) ?_
  refine uz (i := 7) (N := some 9) (bz 14 255) ?_
  refine uz (i := 8) (N := some 10) (bz 14 511) ?_
  refine uz (i := 9) (N := some 11) (bz 14 1023) ?_
  refine uz (i := 10) (N := some 12) (bz 14 2047) ?_
  refine uz (i := 11) (N := some 13) (bz 14 4095) ?_
  refine uz (i := 12) (N := some 14) (bz 14 8191) ?_
  refine pz (i := 13) (N := some 15) (bz 14 16383) ?_
  refine done_ (by kernel_rfl) ?_
  go_wp2_with fail
  go_end0
  exact ⟨rfl, H1.out, K1.out⟩
end Go.Proofs.YtofklpphalalhaaGreatDoor
end
section
namespace Go.Proofs.YtofklpphalalhaaGreatDoor
set_option linter.unusedVariables false
set_option linter.unusedSimpArgs false
open Go.RowKit Go.Proofs.YtofklpphalalhaaGreatDoor.PAll
namespace Rq
open Rr (St gi gu gt Ok)
theorem gu_in (s : ByteArray) (p : Int) : 0 ≤ (gu s p).2.1 ∧ (gu s p).2.1 ≤ s.size := by
 by_cases h : (gu s p).2.2 = 0
 ·exact Rr.gu_end s p h
 ·have h' : (Pk.getU s.data.toList p).2.2 ≠ 0 := by
   intro e; apply h; show ((Pk.getU s.data.toList p).2.2 : Int) = 0; rw [e]; rfl
  have := ((Evs.getU_lt s.data.toList p).2.2.1 h').2
  show (0 : Int) ≤ ((Pk.getU s.data.toList p).2.1 : Nat) ∧ (((Pk.getU s.data.toList p).2.1 : Nat) : Int) ≤ s.size
  rw [this]; omega
theorem gi_in (s : ByteArray) (p : Int) : 0 ≤ (gi s p).2.1 ∧ (gi s p).2.1 ≤ s.size := gu_in s p
theorem gt_in (s : ByteArray) (p : Int) : 0 ≤ (gt s p).2.1 ∧ (gt s p).2.1 ≤ s.size := by
 by_cases h : (gt s p).2.2 = 0
 ·exact Rr.gt_end s p h
 ·have h' : (Pk.getT s.data.toList p).2.2 ≠ 0 := by
   intro e; apply h; show ((Pk.getT s.data.toList p).2.2 : Int) = 0; rw [e]; rfl
  have h0 : (Pk.getT s.data.toList p).2.1 = 0 := by
   unfold Pk.getT at h' ⊢
   split
   ·rfl
   ·rename_i h1
    rw [if_neg h1] at h'
    split
    ·rfl
    ·rename_i h2
     rw [if_neg h2] at h'
     exact absurd rfl h'
  show (0 : Int) ≤ ((Pk.getT s.data.toList p).2.1 : Nat) ∧ (((Pk.getT s.data.toList p).2.1 : Nat) : Int) ≤ s.size
  rw [h0]; omega
theorem ok_num {s : ByteArray} {st : St} (h : Ok s st) : Ok s (num s st).2 := by
 unfold num
 split
 ·have := gi_in s st.p
  exact ⟨this.1, by show (gi s st.p).2.1 ≤ _; omega⟩
 ·exact h
theorem ok_text {s : ByteArray} {st : St} (h : Ok s st) : Ok s (text s st).2 := by
 unfold text
 split
 ·have := gt_in s st.p
  exact ⟨this.1, by show (gt s st.p).2.1 ≤ _; omega⟩
 ·exact h
theorem ok_count {s : ByteArray} {st : St} (h : Ok s st) : Ok s (count s st).2 := by
 have := gu_in s st.p
 unfold count
 split
 ·unfold lack
  split
  ·exact ⟨this.1, by show (gu s st.p).2.1 ≤ _; omega⟩
  ·exact ⟨this.1, by show (gu s st.p).2.1 ≤ _; omega⟩
 ·exact h
theorem ok_nums {s : ByteArray} {st : St} (h : Ok s st) : ∀ m, Ok s (nums s m st).2
 | 0 => h
 | m + 1 => ok_num (ok_nums h m)
theorem ok_listN {s : ByteArray} : ∀ (n : Nat) (l : List Int) {st : St}, Ok s st → Ok s (listN s n l st).2
  | 0, _, _, h => h
  | n + 1, l, st, h => by
    unfold listN
    split
    · exact ok_listN n _ (ok_num h)
    · exact h
theorem ok_list {s : ByteArray} {st : St} (h : Ok s st) : Ok s (list s st).2 := ok_listN _ _ (ok_count h)
theorem ok_nodesN {s : ByteArray} : ∀ (n : Nat) (l : List S71) {st : St}, Ok s st → Ok s (nodesN s n l st).2
  | 0, _, _, h => h
  | n + 1, l, st, h => by
    unfold nodesN
    split
    · exact ok_nodesN n _ (ok_nums h 7)
    · exact h
theorem ok_routesN {s : ByteArray} : ∀ (n : Nat) (l : List (List Int)) {st : St}, Ok s st → Ok s (routesN s n l st).2
  | 0, _, _, h => h
  | n + 1, l, st, h => by
    unfold routesN
    split
    · exact ok_routesN n _ (ok_list h)
    · exact h
theorem count_le {s : ByteArray} {st : St} (h : (count s st).2.c = 0) : (count s st).1 ≤ s.size := by
 have hn := gu_in s st.p
 unfold count at h ⊢
 split
 ·rename_i h0
  rw [if_pos h0] at h
  unfold lack at h
  split at h
  ·exact absurd h Rr.n211
  ·rename_i h1
   have : ¬ ((s.size : Int) - (gu s st.p).2.1 < (gu s st.p).1) := fun h2 => h1 ⟨h, h2⟩
   show (gu s st.p).1 ≤ _
   omega
 ·exact Int.natCast_nonneg _
def getPlan (s : ByteArray) : List (List Int) × Dg.D :=
 if (planE (Rr.opT s) (Rr.opened s 2)).c = 0 then ((planR (Rr.opT s) (Rr.opened s 2)).1, (0, 0)) else ([], ((planE (Rr.opT s) (Rr.opened s 2)).a, (planE (Rr.opT s) (Rr.opened s 2)).c))
theorem getPlan_eq (s : ByteArray) : getPlan s = Rr.getPlan s := by
 obtain ⟨h1, h2⟩ := plan_eq (Rr.opT s) (Rr.opened s 2)
 have hz := (Rr.Z.opened s 2).planE (s := Rr.opT s)
 unfold getPlan Rr.getPlan
 by_cases hc : (Rr.planE (Rr.opT s) (Rr.opened s 2)).c = 0
 ·have e : (planE (Rr.opT s) (Rr.opened s 2)) = (Rr.planE (Rr.opT s) (Rr.opened s 2)) := by
   rcases h1 with h | h
   ·exact absurd hc h.1
   ·exact h.2
  rw [e, if_pos hc, if_pos hc, h2 hc, hc, hz hc]
 ·have hc' := h1.bad hc
  rw [if_neg hc', if_neg hc]
  rcases h1 with h | h
  ·rw [h.2.1, h.2.2]
  ·exact absurd h.1 hc
/-- Of the instance that is read Told tells. -/
def get (s : ByteArray) : Cn.In × List Dg.D :=
 if (readE (Rr.opT s) (Rr.opened s 1)).c = 0 then Cn.told (readX (Rr.opT s) (Rr.opened s 1)) else (Cn.zero, [((readE (Rr.opT s) (Rr.opened s 1)).a, (readE (Rr.opT s) (Rr.opened s 1)).c)])
theorem get_eq (s : ByteArray) : get s = Rr.get s := by
 obtain ⟨h1, h2⟩ := read_eq (Rr.opT s) (Rr.opened s 1) (.inr trivial)
 unfold get Rr.get
 by_cases hc : (Rr.readE (Rr.opT s) (Rr.opened s 1)).c = 0
 ·have e : (readE (Rr.opT s) (Rr.opened s 1)) = (Rr.readE (Rr.opT s) (Rr.opened s 1)) := by
   rcases h1 with h | h
   ·exact absurd hc h.1
   ·exact h.2
  rw [e, if_pos hc, if_pos hc, h2 hc]
 ·have hc' := h1.bad hc
  rw [if_neg hc', if_neg hc]
  rcases h1 with h | h
  ·rw [h.2.1, h.2.2]
  ·exact absurd h.1 hc
end Rq
end Go.Proofs.YtofklpphalalhaaGreatDoor
end
