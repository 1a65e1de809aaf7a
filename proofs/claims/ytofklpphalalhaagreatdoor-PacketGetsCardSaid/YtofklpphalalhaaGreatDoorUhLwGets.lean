/- The law PacketGets, walked by hand: it says yes at every text. Condition: the sums' table lies as listed. -/
import Derived.Test.YtofklpphalalhaaGreatDoorUhJ24
import Derived.Test.YtofklpphalalhaaGreatDoorUhLwB
namespace Go.Proofs.YtofklpphalalhaaGreatDoor
set_option linter.unusedVariables false
set_option linter.unusedSimpArgs false
open Go.RowKit Go.Proofs.YtofklpphalalhaaGreatDoor.PAll Go.Proofs.YtofklpphalalhaaGreatDoorW.PrintWords Go.Proofs.YtofklpphalalhaaGreatDoorW.PrintLast Go.Proofs.YtofklpphalalhaaGreatDoorW.PrintMore
theorem seal_calls (s : ByteArray) (hs : s.size ≤ 140737488351232) (w : World) : Calls Tryz.prog 34 #[.string s] w fun e w' => e = .returned (.string (Evs.S (Pk.shut s.data.toList))) ∧ Below w.heap.size w w' := by
 obtain ⟨k, hk⟩ := (Evs.refSealed s hs).rounds
 exact entrepotref21_Seal.calls k _ _ w hk
set_option maxRecDepth 100000 in
set_option maxHeartbeats 16000000 in
theorem packetGets_calls (s : ByteArray) (hs : s.size ≤ 140737488351232) (w : World) (HT : Tab w) : Calls Tryz.prog 6 #[.string s] w fun e w' => e = .returned (.bool true) ∧ Below w.heap.size w w' := by
 have HSH := Aside0.mk (shown22_walk w HT)
 by_cases h1 : s.size ≤ 1000
 ·have hs1 : ¬ (1000 : Int) < (s.size : Int) := by omega
  replace HT := Aside0.mk HT
  go_enter Tryz.func6, Tryz.ntmps6
  go_wp2_with fail
  refine HSH.out.mono ?_
  rintro e W1 ⟨rfl, b1⟩
  have HT1 := Aside0.mk (HT.out.below b1)
  have HB1 := Aside0.mk b1
  have HG1 := Aside0.mk (gets_walk s (by omega) W1 HT1.out)
  clear b1 HSH
  go_wp2_with fail
  refine HG1.out.mono ?_
  rintro e W2 ⟨rfl, b2⟩
  have HT2 := Aside0.mk (HT1.out.below b2)
  have HB2 := Aside0.mk (HB1.out.trans (b2.mono HB1.out.size))
  have HS2 := Aside0.mk (seal_calls s (by omega) W2)
  clear b2 HG1 HT1 HB1
  go_wp2_with fail
  refine HS2.out.mono ?_
  rintro e W3 ⟨rfl, b3⟩
  have HT3 := Aside0.mk (HT2.out.below b3)
  have HB3 := Aside0.mk (HB2.out.trans (b3.mono HB2.out.size))
  have HG3 := Aside0.mk (gets_walk (Evs.S (Pk.shut s.data.toList)) (by rw [Evs.S_size, Pk.shut_len, Evs.size_len]; omega) W3 HT3.out)
  clear b3 HS2 HT2 HB2
  go_wp2_with fail
  refine HG3.out.mono ?_
  rintro e W4 ⟨rfl, b4⟩
  have HT4 := Aside0.mk (HT3.out.below b4)
  have HB4 := Aside0.mk (HB3.out.trans (b4.mono HB3.out.size))
  have hz4 : ((⟨#[69, 80, 84, 1]⟩ : ByteArray) ++ s).size = 4 + s.size := by rw [ByteArray.size_append]; rfl
  have HS4 := Aside0.mk (seal_calls (⟨#[69, 80, 84, 1]⟩ ++ s) (by rw [hz4]; omega) W4)
  have HZ4 := Aside0.mk hz4
  clear b4 HG3 HT3 HB3 hz4
  go_wp2_with fail
  refine HS4.out.mono ?_
  rintro e W5 ⟨rfl, b5⟩
  have HT5 := Aside0.mk (HT4.out.below b5)
  have HB5 := Aside0.mk (HB4.out.trans (b5.mono HB4.out.size))
  have HG5 := Aside0.mk (gets_walk (Evs.S (Pk.shut (⟨#[69, 80, 84, 1]⟩ ++ s : ByteArray).data.toList)) (by rw [Evs.S_size, Pk.shut_len, Evs.size_len, HZ4.out]; omega) W5 HT5.out)
  clear b5 HS4 HT4 HB4
  go_wp2_with fail
  refine HG5.out.mono ?_
  rintro e W6 ⟨rfl, b6⟩
  have HT6 := Aside0.mk (HT5.out.below b6)
  have HB6 := Aside0.mk (HB5.out.trans (b6.mono HB5.out.size))
  have hz6 : ((⟨#[69, 80, 84, 2]⟩ : ByteArray) ++ s).size = 4 + s.size := by rw [ByteArray.size_append]; rfl
  have HS6 := Aside0.mk (seal_calls (⟨#[69, 80, 84, 2]⟩ ++ s) (by rw [hz6]; omega) W6)
  have HZ6 := Aside0.mk hz6
  clear b6 HG5 HT5 HB5 hz6
  go_wp2_with fail
  refine HS6.out.mono ?_
  rintro e W7 ⟨rfl, b7⟩
  have HT7 := Aside0.mk (HT6.out.below b7)
  have HB7 := Aside0.mk (HB6.out.trans (b7.mono HB6.out.size))
  have HG7 := Aside0.mk (gets_walk (Evs.S (Pk.shut (⟨#[69, 80, 84, 2]⟩ ++ s : ByteArray).data.toList)) (by rw [Evs.S_size, Pk.shut_len, Evs.size_len, HZ6.out]; omega) W7 HT7.out)
  clear b7 HS6 HT6 HB6
  go_wp2_with fail
  refine HG7.out.mono ?_
  rintro e W8 ⟨rfl, b8⟩
  have HB8 := Aside0.mk (HB7.out.trans (b8.mono HB7.out.size))
  clear b8 HG7 HT7 HB7
  go_wp2_with fail
  go_ret
  exact ⟨rfl, HB8.out⟩
 ·have hs1 : (1000 : Int) < (s.size : Int) := by omega
  clear HT
  go_enter Tryz.func6, Tryz.ntmps6
  go_wp2_with fail
  refine HSH.out.mono ?_
  rintro e W1 ⟨rfl, b1⟩
  have HB1 := Aside0.mk b1
  clear b1 HSH
  go_wp2_with fail
  go_ret
  exact ⟨rfl, HB1.out⟩
end Go.Proofs.YtofklpphalalhaaGreatDoor
