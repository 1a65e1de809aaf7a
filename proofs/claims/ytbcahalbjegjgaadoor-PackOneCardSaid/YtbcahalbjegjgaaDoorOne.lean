/- The law PackOne walked: what was sealed, and has one byte turned, does not open. Condition: the table of sums lies as the text lays it. -/
import Derived.Test.YtbcahalbjegjgaaDoorEvt
import Derived.OpenShut
namespace Go.Proofs.YtbcahalbjegjgaaDoor.One
open Go.RowKit Go.Proofs.YtbcahalbjegjgaaDoor.PAll Go.Proofs.YtbcahalbjegjgaaDoor.Evs Go.Proofs.YtbcahalbjegjgaaDoorW.PrintWords Go.Proofs.YtbcahalbjegjgaaDoorW.PrintLast
attribute [local go_sem] Go.Proofs.YtbcahalbjegjgaaDoorW.PrintMore.max2_int

theorem shown_calls (w : World) (HT : Tab w) : Calls Tryd.prog 8 #[] w fun e w' => e = .returned (.bool true) ∧ Below w.heap.size w w' := by
  obtain ⟨K, h⟩ := shown
  exact entrepotlaw21_shown.calls K true w HT (h K (Nat.le_refl _))
theorem seal_calls (s : ByteArray) (hs : s.size ≤ 140737488351232) (w : World) (HT : Tab w) : Calls Tryd.prog 19 #[.string s] w fun e w' => e = .returned (.string (S (Pk.shut s.data.toList))) ∧ Below w.heap.size w w' :=
  pack_Seal.calls s _ w HT (sealed s hs)
theorem open_calls (l : List UInt8) (r : List UInt8) (e : Nat) (hs : l.length ≤ 140737488351232) (h : Pk.opn l = (r, e)) (w : World) (HT : Tab w) : Calls Tryd.prog 20 #[.string (S l)] w fun x w' => x = .returned (.tuple #[.string (S r), .int .i64 e]) ∧ Below w.heap.size w w' :=
  pack_Open.calls (S l) (S r) e w HT (by rw [opened _ (by rw [S_size]; exact hs), S_data, h]; rfl)

set_option maxHeartbeats 1000000 in
theorem small (s : ByteArray) (at_ turn : Int) (w : World) (HT : Tab w) (h : (s.size : Int) > 200 ∨ turn = 0) :
    Calls Tryd.prog 5 #[.string s, .int .u16 at_, .int .u8 turn] w fun e w' => e = .returned (.bool true) ∧ Below w.heap.size w w' := by
  by_cases h1 : (s.size : Int) > 200
  · go_enter Tryd.func5, Tryd.ntmps5
    go_wp2_with (go_at_call 8; refine (shown_calls _ HT).mono ?_; rintro e w' ⟨rfl, hb⟩)
    go_ret
    exact ⟨rfl, hb⟩
  · have h2 : turn = 0 := by omega
    subst h2
    go_enter Tryd.func5, Tryd.ntmps5
    go_wp2_with (go_at_call 8; refine (shown_calls _ HT).mono ?_; rintro e w' ⟨rfl, hb⟩)
    go_ret
    exact ⟨rfl, hb⟩

theorem xor_u8 (a b : Nat) (ha : a < 256) (hb : b < 256) : Go.bits .xor .u8 (a : Int) (b : Int) = ((a ^^^ b : Nat) : Int) := by
  have hx : a ^^^ b < 2 ^ 8 := Nat.xor_lt_two_pow (by omega) (by omega)
  have h1 : (BitVec.ofInt 8 (a : Int)).toNat = a := by
    rw [BitVec.ofInt_natCast, BitVec.toNat_ofNat]; exact Nat.mod_eq_of_lt (by omega)
  have h2 : (BitVec.ofInt 8 (b : Int)).toNat = b := by
    rw [BitVec.ofInt_natCast, BitVec.toNat_ofNat]; exact Nat.mod_eq_of_lt (by omega)
  show IntKind.u8.wrap ((BitVec.ofInt 8 (a : Int) ^^^ BitVec.ofInt 8 (b : Int)).toNat : Int) = _
  rw [BitVec.toNat_xor, h1, h2, IntKind.wrap_u8]
  omega
theorem xor_ne (a b : Nat) (hb : b ≠ 0) : a ^^^ b ≠ a := fun h => hb (by
  have := congrArg (a ^^^ ·) h
  simpa [← Nat.xor_assoc] using this)
theorem bytes_frozen (w : World) (u : ByteArray) (k : Nat) (hk : k < u.size) : (Lib.bytesWorld w 5 u).frozen? ⟨w.heap.size, k, none⟩ = false := by
  have hsz : u.size ≤ (Lib.bytesCells w 5 u).size := by
    simp only [Lib.bytesCells, Array.size_append, Array.size_map]
    exact Nat.le_add_right _ _
  unfold World.frozen?
  simp only [Lib.bytesWorld_at_new]
  simp only [Bool.and_eq_false_iff, decide_eq_false_iff_not]
  exact .inl (by omega)

/-- The bytes of what was converted, one of them turned. -/
theorem turned_back (w : World) (l : List UInt8) (k : Nat) (x : Nat) (hk : k < l.length) (hx : x < 256) (cap : Nat) :
    (convert 33 9 (.slice (some ⟨w.heap.size, 0, none⟩) l.length cap)).run Tryd.prog ((Lib.bytesWorld w 5 (S l)).setCell ⟨w.heap.size, k, none⟩ (.int .u8 (x : Int))) =
      .ok (.string (S (l.set k (UInt8.ofNat x)))) ((Lib.bytesWorld w 5 (S l)).setCell ⟨w.heap.size, k, none⟩ (.int .u8 (x : Int))) := by
  have := run_convert_bytes_back (P := Tryd.prog) ((Lib.bytesWorld w 5 (S l)).setCell ⟨w.heap.size, k, none⟩ (.int .u8 (x : Int))) 33 9 5 ⟨w.heap.size, 0, none⟩ cap (l.set k (UInt8.ofNat x)) Tryd.underlying33 Tryd.underlying5 Tryd.underlying9 (fun j hj => by
    rw [List.length_set] at hj
    rw [add_plain]
    by_cases e : k = j
    · subst e
      rw [World.cell?_setCell_same' _ _ _ (by rw [Lib.bytesWorld_cell _ _ _ _ (by rw [S_size]; exact hj)]; rfl)]
      rw [List.getElem_set_self, Pk.toNat_ofNat hx]
    · have hc := Lib.bytesWorld_cell w 5 (S l) j (by rw [S_size]; exact hj)
      rw [List.getElem_set_ne e]
      rw [World.cell?_setCell_other _ _ _ _ (by intro h; exact e (by injection h))]
      rw [hc, S_data, List.getD_eq_getElem?_getD, List.getElem?_eq_getElem hj]
      rfl)
  rw [List.length_set] at this
  exact this

set_option maxRecDepth 100000 in
set_option maxHeartbeats 1000000 in
theorem main (s : ByteArray) (m : Nat) (turn : Int) (w : World) (HT : Tab w) (hs : ¬ (s.size : Int) > 200) (ht : ¬ turn = 0) (hm : m ≤ 65535) (ht0 : 0 ≤ turn) (ht1 : turn < 256) :
    Calls Tryd.prog 5 #[.string s, .int .u16 m, .int .u8 turn] w fun e w' => e = .returned (.bool true) ∧ Below w.heap.size w w' := by
  have hcv := fun (w : World) (s : ByteArray) => Lib.run_convert_string_bytes (P := Tryd.prog) w 9 33 5 s Tryd.underlying9 Tryd.underlying33 Tryd.underlying5
  have c2 : (turn == 0) = false := by simpa using ht
  obtain ⟨u, hu⟩ : ∃ u, S (Pk.shut s.data.toList) = u := ⟨_, rfl⟩
  have hus : u.size = s.size + 4 := by rw [← hu, S_size, Pk.shut_len]; rfl
  replace hu := Aside0.mk hu
  go_enter Tryd.func5, Tryd.ntmps5
  go_wp2_with fail
  refine (shown_calls _ HT).mono ?_
  rintro e w1 ⟨rfl, hb1⟩
  have HT1 := HT.below hb1
  go_wp2_with fail
  refine (seal_calls s (by omega) w1 HT1).mono ?_
  rintro e w2 ⟨rfl, hb2⟩
  rw [hu.out]
  have HT2 := HT1.below hb2
  have hBe : Aside0 (Below w.heap.size w w2) := ⟨hb1.trans (hb2.mono hb1.size)⟩
  replace HT2 := Aside0.mk HT2
  clear hb1 hb2 HT1 HT
  have hl : Aside0 ((Pk.shut s.data.toList).length = s.size + 4) := ⟨by rw [Pk.shut_len]; rfl⟩
  have hk : m % (s.size + 4) < s.size + 4 := Nat.mod_lt _ (by omega)
  have i1 : (0 ≤ (m : Int) % ((s.size : Int) + 4)) = True := eq_true (Int.emod_nonneg _ (by omega))
  have i2 : ((m : Int) % ((s.size : Int) + 4) < (s.size : Int) + 4) = True := eq_true (Int.emod_lt_of_pos _ (by omega))
  have d0 := Lib.bytesWorld_cell w2 5 u (m % (s.size + 4)) (by omega)
  have f0 := bytes_frozen w2 u (m % (s.size + 4)) (by omega)
  obtain ⟨c, hc⟩ : ∃ c, (u.data.toList.getD (m % (s.size + 4)) 0) = c := ⟨_, rfl⟩
  rw [hc] at d0
  obtain ⟨b, hb⟩ := Int.eq_ofNat_of_zero_le ht0
  subst hb
  have hc8 := c.toNat_lt
  obtain ⟨x, hx⟩ : ∃ x, c.toNat ^^^ b = x := ⟨_, rfl⟩
  have hx8 : x < 256 := by rw [← hx]; exact Nat.xor_lt_two_pow (n := 8) (by omega) (by omega)
  have hxn : x ≠ c.toNat := by rw [← hx]; exact xor_ne _ _ (by omega)
  have e1 : Go.bits .xor .u8 (c.toNat : Int) (b : Int) = (x : Int) := by rw [xor_u8 _ _ (by omega) (by omega), hx]
  have hback := turned_back w2 (Pk.shut s.data.toList) (m % (s.size + 4)) x (by rw [hl.out]; exact hk) hx8
  rw [hl.out, hu.out] at hback
  have hne : (Pk.shut s.data.toList)[m % (s.size + 4)]? ≠ some (UInt8.ofNat x) := by
    rw [← hu.out, S_data, List.getD_eq_getElem?_getD] at hc
    intro h
    rw [h] at hc
    simp only [Option.getD_some] at hc
    rw [← hc, Pk.toNat_ofNat hx8] at hxn
    exact hxn rfl
  have hopn := Pk.opn_turned s.data.toList (m % (s.size + 4)) (by show _ < s.size + 4; exact hk) (UInt8.ofNat x) hne
  have hop := open_calls ((Pk.shut s.data.toList).set (m % (s.size + 4)) (UInt8.ofNat x)) [] 210 (by rw [List.length_set, hl.out]; omega) hopn
  obtain ⟨t, hts⟩ : ∃ t, S ((Pk.shut s.data.toList).set (m % (s.size + 4)) (UInt8.ofNat x)) = t := ⟨_, rfl⟩
  rw [hts] at hback hop
  have hTab : Aside0 (Tab ((Lib.bytesWorld w2 5 u).setCell ⟨w2.heap.size, m % (s.size + 4), none⟩ (.int .u8 (x : Int)))) := ⟨HT2.out.below ((below_bytes w2 u).setCell (p := ⟨w2.heap.size, _, none⟩) (Nat.le_refl _) _)⟩
  have hBf : Aside0 (Below w.heap.size w ((Lib.bytesWorld w2 5 u).setCell ⟨w2.heap.size, m % (s.size + 4), none⟩ (.int .u8 (x : Int)))) := ⟨hBe.out.trans (((below_bytes w2 u).setCell (p := ⟨w2.heap.size, _, none⟩) (Nat.le_refl _) _).mono hBe.out.size)⟩
  replace hop := Aside0.mk hop
  clear hopn hne hts hc hx hxn hc8
  go_wp2_with (go_at_call 20; refine (hop.out _ hTab.out).mono ?_; rintro e w3 ⟨rfl, hb3⟩)
  all_goals go_ret
  · exact ⟨rfl, hBf.out.trans (hb3.mono hBf.out.size)⟩
  · rename_i h
    exact absurd (S_toList []) h

theorem walk (s : ByteArray) (at_ turn : Int) (w : World) (HT : Tab w) (hs : s.size ≤ 140737488351232) (h1 : (Lit.int .u16 at_).wf = true) (h2 : (Lit.int .u8 turn).wf = true) :
    Calls Tryd.prog 5 #[.string s, .int .u16 at_, .int .u8 turn] w fun e w' => e = .returned (.bool true) ∧ Below w.heap.size w w' := by
  have h1' := bounds_u16 h1
  have h2' := bounds_u8 h2
  by_cases h : (s.size : Int) > 200 ∨ turn = 0
  · exact small s at_ turn w HT h
  · obtain ⟨m, rfl⟩ := Int.eq_ofNat_of_zero_le h1'.1
    exact main s m turn w HT (fun x => h (.inl x)) (fun x => h (.inr x)) (by omega) h2'.1 (by omega)
end Go.Proofs.YtbcahalbjegjgaaDoor.One
