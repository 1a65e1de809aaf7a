/- Upper of words, and of its reference, walked by hand. Conditions: texts of at most 140737488351232 bytes. -/
import Derived.Test.YtbbkchifbinioaaDoorGivenA
import Derived.Lib.ConvBytes
namespace Go.Proofs.YtbbkchifbinioaaDoor
set_option linter.unusedVariables false
set_option linter.unusedSimpArgs false
open Go.RowKit Go.Proofs.YtbbkchifbinioaaDoor.PAll Go.Proofs.YtbbkchifbinioaaDoorW.PrintWords Go.Proofs.YtbbkchifbinioaaDoorW.PrintLast Go.Proofs.YtbbkchifbinioaaDoorW.PrintMore

def S (l : List UInt8) : ByteArray := ⟨l.toArray⟩
theorem S_data (l : List UInt8) : (S l).data.toList = l := by simp [S]
theorem S_of (s : ByteArray) : S s.data.toList = s := by simp [S]
theorem S_size (l : List UInt8) : (S l).size = l.length := by simp [S, ByteArray.size]

def at_ (s : ByteArray) (j : Nat) : UInt8 := s.data.toList.getD j 0
theorem bytes_frozen (w : World) (u : ByteArray) (k : Nat) (hk : k < u.size) : (Lib.bytesWorld w 5 u).frozen? ⟨w.heap.size, k, none⟩ = false := by
  have hsz : u.size ≤ (Lib.bytesCells w 5 u).size := by
    simp only [Lib.bytesCells, Array.size_append, Array.size_map]
    exact Nat.le_add_right _ _
  unfold World.frozen?
  simp only [Lib.bytesWorld_at_new]
  simp only [Bool.and_eq_false_iff, decide_eq_false_iff_not]
  exact .inl (by omega)
/-- The first i bytes are capitals. -/
structure Inv (s : ByteArray) (w : World) (i : Nat) (wr : World) : Prop where
  below : Below w.heap.size w wr
  cell : ∀ j, j < s.size → wr.cell? ⟨w.heap.size, j, none⟩ = some (.int .u8 ((if j < i then Wd.up (at_ s j) else at_ s j).toNat : Int))
  frozen : ∀ j, j < s.size → wr.frozen? ⟨w.heap.size, j, none⟩ = false
theorem Inv.start (s : ByteArray) (w : World) : Inv s w 0 (Lib.bytesWorld w 5 s) :=
  ⟨⟨rfl, rfl, rfl, by rw [Lib.bytesWorld_size]; omega, fun k hk => Lib.bytesWorld_at_old w 5 s k hk⟩, fun j hj => by rw [Lib.bytesWorld_cell w 5 s j hj, if_neg (by omega)]; rfl, fun j hj => bytes_frozen w s j hj⟩
theorem Inv.skip {s : ByteArray} {w wr : World} {i : Nat} (h : Inv s w i wr) (hu : Wd.up (at_ s i) = at_ s i) : Inv s w (i + 1) wr :=
  ⟨h.below, fun j hj => by
    rw [h.cell j hj]
    by_cases e : j = i
    · subst e; rw [if_neg (by omega), if_pos (by omega), hu]
    · by_cases e2 : j < i
      · rw [if_pos e2, if_pos (by omega)]
      · rw [if_neg e2, if_neg (by omega)], h.frozen⟩
theorem Inv.put {s : ByteArray} {w wr : World} {i : Nat} (h : Inv s w i wr) (hi : i < s.size) (x : Int) (hx : x = ((Wd.up (at_ s i)).toNat : Int)) : Inv s w (i + 1) (wr.setCell ⟨w.heap.size, i, none⟩ (.int .u8 x)) :=
  ⟨h.below.setCell (p := ⟨w.heap.size, i, none⟩) (Nat.le_refl _) _, fun j hj => by
    by_cases e : j = i
    · subst e
      rw [World.cell?_setCell_same' _ _ _ (by rw [h.cell j hj]; rfl), if_pos (by omega), hx]
    · rw [World.cell?_setCell_other _ _ _ _ (by intro h; exact e (by injection h with _ h2; exact h2.symm)), h.cell j hj]
      by_cases e2 : j < i
      · rw [if_pos e2, if_pos (by omega)]
      · rw [if_neg e2, if_neg (by omega)], fun j hj => by rw [World.frozen?_setCell]; exact h.frozen j hj⟩
theorem upper_get (l : List UInt8) (j : Nat) (h : j < (Wd.upper l).length) : (Wd.upper l)[j] = Wd.up (l[j]'(by simpa [Wd.upper] using h)) := by simp [Wd.upper]
theorem Inv.back {s : ByteArray} {w wr : World} (h : Inv s w s.size wr) (cap : Nat) : (convert 40 9 (.slice (some ⟨w.heap.size, 0, none⟩) s.size cap)).run Tryd.prog wr = .ok (.string (S (Wd.upper s.data.toList))) wr := by
  have := run_convert_bytes_back (P := Tryd.prog) wr 40 9 5 ⟨w.heap.size, 0, none⟩ cap (Wd.upper s.data.toList) Tryd.underlying40 Tryd.underlying5 Tryd.underlying9 (fun j hj => by
    have hj' : j < s.size := by unfold Wd.upper at hj; rw [List.length_map] at hj; exact hj
    rw [add_plain, h.cell j hj', if_pos hj', upper_get]
    unfold at_
    rw [List.getD_eq_getElem?_getD, List.getElem?_eq_getElem (show j < s.data.toList.length from hj')]
    rfl)
  have e : (Wd.upper s.data.toList).length = s.size := by unfold Wd.upper; rw [List.length_map]; rfl
  rw [e] at this
  exact this
set_option maxRecDepth 100000 in
set_option maxHeartbeats 2000000 in
theorem upper_walk (s : ByteArray) (hs : s.size ≤ 140737488351232) (w : World) : Calls Tryd.prog 19 #[.string s] w fun e w' => e = .returned (.string (S (Wd.upper s.data.toList))) ∧ Below w.heap.size w w' := by
  have hcv := fun (w : World) (s : ByteArray) => Lib.run_convert_string_bytes (P := Tryd.prog) w 9 40 5 s Tryd.underlying9 Tryd.underlying40 Tryd.underlying5
  have hst := Aside0.mk (Inv.start s w)
  have hcall : Aside0 (∀ (n : Nat) W, Calls Tryd.prog 37 #[.int .i32 (n : Int), .int .i32 97, .int .i32 122] W fun e w' => e = .returned (.bool (decide (97 ≤ n) && decide (n ≤ 122))) ∧ w' = W) := ⟨fun n W => within_walk n 97 122 W⟩
  go_enter Tryd.func19, Tryd.ntmps19
  go_wp2
  go_loopw [10] (fun v wr => ∃ i : Nat, v = .int .i64 i ∧ i ≤ s.size ∧ Inv s w i wr) (fun v _ => s.size - (intOf v).toNat)
  case atStart => exact ⟨0, rfl, by omega, hst.out⟩
  case round =>
    obtain ⟨i, rfl, hi, hI⟩ := hrel
    by_cases hlt : i < s.size
    · have b1 : ((i : Int) < (s.size : Int)) = True := eq_true (by omega)
      have hc := hI.cell i hlt
      rw [if_neg (Nat.lt_irrefl _)] at hc
      have hf := hI.frozen i hlt
      obtain ⟨c, hcc⟩ : ∃ c, at_ s i = c := ⟨_, rfl⟩
      rw [hcc] at hc
      have hc8 := c.toNat_lt
      have hc1 := hcall.out c.toNat
      replace hI := Aside0.mk hI
      by_cases hu : 97 ≤ c.toNat ∧ c.toNat ≤ 122
      · rw [decide_eq_true hu.1, decide_eq_true hu.2] at hc1
        have hu1 := hu.1
        have hu2 := hu.2
        replace hc1 := Aside0.mk hc1
        have hup : Aside0 (((Wd.up c).toNat : Int) = (c.toNat : Int) - 32) := ⟨by unfold Wd.up; rw [if_pos hu, UInt8.toNat_ofNat', Nat.mod_eq_of_lt (by omega)]; omega⟩
        clear hu
        replace hcc := Aside0.mk hcc
        go_wp2_with (go_at_call 37; refine (hc1.out _).mono ?_; rintro e w' ⟨rfl, rfl⟩)
        exact ⟨⟨i + 1, rfl, by omega, hI.out.put hlt _ (by rw [hcc.out, hup.out]; omega)⟩, by simp [intOf]; omega⟩
      · have hup : Wd.up c = c := by unfold Wd.up; rw [if_neg hu]
        have hb : (decide (97 ≤ c.toNat) && decide (c.toNat ≤ 122)) = false := by rw [Bool.eq_false_iff]; intro h; simp at h; exact hu h
        rw [hb] at hc1
        replace hc1 := Aside0.mk hc1
        have hI2 := Aside0.mk (hI.out.skip (by rw [hcc, hup]))
        clear hu hb hup
        go_wp2_with (go_at_call 37; refine (hc1.out _).mono ?_; rintro e w' ⟨rfl, rfl⟩)
        go_roundw
        case rel => exact ⟨i + 1, by go_num, by omega, hI2.out⟩
        case measure => simp [intOf]; omega
    · have hie : Aside0 (i = s.size) := ⟨by omega⟩
      have hI' : Inv s w s.size wr := by rw [← hie.out]; exact hI
      have hb := fun cap => hI'.back cap
      have b1 : ((i : Int) < (s.size : Int)) = False := eq_false (by omega)
      replace hI := Aside0.mk hI
      go_wp2
      go_ret
      exact ⟨rfl, hI.out.below⟩
set_option maxRecDepth 100000 in
set_option maxHeartbeats 2000000 in
theorem refUpper_walk (s : ByteArray) (hs : s.size ≤ 140737488351232) (w : World) : Calls Tryd.prog 20 #[.string s] w fun e w' => e = .returned (.string (S (Wd.upper s.data.toList))) ∧ Below w.heap.size w w' := by
  have hcv := fun (w : World) (s : ByteArray) => Lib.run_convert_string_bytes (P := Tryd.prog) w 9 40 5 s Tryd.underlying9 Tryd.underlying40 Tryd.underlying5
  have hst := Aside0.mk (Inv.start s w)
  go_enter Tryd.func20, Tryd.ntmps20
  go_wp2
  go_loopw [4] (fun v wr => ∃ i : Nat, v = .int .i64 i ∧ i ≤ s.size ∧ Inv s w i wr) (fun v _ => s.size - (intOf v).toNat)
  case atStart => exact ⟨0, rfl, by omega, hst.out⟩
  case round =>
    obtain ⟨i, rfl, hi, hI⟩ := hrel
    by_cases hlt : i < s.size
    · have b1 : ((i : Int) < (s.size : Int)) = True := eq_true (by omega)
      have hc := hI.cell i hlt
      rw [if_neg (Nat.lt_irrefl _)] at hc
      have hf := hI.frozen i hlt
      obtain ⟨c, hcc⟩ : ∃ c, at_ s i = c := ⟨_, rfl⟩
      rw [hcc] at hc
      have hc8 := c.toNat_lt
      replace hI := Aside0.mk hI
      by_cases hu1 : 97 ≤ c.toNat
      · have hz1 : (97 : Int) ≤ (c.toNat : Int) := by omega
        by_cases hu2 : c.toNat ≤ 122
        · have hz2 : (c.toNat : Int) ≤ 122 := by omega
          have hup : Aside0 (((Wd.up c).toNat : Int) = (c.toNat : Int) - 32) := ⟨by unfold Wd.up; rw [if_pos ⟨hu1, hu2⟩, UInt8.toNat_ofNat', Nat.mod_eq_of_lt (by omega)]; omega⟩
          replace hcc := Aside0.mk hcc
          go_wp2
          exact ⟨⟨i + 1, rfl, by omega, hI.out.put hlt _ (by rw [hcc.out, hup.out])⟩, by simp [intOf]; omega⟩
        · have hz2 : (122 : Int) < (c.toNat : Int) := by omega
          have hup : Wd.up c = c := by unfold Wd.up; rw [if_neg (by omega)]
          have hI2 := Aside0.mk (hI.out.skip (by rw [hcc, hup]))
          clear hup hcc
          go_wp2
          exact ⟨⟨i + 1, rfl, by omega, hI2.out⟩, by simp [intOf]; omega⟩
      · have hz1 : (c.toNat : Int) < 97 := by omega
        have hup : Wd.up c = c := by unfold Wd.up; rw [if_neg (by omega)]
        have hI2 := Aside0.mk (hI.out.skip (by rw [hcc, hup]))
        clear hup hcc
        go_wp2
        exact ⟨⟨i + 1, rfl, by omega, hI2.out⟩, by simp [intOf]; omega⟩
    · have hie : Aside0 (i = s.size) := ⟨by omega⟩
      have hI' : Inv s w s.size wr := by rw [← hie.out]; exact hI
      have hb := fun cap => hI'.back cap
      have b1 : ((i : Int) < (s.size : Int)) = False := eq_false (by omega)
      replace hI := Aside0.mk hI
      go_wp2
      go_ret
      exact ⟨rfl, hI.out.below⟩
def words_Upper.f (a0 : ByteArray) : Option ByteArray := if a0.size ≤ 140737488351232 then some (S (Wd.upper a0.data.toList)) else none
theorem words_Upper.calls (a0 : ByteArray) (r : ByteArray) (w : World) (h : words_Upper.f a0 = some r) : Calls Tryd.prog 19 #[.string a0] w fun e w' => e = .returned (.string r) ∧ Below w.heap.size w w' := by
  unfold words_Upper.f at h
  split at h
  · rename_i hs
    obtain rfl := Option.some.inj h
    exact upper_walk a0 hs w
  · exact absurd h (by simp)
def entrepotref03_Upper.f (a0 : ByteArray) : Option ByteArray := if a0.size ≤ 140737488351232 then some (S (Wd.upper a0.data.toList)) else none
theorem entrepotref03_Upper.calls (a0 : ByteArray) (r : ByteArray) (w : World) (h : entrepotref03_Upper.f a0 = some r) : Calls Tryd.prog 20 #[.string a0] w fun e w' => e = .returned (.string r) ∧ Below w.heap.size w w' := by
  unfold entrepotref03_Upper.f at h
  split at h
  · rename_i hs
    obtain rfl := Option.some.inj h
    exact refUpper_walk a0 hs w
  · exact absurd h (by simp)
end Go.Proofs.YtbbkchifbinioaaDoor
