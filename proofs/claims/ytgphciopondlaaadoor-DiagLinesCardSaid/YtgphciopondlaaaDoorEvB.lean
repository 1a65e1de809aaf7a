/- The law DiagLines in plain Lean. Conditions: none beyond the printed ones. -/
import Derived.Test.YtgphciopondlaaaDoorEvA
namespace Go.Proofs.YtgphciopondlaaaDoor.Evs
set_option linter.unusedVariables false
set_option linter.unusedSimpArgs false
open Go.RowKit Go.Lib Go.Proofs.YtgphciopondlaaaDoor.PAll Go.Proofs.YtgphciopondlaaaDoorW.PrintWords Go.Proofs.YtgphciopondlaaaDoorW.PrintLast

theorem Ev.shift {α : Type} {g : Nat → Option α} {r : α} (h : Ev (fun k => g (k + 1)) r) : Ev g r := Ev.step (f := fun k => g (k + 1)) (fun _ => rfl) h
theorem w_sum (K m : Nat) (h : K + m ≤ 1000000) : wrap64 ((wrap64 ((K : Int) + (m : Int))) + 1) = ((m + 1 + K : Nat) : Int) := by
  rw [w64 ((K : Int) + (m : Int)) (by omega) (by omega), w64 _ (by omega) (by omega)]; omega
theorem told_eq (x y z : List UInt8) : [108, 105, 110, 101, 32] ++ x ++ ([44, 32, 99, 111, 108, 117, 109, 110, 32] ++ y ++ [58, 32, 101, 114, 114, 111, 114, 32] ++ z) =
    [108, 105, 110, 101, 32] ++ x ++ [44, 32, 99, 111, 108, 117, 109, 110, 32] ++ y ++ [58, 32] ++ ([101, 114, 114, 111, 114, 32] ++ z) := by simp
theorem wh_shift (l : List UInt8) : ∀ a c, Cur.wh (a + 1) c l = ((Cur.wh a c l).1 + 1, (Cur.wh a c l).2) := by
  induction l with
  | nil => intro a c; rfl
  | cons x l ih => intro a c; simp only [Cur.wh]; split <;> exact ih _ _
theorem at_ahead (h s : List UInt8) (h10 : (10 : UInt8) ∉ h) (k : Nat) (hk : k ≤ s.length) : Cur.at_ (h ++ [10] ++ s) (h.length + 1 + k) = ((Cur.at_ s k).1 + 1, (Cur.at_ s k).2) := by
  unfold Cur.at_
  have e : (h ++ [10] ++ s).take (h.length + 1 + k) = h ++ ([10] ++ s.take k) := by
    rw [List.take_append, List.take_of_length_le (by simp), List.append_assoc]
    congr 3
    simp
  rw [e, Cur.wh_append, Cur.wh_no10 h h10, Cur.wh_append]
  have e2 : Cur.wh 1 (1 + h.length) [10] = (2, 1) := by simp [Cur.wh]
  simp only [e2]
  exact wh_shift _ _ _
theorem tell_at (s : List UInt8) (k : Nat) (hk : k ≤ s.length) (n : Int) : tell s ((k : Int), n) = placeT (Cur.at_ s k).1 (Cur.at_ s k).2 ++ errT n := by
  unfold tell
  rw [if_pos (show 0 ≤ (k : Int) ∧ (k : Int) ≤ (s.length : Int) by omega)]
  simp only [Int.toNat_natCast]
theorem lines_tail (h s : ByteArray) (hh : h.size ≤ 500) (hs : s.size ≤ 500) (h10 : (10 : UInt8) ∉ h.data.toList) (n : Int) (hn : wf64 n) (K : Nat) (hK : K ≤ s.size) :
    Ev (fun k => entrepotlaw04_DiagLines.l1 k h s n (K : Int) ((Cur.at_ s.data.toList K).1 : Int) ((Cur.at_ s.data.toList K).2 : Int) (K : Int)) true := by
  have hat := at_le s.data.toList K (by rw [size_len]; exact hK)
  have e5 : (⟨#[108, 105, 110, 101, 32]⟩ : ByteArray) = S [108, 105, 110, 101, 32] := rfl
  have e9 : (⟨#[44, 32, 99, 111, 108, 117, 109, 110, 32]⟩ : ByteArray) = S [44, 32, 99, 111, 108, 117, 109, 110, 32] := rfl
  have e8 : (⟨#[58, 32, 101, 114, 114, 111, 114, 32]⟩ : ByteArray) = S [58, 32, 101, 114, 114, 111, 114, 32] := rfl
  have e1 : (⟨#[10]⟩ : ByteArray) = S [10] := rfl
  have T1 : diag_Tell.f s (K : Int) n = some (S (placeT (Cur.at_ s.data.toList K).1 (Cur.at_ s.data.toList K).2 ++ errT n)) := by
    rw [tellF s (by omega) (K : Int) n (by unfold wf64; omega) hn, tell_at _ _ (by rw [size_len]; exact hK)]
  have hsz : ((h ++ S [10]) ++ s).size = h.size + 1 + s.size := by rw [ByteArray.size_append, ByteArray.size_append, S_size]; rfl
  have hdat : ((h ++ S [10]) ++ s).data.toList = h.data.toList ++ [10] ++ s.data.toList := by rw [ByteArray.data_append, ByteArray.data_append]; simp [S]
  have T2 : diag_Tell.f ((h ++ S [10]) ++ s) ((h.size + 1 + K : Nat) : Int) n = some (S (placeT ((Cur.at_ s.data.toList K).1 + 1) (Cur.at_ s.data.toList K).2 ++ errT n)) := by
    rw [tellF _ (by rw [hsz]; omega) _ n (by unfold wf64; omega) hn, hdat, tell_at _ _ (by rw [List.length_append, List.length_append, size_len, size_len, List.length_singleton]; omega)]
    have := at_ahead h.data.toList s.data.toList h10 K (by rw [size_len]; exact hK)
    rw [size_len] at this
    rw [this]
  generalize (Cur.at_ s.data.toList K).1 = L at hat T1 T2 ⊢
  generalize (Cur.at_ s.data.toList K).2 = C at hat T1 T2 ⊢
  have wL : wf64 (L : Int) := by unfold wf64; omega
  have wL1 : wf64 ((L + 1 : Nat) : Int) := by unfold wf64; omega
  have wC : wf64 (C : Int) := by unfold wf64; omega
  have lL := itoa_le (L : Int) wL
  have lL1 := itoa_le ((L + 1 : Nat) : Int) wL1
  have lC := itoa_le (C : Int) wC
  have ln := itoa_le n hn
  have z2 : (h ++ S [10]).size = h.size + 1 := by rw [ByteArray.size_append, S_size]; rfl
  have F : ∀ (M : Nat), [108, 105, 110, 101, 32] ++ Lib.itoa (M : Int) ++ ([44, 32, 99, 111, 108, 117, 109, 110, 32] ++ Lib.itoa (C : Int) ++ [58, 32, 101, 114, 114, 111, 114, 32] ++ Lib.itoa n) = placeT M C ++ errT n := fun M => by unfold placeT errT; exact told_eq _ _ _
  refine Ev.shift ?_
  simp only [entrepotlaw04_DiagLines.l1]
  refine Ev.neg (by omega) ?_
  refine Ev.bind (num (C : Int) wC) ?_
  simp only [e5, e9, e8, e1, S_append, S_size, List.length_append, List.length_cons, List.length_nil]
  refine Ev.pos (by omega) (Ev.pos (by omega) ?_)
  simp only [w64 n hn.1 hn.2]
  refine Ev.bind (num n hn) ?_
  simp only [S_append, S_size, List.length_append, List.length_cons, List.length_nil]
  refine Ev.pos (by omega) ?_
  rw [T1]
  simp only [Option.bind_some]
  refine Ev.pos (by omega) (Ev.pos (by rw [z2]; omega) ?_)
  simp only [w_sum K h.size (by omega), T2, Option.bind_some]
  refine Ev.bind (num (L : Int) wL) ?_
  simp only [S_append, S_size, List.length_append, List.length_cons, List.length_nil]
  refine Ev.pos (by omega) (Ev.pos (by omega) ?_)
  rw [F L]
  refine Ev.pos rfl ?_
  simp only [next_ L (by omega)]
  refine Ev.bind (num ((L + 1 : Nat) : Int) wL1) ?_
  simp only [S_append, S_size, List.length_append, List.length_cons, List.length_nil]
  refine Ev.pos (by omega) (Ev.pos (by omega) ?_)
  rw [F (L + 1)]
  simp only [BEq.rfl]
  exact Ev.now _
theorem lines_l1 (h s : ByteArray) (hh : h.size ≤ 500) (hs : s.size ≤ 500) (h10 : (10 : UInt8) ∉ h.data.toList) (n : Int) (hn : wf64 n) (K : Nat) (hK : K ≤ s.size) (j : Nat) : ∀ i : Nat, i + j = K →
    Ev (fun k => entrepotlaw04_DiagLines.l1 k h s n (K : Int) ((Cur.at_ s.data.toList i).1 : Int) ((Cur.at_ s.data.toList i).2 : Int) (i : Int)) true := by
  induction j with
  | zero => intro i hi; obtain rfl : i = K := by omega
            exact lines_tail h s hh hs h10 n hn i hK
  | succ j ih =>
    intro i hi
    have := ih (i + 1) (by omega)
    have hb := bt_get s i
    have hg : s.data.toList[i]? = some (s.data.toList.getD i 0) := by
      rw [List.getD_eq_getElem?_getD, List.getElem?_eq_getElem (show i < s.data.toList.length by rw [size_len]; omega)]; rfl
    obtain ⟨c, hc⟩ : ∃ c, s.data.toList.getD i 0 = c := ⟨_, rfl⟩
    rw [hc] at hb hg
    rw [Cur.at_succ _ _ _ hg] at this
    have h10' := byte_is c 10 (by omega)
    have hlt := at_le s.data.toList i (by rw [size_len]; omega)
    have hw : wrap64 ((i : Int) + 1) = ((i + 1 : Nat) : Int) := by rw [w64 _ (by omega) (by omega)]; omega
    refine Ev.step (fun k => ?_) this
    simp only [entrepotlaw04_DiagLines.l1]
    rw [if_pos (by omega), if_pos (by omega), if_pos (by omega), hw]
    by_cases c1 : c = 10
    · rw [if_pos (by rw [hb]; exact h10'.2 c1), if_pos c1, w64 _ (by omega) (by omega)]; rfl
    · rw [if_neg (by rw [hb]; exact fun h => c1 (h10'.1 h)), if_neg c1, w64 _ (by omega) (by omega)]; rfl
theorem lines_l0 (h s : ByteArray) (hh : h.size ≤ 500) (hs : s.size ≤ 500) (c : Nat) (hc : c ≤ 65535) (n : Int) (hn : wf64 n) (j : Nat) : ∀ i : Nat, i + j = h.size → (10 : UInt8) ∉ h.data.toList.take i →
    Ev (fun k => entrepotlaw04_DiagLines.l0 k h s (c : Int) n (i : Int)) true := by
  induction j with
  | zero =>
    intro i hi hno
    have hno' : (10 : UInt8) ∉ h.data.toList := by rw [List.take_of_length_le (by rw [size_len]; omega)] at hno; exact hno
    have hm : wrap64 ((s.size : Int) + 1) = ((s.size + 1 : Nat) : Int) := by rw [w64 _ (by omega) (by omega)]; omega
    have hK : Int.tmod (wrap64 (c : Int)) (wrap64 ((s.size : Int) + 1)) = ((c % (s.size + 1) : Nat) : Int) := by rw [hm, w64 _ (by omega) (by omega)]; exact Int.ofNat_tmod c (s.size + 1)
    have hl : c % (s.size + 1) ≤ s.size := by have := Nat.mod_lt c (show 0 < s.size + 1 by omega); omega
    have := lines_l1 h s hh hs hno' n hn (c % (s.size + 1)) hl (c % (s.size + 1)) 0 (by omega)
    rw [Cur.at_zero] at this
    refine Ev.step (fun k => ?_) this
    simp only [entrepotlaw04_DiagLines.l0]
    rw [if_neg (by omega), hK, if_neg (by rw [hm]; omega)]; rfl
  | succ j ih =>
    intro i hi hno
    have hb := bt_get h i
    have hg : h.data.toList[i]? = some (h.data.toList.getD i 0) := by
      rw [List.getD_eq_getElem?_getD, List.getElem?_eq_getElem (show i < h.data.toList.length by rw [size_len]; omega)]; rfl
    obtain ⟨b, hbb⟩ : ∃ b, h.data.toList.getD i 0 = b := ⟨_, rfl⟩
    rw [hbb] at hb hg
    have h10' := byte_is b 10 (by omega)
    have hw : wrap64 ((i : Int) + 1) = ((i + 1 : Nat) : Int) := by rw [w64 _ (by omega) (by omega)]; omega
    by_cases c1 : b = 10
    · refine Ev.one fun k => ?_
      simp only [entrepotlaw04_DiagLines.l0]
      rw [if_pos (by omega), if_pos (by omega), if_pos (by rw [hb]; exact h10'.2 c1)]
    · have := ih (i + 1) (by omega) (by
        rw [List.take_add_one, hg]
        simp only [Option.toList_some, List.mem_append, List.mem_singleton, not_or]
        exact ⟨hno, fun e => c1 e.symm⟩)
      refine Ev.step (fun k => ?_) this
      simp only [entrepotlaw04_DiagLines.l0]
      rw [if_pos (by omega), if_pos (by omega), if_neg (by rw [hb]; exact fun h => c1 (h10'.1 h)), hw]
theorem DiagLines : entrepotlaw04_DiagLines.Pure := by
  intro h s c n _ _ hc hn
  have hc' : 0 ≤ c ∧ c ≤ 65535 := by simpa [Lit.wf, IntKind.min, IntKind.max, IntKind.signed, IntKind.bits] using hc
  have hn' : wf64 n := by
    have : -2147483648 ≤ n ∧ n ≤ 2147483647 := by simpa [Lit.wf, IntKind.min, IntKind.max, IntKind.signed, IntKind.bits] using hn
    unfold wf64; omega
  have hj : Ev (fun k => entrepotlaw04_DiagLines.j0 k h s c n true) true := by
    refine Ev.step (f := fun k => (entrepotlaw04_shown.f k).bind fun t208 => (some t208)) (fun k => ?_) (Ev.bind shown_ev (Ev.now _))
    simp only [entrepotlaw04_DiagLines.j0]
    rw [if_pos trivial]
  refine Ev.rounds (g := fun k => entrepotlaw04_DiagLines.f k h s c n) ?_
  unfold entrepotlaw04_DiagLines.f
  by_cases c1 : (h.size : Int) > 500
  · simp only [if_pos c1]; exact hj
  · by_cases c2 : (s.size : Int) > 500
    · simp only [if_neg c1, if_pos c2]; exact hj
    · simp only [if_neg c1, if_neg c2]
      refine Ev.bind shown_ev ?_
      obtain ⟨m, rfl⟩ := Int.eq_ofNat_of_zero_le hc'.1
      have := lines_l0 h s (by omega) (by omega) m (by omega) n hn' h.size 0 (by omega) (by simp)
      refine Ev.step (fun k => ?_) this
      simp only [entrepotlaw04_DiagLines.j0]
      rw [if_neg (by simp)]; rfl
end Go.Proofs.YtgphciopondlaaaDoor.Evs
