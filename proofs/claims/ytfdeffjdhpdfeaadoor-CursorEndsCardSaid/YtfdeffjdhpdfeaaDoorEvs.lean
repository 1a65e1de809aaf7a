/- What the printed functions of the reference of layer 1 come to: the lines and places of the plain law. Conditions: texts of at most 1000000000 bytes. -/
import Derived.Test.YtfdeffjdhpdfeaaDoorPAllx4
import Derived.Test.YtfdeffjdhpdfeaaDoorPAllx6
import Derived.Test.YtfdeffjdhpdfeaaDoorGivenD
namespace Go.Proofs.YtfdeffjdhpdfeaaDoor.Evs
set_option linter.unusedVariables false
set_option linter.unusedSimpArgs false
open Go.RowKit Go.Proofs.YtfdeffjdhpdfeaaDoor.PAll Go.Proofs.YtfdeffjdhpdfeaaDoorW.PrintWords Go.Proofs.YtfdeffjdhpdfeaaDoorW.PrintLast

theorem bt_get (s : ByteArray) (n : Nat) : bt s (n : Int) = ((s.data.toList.getD n 0).toNat : Int) := by
  rw [← rd_bytesOf]; unfold rd bytesOf
  rw [Int.toNat_natCast, List.getD_eq_getElem?_getD, List.getD_eq_getElem?_getD, List.getElem?_map]
  cases s.data.toList[n]? <;> simp
theorem w64 (n : Int) (h0 : -9223372036854775808 ≤ n) (h1 : n ≤ 9223372036854775807) : wrap64 n = n := IntWalk.wrap64_in n ⟨h0, h1⟩
theorem byte_is (c : UInt8) (n : Nat) (hn : n < 256) : ((c.toNat : Int) = (n : Int)) ↔ c = UInt8.ofNat n := by
  constructor
  · intro h
    apply UInt8.toNat_inj.1
    rw [UInt8.toNat_ofNat', Nat.mod_eq_of_lt (by omega)]
    omega
  · rintro rfl
    rw [UInt8.toNat_ofNat', Nat.mod_eq_of_lt (by omega)]

theorem wh_le (l : List UInt8) : ∀ line col, (Cur.wh line col l).1 ≤ line + l.length ∧ (Cur.wh line col l).2 ≤ col + l.length + 1 := by
  induction l with
  | nil => intro line col; simp only [Cur.wh, List.length_nil]; omega
  | cons c l ih =>
    intro line col
    simp only [Cur.wh]
    rw [List.length_cons]
    split
    · have := ih (line + 1) 1; omega
    · have := ih line (col + 1); omega
theorem at_le (l : List UInt8) (i : Nat) (h : i ≤ l.length) : (Cur.at_ l i).1 ≤ i + 1 ∧ (Cur.at_ l i).2 ≤ i + 2 := by
  have := wh_le (l.take i) 1 1
  rw [List.length_take, Nat.min_eq_left h] at this
  unfold Cur.at_; omega
def toR (x : Cur.Ln) : S33 := ⟨x.f, x.t, x.n⟩
theorem drop_at (s : ByteArray) (i : Nat) (h : i < s.size) : s.data.toList.drop i = s.data.toList.getD i 0 :: s.data.toList.drop (i + 1) := by
  have h' : i < s.data.toList.length := h
  rw [List.drop_eq_getElem_cons h', List.getD_eq_getElem?_getD, List.getElem?_eq_getElem h']; rfl

/-! Lines. -/
def cr (s : ByteArray) (f i : Nat) : Bool := decide (f < i) && (s.data.toList.getD (i - 1) 0 == 13)
theorem refLines_l (s : ByteArray) (hs : s.size ≤ 1000000000) (j : Nat) : ∀ (f i : Nat) (acc : List S33), i + j = s.size → f ≤ i → acc.length ≤ i →
    Ev (fun k => entrepotref01_Lines.l0 k s acc (f : Int) (i : Int)) (acc ++ (Cur.ln f i (cr s f i) (s.data.toList.drop i)).map toR) := by
  induction j with
  | zero =>
    intro f i acc hi hf ha
    refine ⟨1, fun k hk => ?_⟩
    obtain ⟨m, rfl⟩ : ∃ m, k = m + 1 := ⟨k - 1, by omega⟩
    simp only [entrepotref01_Lines.l0]
    rw [if_neg (by omega)]
    obtain rfl : i = s.size := by omega
    rw [List.drop_of_length_le (show s.data.toList.length ≤ s.size from Nat.le_refl _)]
    simp only [Cur.ln]
    by_cases h : f < s.size
    · rw [if_pos (by omega), if_pos (by omega), if_pos h]; rfl
    · rw [if_neg (by omega), if_neg h]; simp
  | succ j ih =>
    intro f i acc hi hf ha
    rw [drop_at s i (by omega)]
    have hb := bt_get s i
    obtain ⟨c, hc⟩ : ∃ c, s.data.toList.getD i 0 = c := ⟨_, rfl⟩
    rw [hc] at hb ⊢
    have hc10 := byte_is c 10 (by omega)
    have hw : wrap64 ((i : Int) + 1) = ((i + 1 : Nat) : Int) := by rw [w64 _ (by omega) (by omega)]; omega
    by_cases h10 : c = 10
    · simp only [Cur.ln, if_pos h10]
      have e0 : bt s (i : Int) = 10 := by rw [hb, h10]; rfl
      by_cases hfi : f < i
      · have hw2 : wrap64 ((i : Int) - 1) = ((i - 1 : Nat) : Int) := by rw [w64 _ (by omega) (by omega)]; omega
        have hb2 := bt_get s (i - 1)
        by_cases h13 : s.data.toList.getD (i - 1) 0 = 13
        · have hcr : cr s f i = true := by unfold cr; rw [h13]; simp [hfi]
          have := ih (i + 1) (i + 1) (acc ++ [toR ⟨f, i - 1, i + 1⟩]) (by omega) (by omega) (by simp; omega)
          have hcr2 : cr s (i + 1) (i + 1) = false := by unfold cr; simp
          rw [hcr2] at this
          rw [hcr, if_pos rfl, List.map_cons, show acc ++ toR ⟨f, i - 1, i + 1⟩ :: (Cur.ln (i + 1) (i + 1) false (s.data.toList.drop (i + 1))).map toR = acc ++ [toR ⟨f, i - 1, i + 1⟩] ++ (Cur.ln (i + 1) (i + 1) false (s.data.toList.drop (i + 1))).map toR by simp]
          refine Ev.step (fun k => ?_) this
          simp only [entrepotref01_Lines.l0]
          rw [if_pos (by omega), if_pos (by omega), if_pos e0, if_pos (by omega), hw2, if_pos (by omega), if_pos (by omega), if_pos (by rw [hb2, h13]; rfl), if_pos (by omega), hw]; rfl
        · have hcr : cr s f i = false := by unfold cr; rw [Bool.and_eq_false_iff]; exact .inr (beq_eq_false_iff_ne.2 h13)
          have := ih (i + 1) (i + 1) (acc ++ [toR ⟨f, i, i + 1⟩]) (by omega) (by omega) (by simp; omega)
          have hcr2 : cr s (i + 1) (i + 1) = false := by unfold cr; simp
          rw [hcr2] at this
          rw [hcr, if_neg (by simp), List.map_cons, show acc ++ toR ⟨f, i, i + 1⟩ :: (Cur.ln (i + 1) (i + 1) false (s.data.toList.drop (i + 1))).map toR = acc ++ [toR ⟨f, i, i + 1⟩] ++ (Cur.ln (i + 1) (i + 1) false (s.data.toList.drop (i + 1))).map toR by simp]
          refine Ev.step (fun k => ?_) this
          simp only [entrepotref01_Lines.l0]
          rw [if_pos (by omega), if_pos (by omega), if_pos e0, if_pos (by omega), hw2, if_pos (by omega), if_pos (by omega), if_neg (by rw [hb2, show (13 : Int) = ((13 : Nat) : Int) by rfl, byte_is _ 13 (by omega)]; exact h13), if_pos (by omega), hw]; rfl
      · have hcr : cr s f i = false := by unfold cr; simp [hfi]
        have := ih (i + 1) (i + 1) (acc ++ [toR ⟨f, i, i + 1⟩]) (by omega) (by omega) (by simp; omega)
        have hcr2 : cr s (i + 1) (i + 1) = false := by unfold cr; simp
        rw [hcr2] at this
        rw [hcr, if_neg (by simp), List.map_cons, show acc ++ toR ⟨f, i, i + 1⟩ :: (Cur.ln (i + 1) (i + 1) false (s.data.toList.drop (i + 1))).map toR = acc ++ [toR ⟨f, i, i + 1⟩] ++ (Cur.ln (i + 1) (i + 1) false (s.data.toList.drop (i + 1))).map toR by simp]
        refine Ev.step (fun k => ?_) this
        simp only [entrepotref01_Lines.l0]
        rw [if_pos (by omega), if_pos (by omega), if_pos e0, if_neg (by omega), if_pos (by omega), hw]; rfl
    · simp only [Cur.ln, if_neg h10]
      have := ih f (i + 1) acc (by omega) (by omega) (by omega)
      have hcr2 : cr s f (i + 1) = (c == 13) := by unfold cr; rw [Nat.add_sub_cancel, hc]; simp; omega
      rw [hcr2] at this
      refine Ev.step (fun k => ?_) this
      simp only [entrepotref01_Lines.l0]
      rw [if_pos (by omega), if_pos (by omega), if_neg (by rw [hb, show (10 : Int) = ((10 : Nat) : Int) by rfl, hc10]; exact h10), hw]
theorem refLines (s : ByteArray) (hs : s.size ≤ 1000000000) : Ev (fun k => entrepotref01_Lines.f k s) ((Cur.lines s.data.toList).map toR) := by
  have := refLines_l s hs s.size 0 0 [] (by omega) (by omega) (by simp)
  have hcr2 : cr s 0 0 = false := by unfold cr; simp
  rw [hcr2, List.nil_append] at this
  exact this

/-! Same; its. -/
theorem refSame_l (l : List S33) (hl : l.length ≤ 1000000000) (j : Nat) : ∀ i : Nat, i + j = l.length → Ev (fun k => entrepotref01_Same.l0 k l l (i : Int)) true := by
  induction j with
  | zero =>
    intro i hi
    refine ⟨1, fun k hk => ?_⟩
    obtain ⟨m, rfl⟩ : ∃ m, k = m + 1 := ⟨k - 1, by omega⟩
    simp only [entrepotref01_Same.l0]
    rw [if_neg (by omega)]
  | succ j ih =>
    intro i hi
    refine Ev.step (fun k => ?_) (ih (i + 1) (by omega))
    simp only [entrepotref01_Same.l0]
    rw [if_pos (by omega), if_pos (by omega), if_pos (by omega), if_neg (by simp), w64 _ (by omega) (by omega)]; rfl
theorem refSame (l : List S33) (hl : l.length ≤ 1000000000) : Ev (fun k => entrepotref01_Same.f k l l) true := by
  refine Ev.congr (fun k => ?_) (refSame_l l hl l.length 0 (by omega))
  unfold entrepotref01_Same.f
  rw [if_pos rfl]; rfl
theorem rd31 (xs : List Cur.Ln) (i : Nat) (h : i < xs.length) : rd_T31 (xs.map toS) (i : Int) = toS xs[i] := by
  unfold rd_T31; rw [Int.toNat_natCast, List.getD_eq_getElem?_getD, List.getElem?_map, List.getElem?_eq_getElem h]; rfl
theorem rd33 (xs : List Cur.Ln) (i : Nat) (h : i < xs.length) : rd_T33 (xs.map toR) (i : Int) = toR xs[i] := by
  unfold rd_T33; rw [Int.toNat_natCast, List.getD_eq_getElem?_getD, List.getElem?_map, List.getElem?_eq_getElem h]; rfl
theorem its_l (xs : List Cur.Ln) (hl : xs.length ≤ 1000000000) (j : Nat) : ∀ i : Nat, i + j = xs.length → Ev (fun k => entrepotlaw01_its.l0 k (xs.map toS) ((xs.take i).map toR) (i : Int)) (xs.map toR) := by
  induction j with
  | zero =>
    intro i hi
    refine ⟨1, fun k hk => ?_⟩
    obtain ⟨m, rfl⟩ : ∃ m, k = m + 1 := ⟨k - 1, by omega⟩
    simp only [entrepotlaw01_its.l0]
    rw [if_neg (by rw [List.length_map]; omega), List.take_of_length_le (by omega)]
  | succ j ih =>
    intro i hi
    have := ih (i + 1) (by omega)
    refine Ev.step (fun k => ?_) this
    simp only [entrepotlaw01_its.l0]
    rw [if_pos (by rw [List.length_map]; omega), if_pos (by omega), if_pos (by rw [List.length_map, List.length_take]; omega), w64 _ (by omega) (by omega), rd31 xs i (by omega)]
    rw [show (xs.take i).map toR ++ [(⟨(toS xs[i]).f0, (toS xs[i]).f1, (toS xs[i]).f2⟩ : S33)] = (xs.take (i + 1)).map toR by
      rw [List.take_succ_eq_append_getElem (by omega), List.map_append]; rfl]
    rfl
theorem its (xs : List Cur.Ln) (hl : xs.length ≤ 1000000000) : Ev (fun k => entrepotlaw01_its.f k (xs.map toS)) (xs.map toR) := its_l xs hl xs.length 0 (by omega)

/-! Blank; Rows. -/
theorem blank_split (s : ByteArray) (i t : Nat) (h : i < t) (ht : t ≤ s.size) : Cur.blank s.data.toList i t = (Cur.isB (s.data.toList.getD i 0) && Cur.blank s.data.toList (i + 1) t) := by
  unfold Cur.blank
  rw [drop_at s i (by omega), show t - i = (t - (i + 1)) + 1 by omega, List.take_succ_cons, List.all_cons]
theorem blank_end (s : ByteArray) (t : Nat) : Cur.blank s.data.toList t t = true := by unfold Cur.blank; simp
theorem refBlank_l (s : ByteArray) (hs : s.size ≤ 1000000000) (f t n : Int) (tn : Nat) (ht : t = (tn : Int)) (htn : tn ≤ s.size) (j : Nat) : ∀ i : Nat, i + j = tn → Ev (fun k => entrepotref01_Blank.l0 k s (i : Int) f t n) (Cur.blank s.data.toList i tn) := by
  subst ht
  induction j with
  | zero =>
    intro i hi
    obtain rfl : i = tn := by omega
    refine ⟨1, fun k hk => ?_⟩
    obtain ⟨m, rfl⟩ : ∃ m, k = m + 1 := ⟨k - 1, by omega⟩
    simp only [entrepotref01_Blank.l0]
    rw [if_neg (by omega), blank_end]
  | succ j ih =>
    intro i hi
    rw [blank_split s i tn (by omega) htn]
    have hb := bt_get s i
    obtain ⟨c, hc⟩ : ∃ c, s.data.toList.getD i 0 = c := ⟨_, rfl⟩
    rw [hc] at hb ⊢
    have h32 := byte_is c 32 (by omega)
    have h9 := byte_is c 9 (by omega)
    have hw : wrap64 ((i : Int) + 1) = ((i + 1 : Nat) : Int) := by rw [w64 _ (by omega) (by omega)]; omega
    by_cases c1 : c = 32
    · have e : Cur.isB c = true := by rw [c1]; rfl
      rw [e, Bool.true_and]
      refine Ev.step (fun k => ?_) (ih (i + 1) (by omega))
      simp only [entrepotref01_Blank.l0]
      rw [if_pos (by omega), if_pos (by omega), if_pos (by omega), if_pos (by rw [hb]; exact h32.2 c1), hw]
    · by_cases c2 : c = 9
      · have e : Cur.isB c = true := by rw [c2]; rfl
        rw [e, Bool.true_and]
        refine Ev.step (fun k => ?_) (ih (i + 1) (by omega))
        simp only [entrepotref01_Blank.l0]
        rw [if_pos (by omega), if_pos (by omega), if_pos (by omega), if_neg (by rw [hb]; exact fun h => c1 (h32.1 h)), if_pos (by rw [hb]; exact h9.2 c2), hw]
      · have e : Cur.isB c = false := by unfold Cur.isB; simp [c1, c2]
        rw [e, Bool.false_and]
        refine ⟨1, fun k hk => ?_⟩
        obtain ⟨m, rfl⟩ : ∃ m, k = m + 1 := ⟨k - 1, by omega⟩
        simp only [entrepotref01_Blank.l0]
        rw [if_pos (by omega), if_pos (by omega), if_pos (by omega), if_neg (by rw [hb]; exact fun h => c1 (h32.1 h)), if_neg (by rw [hb]; exact fun h => c2 (h9.1 h))]
theorem refBlank (s : ByteArray) (hs : s.size ≤ 1000000000) (f t : Nat) (n : Int) (hft : f ≤ t) (ht : t ≤ s.size) : Ev (fun k => entrepotref01_Blank.f k s (f : Int) (t : Int) n) (Cur.blank s.data.toList f t) :=
  refBlank_l s hs f t n t rfl ht (t - f) f (by omega)
theorem refRows_l (s : ByteArray) (hs : s.size ≤ 1000000000) (xs : List Cur.Ln) (hl : xs.length ≤ 1000000000) (hx : ∀ x ∈ xs, InText s x) (j : Nat) : ∀ i : Nat, i + j = xs.length →
    Ev (fun k => entrepotref01_Rows.l0 k s ((rw_ s (xs.take i)).map toR) (xs.map toR) (i : Int)) ((rw_ s xs).map toR) := by
  induction j with
  | zero =>
    intro i hi
    refine ⟨1, fun k hk => ?_⟩
    obtain ⟨m, rfl⟩ : ∃ m, k = m + 1 := ⟨k - 1, by omega⟩
    simp only [entrepotref01_Rows.l0]
    rw [if_neg (by rw [List.length_map]; omega), List.take_of_length_le (by omega)]
  | succ j ih =>
    intro i hi
    have hxi := hx xs[i] (List.getElem_mem (by omega))
    have hB := refBlank s hs xs[i].f xs[i].t xs[i].n hxi.1 (by have := hxi.2.1; have := hxi.2.2.2; omega)
    have hlen := rw_len s (xs.take i)
    rw [List.length_take] at hlen
    have hw : wrap64 ((i : Int) + 1) = ((i + 1 : Nat) : Int) := by rw [w64 _ (by omega) (by omega)]; omega
    have := ih (i + 1) (by omega)
    rw [List.take_succ_eq_append_getElem (by omega)] at this
    obtain ⟨b, hb⟩ : ∃ b, Cur.blank s.data.toList xs[i].f xs[i].t = b := ⟨_, rfl⟩
    rw [hb] at hB
    have key : Ev (fun k => (entrepotref01_Blank.f k s ((rd_T33 (xs.map toR) (i : Int)).f0) ((rd_T33 (xs.map toR) (i : Int)).f1) ((rd_T33 (xs.map toR) (i : Int)).f2)).bind fun t149 => (if t149 = true then (entrepotref01_Rows.l0 k s ((rw_ s (xs.take i)).map toR) (xs.map toR) (wrap64 ((i : Int) + 1))) else (if ((rw_ s (xs.take i)).map toR).length < 5864062014805 then (entrepotref01_Rows.l0 k s (((rw_ s (xs.take i)).map toR) ++ [(⟨(rd_T33 (xs.map toR) (i : Int)).f0, (rd_T33 (xs.map toR) (i : Int)).f1, (rd_T33 (xs.map toR) (i : Int)).f2⟩ : S33)]) (xs.map toR) (wrap64 ((i : Int) + 1))) else (none)))) ((rw_ s xs).map toR) := by
      rw [rd33 xs i (by omega)]
      refine Ev.bind hB ?_
      cases b with
      | true =>
        simp only [if_true]
        rw [rw_miss s _ _ hb] at this
        rw [hw]; exact this
      | false =>
        simp only [Bool.false_eq_true, if_false]
        rw [rw_hit s _ _ hb, List.map_append] at this
        rw [hw]; simp only [if_pos (show ((rw_ s (xs.take i)).map toR).length < 5864062014805 by rw [List.length_map]; omega)]; exact this
    refine Ev.step (fun k => ?_) key
    simp only [entrepotref01_Rows.l0]
    rw [if_pos (by rw [List.length_map]; omega), if_pos (by omega)]
theorem refRows (s : ByteArray) (hs : s.size ≤ 1000000000) : Ev (fun k => entrepotref01_Rows.f k s) ((rw_ s (Cur.lines s.data.toList)).map toR) := by
  have hl : (Cur.lines s.data.toList).length ≤ 1000000000 := Nat.le_trans (lines_len _) hs
  unfold entrepotref01_Rows.f
  exact Ev.bind (refLines s hs) (refRows_l s hs _ hl (lines_in_text s) (Cur.lines s.data.toList).length 0 (by omega))

/-! Where; Place. -/
theorem refWhere_l (s : ByteArray) (hs : s.size ≤ 1000000000) (a : Nat) (ha : a ≤ s.size) (j : Nat) : ∀ i : Nat, i + j = a →
    Ev (fun k => entrepotref01_Where.l0 k s (a : Int) ((Cur.at_ s.data.toList i).1 : Int) ((Cur.at_ s.data.toList i).2 : Int) (i : Int)) (((Cur.at_ s.data.toList a).1 : Int), ((Cur.at_ s.data.toList a).2 : Int), (0 : Int)) := by
  induction j with
  | zero =>
    intro i hi
    obtain rfl : i = a := by omega
    refine ⟨1, fun k hk => ?_⟩
    obtain ⟨m, rfl⟩ : ∃ m, k = m + 1 := ⟨k - 1, by omega⟩
    simp only [entrepotref01_Where.l0]
    rw [if_neg (by omega)]
  | succ j ih =>
    intro i hi
    have := ih (i + 1) (by omega)
    have hb := bt_get s i
    have hg : s.data.toList[i]? = some (s.data.toList.getD i 0) := by
      rw [List.getD_eq_getElem?_getD, List.getElem?_eq_getElem (show i < s.data.toList.length by rw [size_len]; omega)]; rfl
    obtain ⟨c, hc⟩ : ∃ c, s.data.toList.getD i 0 = c := ⟨_, rfl⟩
    rw [hc] at hb hg
    rw [Cur.at_succ _ _ _ hg] at this
    have h10 := byte_is c 10 (by omega)
    have hlt : (Cur.at_ s.data.toList i).1 ≤ i + 1 ∧ (Cur.at_ s.data.toList i).2 ≤ i + 2 := at_le s.data.toList i (by rw [size_len]; omega)
    have hw : wrap64 ((i : Int) + 1) = ((i + 1 : Nat) : Int) := by rw [w64 _ (by omega) (by omega)]; omega
    refine Ev.step (fun k => ?_) this
    simp only [entrepotref01_Where.l0]
    rw [if_pos (by omega), if_pos (by omega), if_pos (by omega), hw]
    by_cases c1 : c = 10
    · rw [if_pos (by rw [hb]; exact h10.2 c1), if_pos c1, w64 _ (by omega) (by omega)]; rfl
    · rw [if_neg (by rw [hb]; exact fun h => c1 (h10.1 h)), if_neg c1, w64 _ (by omega) (by omega)]; rfl
def whereV (s : ByteArray) (a : Int) : Int × Int × Int := if a < 0 ∨ (s.size : Int) < a then (0, 0, 10) else (((Cur.at_ s.data.toList a.toNat).1 : Int), ((Cur.at_ s.data.toList a.toNat).2 : Int), 0)
theorem whereF (s : ByteArray) (hs : s.size ≤ 1000000000) (a : Int) : cursor_Where.f s a = some (whereV s a) := by
  unfold cursor_Where.f whereV; rw [if_pos (by omega)]
theorem refWhere (s : ByteArray) (hs : s.size ≤ 1000000000) (a : Int) : Ev (fun k => entrepotref01_Where.f k s a) (whereV s a) := by
  unfold entrepotref01_Where.f whereV
  have out : Ev (fun k => entrepotref01_Where.j0 k s a true) ((0 : Int), (0 : Int), (10 : Int)) := by
    refine ⟨1, fun k hk => ?_⟩
    obtain ⟨m, rfl⟩ : ∃ m, k = m + 1 := ⟨k - 1, by omega⟩
    simp only [entrepotref01_Where.j0]
    rw [if_pos trivial]
  by_cases h0 : a < 0
  · rw [if_pos (.inl h0)]; simp only [if_pos h0]; exact out
  · simp only [if_neg h0]
    by_cases h1 : (s.size : Int) < a
    · rw [if_pos (.inr h1), decide_eq_true (show a > (s.size : Int) from h1)]; exact out
    · rw [if_neg (by omega), decide_eq_false (show ¬ a > (s.size : Int) from h1)]
      obtain ⟨n, rfl⟩ := Int.eq_ofNat_of_zero_le (show 0 ≤ a by omega)
      rw [Int.toNat_natCast]
      have := refWhere_l s hs n (by omega) n 0 (by omega)
      rw [Cur.at_zero] at this
      refine Ev.step (fun k => ?_) this
      simp only [entrepotref01_Where.j0]
      rw [if_neg (by simp)]; rfl
def placeP (s : ByteArray) (line col : Int) : Int × Int := match Cur.place s.data.toList line col with | some i => ((i : Int), 0) | none => (0, 10)
theorem placeF (s : ByteArray) (hs : s.size ≤ 1000000000) (line col : Int) (h0 : -9223372036854775808 ≤ col) (h1 : col ≤ 9223372036854775807) : cursor_Place.f s line col = some (placeP s line col) := by
  unfold cursor_Place.f placeP; rw [if_pos ⟨hs, h0, h1⟩]; cases Cur.place s.data.toList line col <;> rfl
theorem refPlace_one (s : ByteArray) (hs : s.size ≤ 1000000000) (line col : Int) (i : Nat) (hi : i ≤ s.size) (r : Int × Int)
    (h : Cur.isPlace s.data.toList line col i = true → r = ((i : Int), 0)) (hn : Cur.isPlace s.data.toList line col i = false → Ev (fun k => entrepotref01_Place.l0 k s line col ((i + 1 : Nat) : Int)) r) :
    Ev (fun k => entrepotref01_Place.l0 k s line col (i : Int)) r := by
  have hw : wrap64 ((i : Int) + 1) = ((i + 1 : Nat) : Int) := by rw [w64 _ (by omega) (by omega)]; omega
  have hW := refWhere s hs (i : Int)
  have hv : whereV s (i : Int) = (((Cur.at_ s.data.toList i).1 : Int), ((Cur.at_ s.data.toList i).2 : Int), 0) := by unfold whereV; rw [if_neg (by omega), Int.toNat_natCast]
  rw [hv] at hW
  have key : Ev (fun k => (entrepotref01_Where.f k s (i : Int)).bind fun bt180 => (if bt180.1 = line then (if bt180.2.1 = col then (some ((i : Int), (0 : Int))) else (entrepotref01_Place.l0 k s line col (wrap64 ((i : Int) + 1)))) else (entrepotref01_Place.l0 k s line col (wrap64 ((i : Int) + 1))))) r := by
    refine Ev.bind hW ?_
    simp only
    rw [hw]
    by_cases c1 : ((Cur.at_ s.data.toList i).1 : Int) = line
    · simp only [if_pos c1]
      by_cases c2 : ((Cur.at_ s.data.toList i).2 : Int) = col
      · simp only [if_pos c2]; rw [h (by unfold Cur.isPlace; simp [c1, c2])]; exact Ev.now _
      · simp only [if_neg c2]; exact hn (by unfold Cur.isPlace; simp [c2])
    · simp only [if_neg c1]; exact hn (by unfold Cur.isPlace; simp [c1])
  refine Ev.step (fun k => ?_) key
  simp only [entrepotref01_Place.l0]
  rw [if_pos (by omega)]
theorem refPlace (s : ByteArray) (hs : s.size ≤ 1000000000) (line col : Int) : Ev (fun k => entrepotref01_Place.f k s line col) (placeP s line col) := by
  by_cases hex : ∃ i, i ≤ s.size ∧ Cur.isPlace s.data.toList line col i = true
  · obtain ⟨i0, hi0, hp⟩ := hex
    have hv : placeP s line col = ((i0 : Int), 0) := by unfold placeP; rw [Cur.place_of hi0 hp]
    rw [hv]
    have all : ∀ j i : Nat, i + j = i0 → Ev (fun k => entrepotref01_Place.l0 k s line col (i : Int)) ((i0 : Int), (0 : Int)) := by
      intro j
      induction j with
      | zero =>
        intro i hi
        obtain rfl : i = i0 := by omega
        exact refPlace_one s hs line col i hi0 _ (fun _ => rfl) (fun h => by rw [hp] at h; cases h)
      | succ j ih =>
        intro i hi
        refine refPlace_one s hs line col i (by omega) _ (fun h => ?_) (fun _ => ih (i + 1) (by omega))
        exfalso
        unfold Cur.isPlace at h hp
        simp only [Bool.and_eq_true, decide_eq_true_eq] at h hp
        have := Cur.at_inj s.data.toList i i0 (by rw [size_len]; omega) (by rw [size_len]; omega) (Prod.ext (by omega) (by omega))
        omega
    exact all i0 0 (by omega)
  · have hno : ∀ i, i ≤ s.size → Cur.isPlace s.data.toList line col i = false := fun i hi => by
      cases h : Cur.isPlace s.data.toList line col i with
      | false => rfl
      | true => exact absurd ⟨i, hi, h⟩ hex
    have hv : placeP s line col = (0, 10) := by unfold placeP; rw [Cur.place_none hno]
    rw [hv]
    have all : ∀ j i : Nat, i + j = s.size + 1 → Ev (fun k => entrepotref01_Place.l0 k s line col (i : Int)) ((0 : Int), (10 : Int)) := by
      intro j
      induction j with
      | zero =>
        intro i hi
        refine ⟨1, fun k hk => ?_⟩
        obtain ⟨m, rfl⟩ : ∃ m, k = m + 1 := ⟨k - 1, by omega⟩
        simp only [entrepotref01_Place.l0]
        rw [if_neg (by omega)]
      | succ j ih =>
        intro i hi
        exact refPlace_one s hs line col i (by omega) _ (fun h => by rw [hno i (by omega)] at h; cases h) (fun _ => ih (i + 1) (by omega))
    exact all (s.size + 1) 0 (by omega)
theorem linesF (s : ByteArray) (hs : s.size ≤ 1000000000) : cursor_Lines.f s = some ((Cur.lines s.data.toList).map toS) := by unfold cursor_Lines.f; rw [if_pos hs]
theorem rowsF (s : ByteArray) (hs : s.size ≤ 1000000000) : cursor_Rows.f s = some ((rw_ s (Cur.lines s.data.toList)).map toS) := by unfold cursor_Rows.f; rw [if_pos hs]
theorem blankF (s : ByteArray) (hs : s.size ≤ 1000000000) (f t : Nat) (n : Int) (hft : f ≤ t) (ht : t ≤ s.size) : cursor_Blank.f s (f : Int) (t : Int) n = some (Cur.blank s.data.toList f t) := by
  unfold cursor_Blank.f; rw [if_pos ⟨by omega, by omega, by omega, by omega⟩, Int.toNat_natCast, Int.toNat_natCast]
theorem shown_ev : entrepotlaw01_shown.f = some true := by decide +kernel
end Go.Proofs.YtfdeffjdhpdfeaaDoor.Evs
