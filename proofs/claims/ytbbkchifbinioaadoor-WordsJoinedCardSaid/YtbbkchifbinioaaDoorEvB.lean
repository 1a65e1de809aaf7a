/- The law WordsKeys, in plain Lean. Conditions: none (beyond the printed law's own). -/
import Derived.Test.YtbbkchifbinioaaDoorPAllx6
import Derived.Test.YtbbkchifbinioaaDoorPlainB
import Derived.Test.YtbbkchifbinioaaDoorEvA
namespace Go.Proofs.YtbbkchifbinioaaDoor.Evs
set_option linter.unusedVariables false
set_option linter.unusedSimpArgs false
open Go.RowKit Go.Proofs.YtbbkchifbinioaaDoor.PAll Go.Proofs.YtbbkchifbinioaaDoorW.PrintWords Go.Proofs.YtbbkchifbinioaaDoorW.PrintLast

theorem Ev.one {α : Type} {g : Nat → Option α} {r : α} (h : ∀ k, g (k + 1) = some r) : Ev g r :=
  ⟨1, fun k hk => by obtain ⟨m, rfl⟩ : ∃ m, k = m + 1 := ⟨k - 1, by omega⟩; exact h m⟩
theorem bt_is (s : ByteArray) (i : Nat) (c : UInt8) (h : s.data.toList.getD i 0 = c) : bt s (i : Int) = (c.toNat : Int) := by rw [bt_get, h]
theorem ext_S (s : ByteArray) (a b : Nat) : s.extract a b = S (Wd.part s.data.toList a b) := S_ext (by rw [ext_data, S_data]; rfl)
theorem next_ (i : Nat) (h : i ≤ 1000000000) : wrap64 ((i : Int) + 1) = ((i + 1 : Nat) : Int) := by rw [w64 _ (by omega) (by omega)]; omega
theorem blankF (c : UInt8) : entrepotref03_blank.f (c.toNat : Int) = some (Wd.isB c) := by
  rw [← isB_nat]
  unfold entrepotref03_blank.f
  obtain ⟨n, hn⟩ : ∃ n, c.toNat = n := ⟨_, rfl⟩
  rw [hn]
  by_cases h : n = 32
  · subst h; rfl
  · rw [if_neg (by omega)]
    have e : ((n : Int) == 9) = (n == 9) := by rw [Bool.eq_iff_iff]; simp; omega
    rw [e, show (n == 32) = false by simpa using h, Bool.false_or]

theorem refTrim_l1 (s : ByteArray) (hs : s.size ≤ 1000000000) (f d : Nat) : ∀ t : Nat, f + d = t → t ≤ s.size →
    Ev (fun k => entrepotref03_trimmed.l1 k s (f : Int) (t : Int)) ((f : Int), ((f + (Wd.tR (Wd.part s.data.toList f t)).length : Nat) : Int)) := by
  induction d with
  | zero =>
    intro t ht hts
    refine Ev.one fun k => ?_
    simp only [entrepotref03_trimmed.l1]
    obtain rfl : t = f := by omega
    rw [if_neg (by omega), Wd.part_nil _ _ _ (Nat.le_refl _)]; rfl
  | succ d ih =>
    intro t ht hts
    obtain ⟨t', rfl⟩ : ∃ t', t = t' + 1 := ⟨t - 1, by omega⟩
    have hw : wrap64 (((t' + 1 : Nat) : Int) - 1) = (t' : Int) := by rw [w64 _ (by omega) (by omega)]; omega
    obtain ⟨c, hc⟩ : ∃ c, s.data.toList.getD t' 0 = c := ⟨_, rfl⟩
    have hb := bt_is s t' c hc
    have hp : Wd.part s.data.toList f (t' + 1) = Wd.part s.data.toList f t' ++ [c] := by rw [Wd.part_snoc _ _ _ (by omega) (show t' < s.size by omega), hc]
    have hl : (Wd.part s.data.toList f t').length = t' - f := Wd.part_len _ _ _ (show t' ≤ s.size by omega)
    rw [hp, Wd.tR_snoc]
    have hbl := blankF c
    cases hB : Wd.isB c with
    | true =>
      rw [hB] at hbl
      rw [if_pos rfl]
      refine Ev.step (fun k => ?_) (ih t' (by omega) (by omega))
      simp only [entrepotref03_trimmed.l1]
      rw [if_pos (by omega), hw, if_pos (by omega), if_pos (by omega), hb, hbl]; rfl
    | false =>
      rw [hB] at hbl
      rw [if_neg (by simp), List.length_append, hl, List.length_singleton, show f + (t' - f + 1) = t' + 1 by omega]
      refine Ev.one fun k => ?_
      simp only [entrepotref03_trimmed.l1]
      rw [if_pos (by omega), hw, if_pos (by omega), if_pos (by omega), hb, hbl]; rfl
def twI (l : List UInt8) (a b : Nat) : Int × Int := (((Wd.tw l a b).1 : Int), ((Wd.tw l a b).2 : Int))
theorem refTrim_l0 (s : ByteArray) (hs : s.size ≤ 1000000000) (t d : Nat) (hts : t ≤ s.size) : ∀ f : Nat, f + d = t →
    Ev (fun k => entrepotref03_trimmed.l0 k s (f : Int) (t : Int)) (twI s.data.toList f t) := by
  induction d with
  | zero =>
    intro f ht
    obtain rfl : t = f := by omega
    have h1 := refTrim_l1 s hs t 0 t (by omega) hts
    have e : twI s.data.toList t t = ((t : Int), ((t + (Wd.tR (Wd.part s.data.toList t t)).length : Nat) : Int)) := by
      unfold twI Wd.tw
      rw [Wd.part_nil _ _ _ (Nat.le_refl _)]; rfl
    rw [e]
    refine Ev.step (fun k => ?_) (Ev.step (f := fun k => entrepotref03_trimmed.l1 k s (t : Int) (t : Int)) (g := fun k => entrepotref03_trimmed.j1 k s (t : Int) (t : Int)) (fun k => ?_) h1)
    · simp only [entrepotref03_trimmed.l0]; rw [if_neg (by omega)]
    · simp only [entrepotref03_trimmed.j1]
  | succ d ih =>
    intro f ht
    obtain ⟨c, hc⟩ : ∃ c, s.data.toList.getD f 0 = c := ⟨_, rfl⟩
    have hb := bt_is s f c hc
    have hp : Wd.part s.data.toList f t = c :: Wd.part s.data.toList (f + 1) t := by rw [Wd.part_cons _ _ _ (by omega) (show t ≤ s.size from hts), hc]
    have hl : (Wd.part s.data.toList (f + 1) t).length = t - (f + 1) := Wd.part_len _ _ _ (show t ≤ s.size from hts)
    have hbl := blankF c
    cases hB : Wd.isB c with
    | true =>
      rw [hB] at hbl
      have e : twI s.data.toList f t = twI s.data.toList (f + 1) t := by
        unfold twI Wd.tw
        rw [hp, Wd.tL_cons, if_pos hB]
      rw [e]
      refine Ev.step (fun k => ?_) (ih (f + 1) (by omega))
      simp only [entrepotref03_trimmed.l0]
      rw [if_pos (by omega), if_pos (by omega), if_pos (by omega), hb, hbl, next_ f (by omega)]; rfl
    | false =>
      rw [hB] at hbl
      have h1 := refTrim_l1 s hs f (d + 1) t (by omega) hts
      have e : twI s.data.toList f t = ((f : Int), ((f + (Wd.tR (Wd.part s.data.toList f t)).length : Nat) : Int)) := by
        unfold twI Wd.tw
        rw [hp, Wd.tL_cons, if_neg (by simp [hB]), List.length_cons, hl, show t - (t - (f + 1) + 1) = f by omega]
      rw [e]
      refine Ev.step (fun k => ?_) (Ev.step (f := fun k => entrepotref03_trimmed.l1 k s (f : Int) (t : Int)) (g := fun k => entrepotref03_trimmed.j1 k s (f : Int) (t : Int)) (fun k => ?_) h1)
      · simp only [entrepotref03_trimmed.l0]; rw [if_pos (by omega), if_pos (by omega), if_pos (by omega), hb, hbl]; rfl
      · simp only [entrepotref03_trimmed.j1]
theorem refTrim (s : ByteArray) (hs : s.size ≤ 1000000000) (f t : Nat) (hft : f ≤ t) (hts : t ≤ s.size) : Ev (fun k => entrepotref03_trimmed.f k s (f : Int) (t : Int)) (twI s.data.toList f t) :=
  refTrim_l0 s hs t (t - f) hts f (by omega)
theorem placesF (s : ByteArray) (a b : Nat) (hab : a ≤ b) (hb : b ≤ s.size) : entrepotref03_places.f s (a : Int) (b : Int) = some true := by
  unfold entrepotref03_places.f
  rw [if_pos (by omega), if_pos (by omega), decide_eq_true (by omega)]
theorem refTextF (s : ByteArray) (a b : Nat) (hab : a ≤ b) (hb : b ≤ s.size) : entrepotref03_Text.f s (a : Int) (b : Int) = some (S (Wd.part s.data.toList a b)) := by
  unfold entrepotref03_Text.f
  rw [placesF s a b hab hb, Option.bind_some, if_pos rfl, if_pos (by omega), if_pos (by omega), if_pos (by omega), Int.toNat_natCast, Int.toNat_natCast, ext_S]

theorem cap_iff (n : Nat) : Wd.cap n = true ↔ (65 ≤ n ∧ n ≤ 90) ∨ (48 ≤ n ∧ n ≤ 57) ∨ n = 95 := by
  unfold Wd.cap; simp only [Bool.or_eq_true, Bool.and_eq_true, decide_eq_true_eq, beq_iff_eq]; omega
abbrev K4 := ByteArray × Int × Int × Bool
def none4 : K4 := (⟨#[]⟩, 0, 0, false)
theorem refKey_l1 (s : ByteArray) (b c : Nat) (kt : List UInt8) (hk : kt.length ≤ 1000000000) (R : K4)
    (hR : Ev (fun k => if (c : Int) < (b : Int) then ((entrepotref03_trimmed.f k s (wrap64 ((c : Int) + 1)) (b : Int)).bind fun bt135 => (if bt135.1 < bt135.2 then (some (S kt, bt135.1, bt135.2, true)) else (some (S kt, (b : Int), (b : Int), true)))) else (some (S kt, (b : Int), (b : Int), true))) R) (j : Nat) :
    ∀ i : Nat, i + j = kt.length → Ev (fun k => entrepotref03_Key.l1 k s (b : Int) (c : Int) (S kt) (i : Int)) (if Wd.allOf Wd.cap (kt.drop i) = true then R else none4) := by
  have hz : (S kt).size = kt.length := S_size kt
  induction j with
  | zero =>
    intro i hi
    rw [List.drop_of_length_le (by omega), if_pos (by rfl)]
    refine Ev.step (fun k => ?_) hR
    simp only [entrepotref03_Key.l1]
    rw [if_neg (by omega)]
  | succ j ih =>
    intro i hi
    rw [Wd.drop_c kt i (by omega)]
    obtain ⟨x, hx⟩ : ∃ x, kt.getD i 0 = x := ⟨_, rfl⟩
    have hb := bt_is (S kt) i x (by rw [S_data]; exact hx)
    rw [hx]
    have hw := next_ i (by omega)
    have e : Wd.allOf Wd.cap (x :: kt.drop (i + 1)) = (Wd.cap x.toNat && Wd.allOf Wd.cap (kt.drop (i + 1))) := by unfold Wd.allOf; rw [List.all_cons]
    rw [e]
    have hn := cap_iff x.toNat
    obtain ⟨n, hcn⟩ : ∃ n, x.toNat = n := ⟨_, rfl⟩
    rw [hcn] at hb hn ⊢
    obtain ⟨y, hy⟩ : ∃ y : Int, ((i + 1 : Nat) : Int) = y := ⟨_, rfl⟩
    have hnext := ih (i + 1) (by omega)
    rw [hy] at hw hnext
    cases hp : Wd.cap n with
    | true =>
      rw [Bool.true_and]
      have hn' := hn.1 hp
      clear hn hp ih
      refine Ev.step (fun k => ?_) hnext
      simp only [entrepotref03_Key.l1]
      rw [if_pos (by omega), if_pos (by omega), hb, hw]
      clear hb hw hnext hy hR
      rcases (show n < 48 ∨ (48 ≤ n ∧ n ≤ 57) ∨ (58 ≤ n ∧ n ≤ 64) ∨ (65 ≤ n ∧ n ≤ 90) ∨ (91 ≤ n ∧ n ≤ 94) ∨ n = 95 ∨ 96 ≤ n by omega) with h|h|h|h|h|h|h
      all_goals first | (exfalso; omega) | (repeat (first | rw [if_pos (by omega)] | rw [if_neg (by omega)]))
    | false =>
      rw [Bool.false_and, if_neg (by simp)]
      have hn' : ¬ ((65 ≤ n ∧ n ≤ 90) ∨ (48 ≤ n ∧ n ≤ 57) ∨ n = 95) := fun h => by rw [hn.2 h] at hp; cases hp
      clear hn hp ih
      refine Ev.one fun k => ?_
      simp only [entrepotref03_Key.l1]
      rw [if_pos (by omega), if_pos (by omega), hb, hw]
      clear hb hw hnext hy hR
      rcases (show n < 48 ∨ (48 ≤ n ∧ n ≤ 57) ∨ (58 ≤ n ∧ n ≤ 64) ∨ (65 ≤ n ∧ n ≤ 90) ∨ (91 ≤ n ∧ n ≤ 94) ∨ n = 95 ∨ 96 ≤ n by omega) with h|h|h|h|h|h|h
      all_goals first | (exfalso; omega) | (repeat (first | rw [if_pos (by omega)] | rw [if_neg (by omega)])) <;> rfl
theorem refKey_tail (s : ByteArray) (hs : s.size ≤ 1000000000) (b c : Nat) (hcb : c ≤ b) (hb : b ≤ s.size) (kt : List UInt8) :
    Ev (fun k => if (c : Int) < (b : Int) then ((entrepotref03_trimmed.f k s (wrap64 ((c : Int) + 1)) (b : Int)).bind fun bt135 => (if bt135.1 < bt135.2 then (some (S kt, bt135.1, bt135.2, true)) else (some (S kt, (b : Int), (b : Int), true)))) else (some (S kt, (b : Int), (b : Int), true)))
      ((S kt, ((Wd.value b (Wd.part s.data.toList (c + 1) b)).1 : Int), ((Wd.value b (Wd.part s.data.toList (c + 1) b)).2 : Int), true) : K4) := by
  by_cases h : c < b
  · simp only [if_pos (show (c : Int) < (b : Int) by omega), next_ c (by omega)]
    refine Ev.bind (refTrim s hs (c + 1) b (by omega) hb) ?_
    unfold twI
    simp only
    have hv : Wd.value b (Wd.part s.data.toList (c + 1) b) = if Wd.tL (Wd.part s.data.toList (c + 1) b) = [] then (b, b) else Wd.tw s.data.toList (c + 1) b := rfl
    have hn := Wd.tR_tL_nil (Wd.part s.data.toList (c + 1) b)
    have ht : (Wd.tw s.data.toList (c + 1) b).2 = (Wd.tw s.data.toList (c + 1) b).1 + (Wd.tR (Wd.tL (Wd.part s.data.toList (c + 1) b))).length := rfl
    by_cases hl : Wd.tL (Wd.part s.data.toList (c + 1) b) = []
    · rw [hv, if_pos hl]
      rw [hn.2 hl, List.length_nil, Nat.add_zero] at ht
      rw [ht, if_neg (by omega)]
      exact Ev.now _
    · rw [hv, if_neg hl]
      have hp : 0 < (Wd.tR (Wd.tL (Wd.part s.data.toList (c + 1) b))).length := List.length_pos_iff.2 (fun e => hl (hn.1 e))
      rw [if_pos (by omega)]
      exact Ev.now _
  · simp only [if_neg (show ¬ (c : Int) < (b : Int) by omega)]
    rw [Wd.part_nil _ _ _ (show b ≤ c + 1 by omega)]
    obtain ⟨v, hv⟩ : ∃ v, Wd.value b [] = v := ⟨_, rfl⟩
    have e : Wd.value b [] = (b, b) := rfl
    rw [e]
    exact Ev.now _
theorem refKey_j1 (s : ByteArray) (hs : s.size ≤ 1000000000) (a b c : Nat) (hac : a ≤ c) (hcb : c ≤ b) (hb : b ≤ s.size) :
    Ev (fun k => entrepotref03_Key.j1 k s (a : Int) (b : Int) (c : Int))
      (if Wd.okName Wd.cap (Wd.tB (Wd.part s.data.toList a c)) = true then (S (Wd.tB (Wd.part s.data.toList a c)), ((Wd.value b (Wd.part s.data.toList (c + 1) b)).1 : Int), ((Wd.value b (Wd.part s.data.toList (c + 1) b)).2 : Int), true) else none4) := by
  have htw := Wd.tw_le s.data.toList a c hac (show c ≤ s.size by omega)
  have htx := refTextF s _ _ htw.2.1 (by omega)
  rw [Wd.part_tw _ _ _ hac (show c ≤ s.size by omega)] at htx
  have hkl : (Wd.tB (Wd.part s.data.toList a c)).length ≤ s.size := by
    have h1 := Wd.tL_len (Wd.tR (Wd.part s.data.toList a c))
    have h2 := Wd.tR_len (Wd.part s.data.toList a c)
    rw [Wd.part_len _ _ _ (show c ≤ s.size by omega)] at h2
    unfold Wd.tB; omega
  have hl1 := refKey_l1 s b c (Wd.tB (Wd.part s.data.toList a c)) (by omega) _ (refKey_tail s hs b c hcb hb _) (Wd.tB (Wd.part s.data.toList a c)).length 0 (by omega)
  rw [List.drop_zero] at hl1
  generalize Wd.tB (Wd.part s.data.toList a c) = kt at htx hl1 hkl ⊢
  generalize ((S kt, ((Wd.value b (Wd.part s.data.toList (c + 1) b)).1 : Int), ((Wd.value b (Wd.part s.data.toList (c + 1) b)).2 : Int), true) : K4) = R at hl1 ⊢
  refine Ev.step (f := fun k => (entrepotref03_trimmed.f k s (a : Int) (c : Int)).bind fun bt131 => ((entrepotref03_Text.f s bt131.1 bt131.2).bind fun t133 => (if t133.toList = ([] : List UInt8) then (entrepotref03_Key.j2 k s (b : Int) (c : Int) t133 true) else (entrepotref03_Key.j2 k s (b : Int) (c : Int) t133 (decide ((t133.size : Int) > 40)))))) (fun k => by simp only [entrepotref03_Key.j1]) ?_
  refine Ev.bind (refTrim s hs a c hac (by omega)) ?_
  unfold twI
  simp only [htx, Option.bind_some]
  have e0 : ((S kt).toList = []) ↔ kt = [] := by
    rw [ByteArray.toList_eq]
    rw [S_data]
  have hz : (S kt).size = kt.length := S_size kt
  by_cases hk : kt = []
  · simp only [if_pos (e0.2 hk)]
    rw [if_neg (by rw [hk]; simp [Wd.okName])]
    exact Ev.one fun k => by simp only [entrepotref03_Key.j2]; rfl
  · simp only [if_neg (fun e => hk (e0.1 e))]
    by_cases h40 : kt.length ≤ 40
    · have e : Wd.okName Wd.cap kt = Wd.allOf Wd.cap kt := by
        unfold Wd.okName
        rw [decide_eq_true h40, Bool.and_true, show kt.isEmpty = false from List.isEmpty_eq_false_iff.2 hk]; simp
      rw [e]
      refine Ev.step (fun k => ?_) hl1
      simp only [entrepotref03_Key.j2]
      rw [if_neg (by rw [hz]; simp; omega)]; rfl
    · rw [if_neg (by unfold Wd.okName; rw [decide_eq_false h40]; simp)]
      exact Ev.one fun k => by simp only [entrepotref03_Key.j2]; rw [if_pos (by rw [hz]; simp; omega)]; rfl
theorem refKey_l0 (s : ByteArray) (hs : s.size ≤ 1000000000) (a b : Nat) (hb : b ≤ s.size) (R : K4) (d : Nat) : ∀ i : Nat, i + d = b →
    Ev (fun k => entrepotref03_Key.j1 k s (a : Int) (b : Int) ((i + Wd.colon s.data.toList i b : Nat) : Int)) R → Ev (fun k => entrepotref03_Key.l0 k s (a : Int) (b : Int) (i : Int)) R := by
  induction d with
  | zero =>
    intro i hi h
    rw [Wd.colon_end _ _ _ (by omega), Nat.add_zero] at h
    refine Ev.step (fun k => ?_) h
    simp only [entrepotref03_Key.l0]
    rw [if_neg (by omega)]
  | succ d ih =>
    intro i hi h
    obtain ⟨c, hc⟩ : ∃ c, s.data.toList.getD i 0 = c := ⟨_, rfl⟩
    have hbt := bt_is s i c hc
    by_cases h58 : c = 58
    · rw [Wd.colon_here _ _ _ (by omega) (show b ≤ s.size from hb) (by rw [hc]; exact h58), Nat.add_zero] at h
      refine Ev.step (fun k => ?_) h
      simp only [entrepotref03_Key.l0]
      rw [if_pos (by omega), if_pos (by omega), if_pos (by omega), if_pos (by rw [hbt, h58]; rfl)]
    · rw [Wd.colon_on _ _ _ (by omega) (show b ≤ s.size from hb) (by rw [hc]; exact h58), show i + (Wd.colon s.data.toList (i + 1) b + 1) = i + 1 + Wd.colon s.data.toList (i + 1) b by omega] at h
      refine Ev.step (fun k => ?_) (ih (i + 1) (by omega) h)
      simp only [entrepotref03_Key.l0]
      rw [if_pos (by omega), if_pos (by omega), if_pos (by omega), if_neg (by rw [hbt]; intro e; exact h58 (UInt8.toNat_inj.1 (by show c.toNat = 58; omega))), next_ i (by omega)]
def key4 (s : ByteArray) (a b : Nat) : K4 := (S (Wd.key s.data.toList a b).1, ((Wd.key s.data.toList a b).2.1 : Int), ((Wd.key s.data.toList a b).2.2.1 : Int), (Wd.key s.data.toList a b).2.2.2)
theorem refKey (s : ByteArray) (hs : s.size ≤ 1000000000) (a b : Nat) (hab : a ≤ b) (hb : b ≤ s.size) : Ev (fun k => entrepotref03_Key.f k s (a : Int) (b : Int)) (key4 s a b) := by
  have hc := Wd.colon_le s.data.toList a b hb
  have h1 := refKey_j1 s hs a b (a + Wd.colon s.data.toList a b) (by omega) (by omega) hb
  have h0 := refKey_l0 s hs a b hb _ (b - a) a (by omega) h1
  have e : key4 s a b = (if Wd.okName Wd.cap (Wd.tB (Wd.part s.data.toList a (a + Wd.colon s.data.toList a b))) = true then (S (Wd.tB (Wd.part s.data.toList a (a + Wd.colon s.data.toList a b))), ((Wd.value b (Wd.part s.data.toList (a + Wd.colon s.data.toList a b + 1) b)).1 : Int), ((Wd.value b (Wd.part s.data.toList (a + Wd.colon s.data.toList a b + 1) b)).2 : Int), true) else none4) := by
    unfold key4 Wd.key
    rw [Wd.cutK_part _ _ _ hab hb]
    simp only
    split <;> rfl
  rw [e]
  refine Ev.congr (fun k => ?_) h0
  unfold entrepotref03_Key.f
  rw [placesF s a b hab hb, Option.bind_some, if_pos rfl]
theorem refKey_not (s : ByteArray) (a b : Int) (h : ¬ (0 ≤ a ∧ a ≤ b ∧ b ≤ (s.size : Int))) (k : Nat) : entrepotref03_Key.f k s a b = some none4 := by
  unfold entrepotref03_Key.f entrepotref03_places.f
  by_cases h1 : a ≥ 0
  · rw [if_pos h1]
    by_cases h2 : a ≤ b
    · rw [if_pos h2, decide_eq_false (by omega)]; rfl
    · rw [if_neg h2]; rfl
  · rw [if_neg h1]; rfl
theorem keyF (s : ByteArray) (hs : s.size ≤ 140737488351232) (a b : Nat) (hab : a ≤ b) (hb : b ≤ s.size) : words_Key.f s (a : Int) (b : Int) = some (key4 s a b) := by
  unfold words_Key.f
  rw [if_pos hs, if_pos (by omega), Int.toNat_natCast, Int.toNat_natCast]; rfl
theorem keyF_not (s : ByteArray) (hs : s.size ≤ 140737488351232) (a b : Int) (h : ¬ (0 ≤ a ∧ a ≤ b ∧ b ≤ (s.size : Int))) : words_Key.f s a b = some none4 := by
  unfold words_Key.f
  rw [if_pos hs, if_neg h]; rfl
theorem WordsKeys : entrepotlaw03_WordsKeys.Pure := by
  intro s a b hs _ _
  have hj : ∀ k, entrepotlaw03_WordsKeys.j0 (k + 1) s a b true = some true := fun k => by
    simp only [entrepotlaw03_WordsKeys.j0]
    rw [if_pos trivial, shown_ev]; rfl
  by_cases h : (s.size : Int) > 1000
  · exact ⟨1, by unfold entrepotlaw03_WordsKeys.f; rw [if_pos h]; exact hj 0⟩
  · have hs' : s.size ≤ 1000000000 := by omega
    refine Ev.rounds (g := fun k => entrepotlaw03_WordsKeys.f k s a b) ?_
    unfold entrepotlaw03_WordsKeys.f
    simp only [if_neg h, shown_ev, Option.bind_some, Bool.not_true]
    have key : ∃ R : K4, words_Key.f s a b = some R ∧ Ev (fun k => entrepotref03_Key.f k s a b) R := by
      by_cases hp : 0 ≤ a ∧ a ≤ b ∧ b ≤ (s.size : Int)
      · obtain ⟨a, rfl⟩ := Int.eq_ofNat_of_zero_le hp.1
        obtain ⟨b, rfl⟩ := Int.eq_ofNat_of_zero_le (show 0 ≤ b by omega)
        exact ⟨_, keyF s hs a b (by omega) (by omega), refKey s hs' a b (by omega) (by omega)⟩
      · exact ⟨_, keyF_not s hs a b hp, ⟨0, fun k _ => refKey_not s a b hp k⟩⟩
    obtain ⟨R, h1, h2⟩ := key
    refine Ev.step (f := fun k => (words_Key.f s a b).bind fun bt140 => ((entrepotref03_Key.f k s a b).bind fun bt145 => (if bt140.1.toList = bt145.1.toList then (if (bt140.2.1 == bt145.2.1 && (bt140.2.2.1 == bt145.2.2.1)) = true then (some (bt140.2.2.2 == bt145.2.2.2)) else (some false)) else (some false)))) (fun k => by simp only [entrepotlaw03_WordsKeys.j0]; rw [if_neg (by simp)]) ?_
    rw [h1]
    simp only [Option.bind_some]
    refine Ev.bind h2 ?_
    simp only [if_true, BEq.rfl, Bool.and_self]
    exact Ev.now _
end Go.Proofs.YtbbkchifbinioaaDoor.Evs
