/- The laws WordsTells and WordsUpper, in plain Lean. Conditions: none (beyond the printed laws' own). -/
import Derived.Test.YtbbkchifbinioaaDoorPAllx12
namespace Go.Proofs.YtbbkchifbinioaaDoor.Evs
set_option linter.unusedVariables false
set_option linter.unusedSimpArgs false
open Go.RowKit Go.Proofs.YtbbkchifbinioaaDoor.PAll Go.Proofs.YtbbkchifbinioaaDoorW.PrintWords Go.Proofs.YtbbkchifbinioaaDoorW.PrintLast

theorem bt_get (s : ByteArray) (n : Nat) : bt s (n : Int) = ((s.data.toList.getD n 0).toNat : Int) := by
  rw [← rd_bytesOf]; unfold rd bytesOf
  rw [Int.toNat_natCast, List.getD_eq_getElem?_getD, List.getD_eq_getElem?_getD, List.getElem?_map]
  cases s.data.toList[n]? <;> simp
theorem w64 (n : Int) (h0 : -9223372036854775808 ≤ n) (h1 : n ≤ 9223372036854775807) : wrap64 n = n := IntWalk.wrap64_in n ⟨h0, h1⟩
theorem shown_ev : entrepotlaw03_shown.f = some true := by decide +kernel
theorem drop_c (s : ByteArray) (i : Nat) (h : i < s.size) : s.data.toList.drop i = s.data.toList.getD i 0 :: s.data.toList.drop (i + 1) := by
  have h' : i < s.data.toList.length := h
  rw [List.drop_eq_getElem_cons h', List.getD_eq_getElem?_getD, List.getElem?_eq_getElem h']; rfl

theorem refPlain_l (s : ByteArray) (hs : s.size ≤ 1000000000) (j : Nat) : ∀ i : Nat, i + j = s.size → Ev (fun k => entrepotref03_Plain.l0 k s (i : Int)) (Wd.allOf Wd.pln (s.data.toList.drop i)) := by
  induction j with
  | zero =>
    intro i hi
    refine ⟨1, fun k hk => ?_⟩
    obtain ⟨m, rfl⟩ : ∃ m, k = m + 1 := ⟨k - 1, by omega⟩
    simp only [entrepotref03_Plain.l0]
    rw [if_neg (by omega), List.drop_of_length_le (by show s.size ≤ i; omega)]; rfl
  | succ j ih =>
    intro i hi
    rw [drop_c s i (by omega)]
    have hb := bt_get s i
    obtain ⟨c, hc⟩ : ∃ c, s.data.toList.getD i 0 = c := ⟨_, rfl⟩
    rw [hc] at hb ⊢
    have hw : wrap64 ((i : Int) + 1) = ((i + 1 : Nat) : Int) := by rw [w64 _ (by omega) (by omega)]; omega
    have e : Wd.allOf Wd.pln (c :: s.data.toList.drop (i + 1)) = (Wd.pln c.toNat && Wd.allOf Wd.pln (s.data.toList.drop (i + 1))) := by unfold Wd.allOf; rw [List.all_cons]
    rw [e]
    by_cases hp : 32 ≤ c.toNat ∧ c.toNat ≤ 126
    · rw [show Wd.pln c.toNat = true by unfold Wd.pln; simp; exact hp, Bool.true_and]
      refine Ev.step (fun k => ?_) (ih (i + 1) (by omega))
      simp only [entrepotref03_Plain.l0]
      rw [if_pos (by omega), if_pos (by omega), if_neg (by omega), if_neg (by omega), hw]
    · rw [show Wd.pln c.toNat = false by unfold Wd.pln; simp; omega, Bool.false_and]
      refine ⟨1, fun k hk => ?_⟩
      obtain ⟨m, rfl⟩ : ∃ m, k = m + 1 := ⟨k - 1, by omega⟩
      simp only [entrepotref03_Plain.l0]
      rw [if_pos (by omega), if_pos (by omega)]
      by_cases h1 : bt s (i : Int) < 32
      · rw [if_pos h1]
      · rw [if_neg h1, if_pos (by omega)]
theorem refPlain (s : ByteArray) (hs : s.size ≤ 1000000000) : Ev (fun k => entrepotref03_Plain.f k s) (Wd.allOf Wd.pln s.data.toList) := refPlain_l s hs s.size 0 (by omega)

theorem nam_iff (n : Nat) : Wd.nam n = true ↔ (65 ≤ n ∧ n ≤ 90) ∨ (48 ≤ n ∧ n ≤ 57) ∨ n = 95 ∨ (97 ≤ n ∧ n ≤ 122) ∨ n = 46 ∨ n = 45 := by
  unfold Wd.nam Wd.cap; simp only [Bool.or_eq_true, Bool.and_eq_true, decide_eq_true_eq, beq_iff_eq]; omega
theorem refName_l (s : ByteArray) (hs : s.size ≤ 1000000000) (j : Nat) : ∀ i : Nat, i + j = s.size → Ev (fun k => entrepotref03_Name.l0 k s (i : Int)) (Wd.allOf Wd.nam (s.data.toList.drop i) && decide (1 ≤ s.size) && decide (s.size ≤ 40)) := by
  induction j with
  | zero =>
    intro i hi
    refine ⟨1, fun k hk => ?_⟩
    obtain ⟨m, rfl⟩ : ∃ m, k = m + 1 := ⟨k - 1, by omega⟩
    simp only [entrepotref03_Name.l0]
    rw [if_neg (by omega), List.drop_of_length_le (by show s.size ≤ i; omega)]
    by_cases h : 1 ≤ s.size
    · rw [if_pos (by omega), decide_eq_true h, show decide ((s.size : Int) ≤ 40) = decide (s.size ≤ 40) by rw [decide_eq_decide]; omega]; simp [Wd.allOf]
    · rw [if_neg (by omega), decide_eq_false h]; simp
  | succ j ih =>
    intro i hi
    rw [drop_c s i (by omega)]
    have hb := bt_get s i
    obtain ⟨c, hc⟩ : ∃ c, s.data.toList.getD i 0 = c := ⟨_, rfl⟩
    rw [hc] at hb ⊢
    have hw : wrap64 ((i : Int) + 1) = ((i + 1 : Nat) : Int) := by rw [w64 _ (by omega) (by omega)]; omega
    have e : Wd.allOf Wd.nam (c :: s.data.toList.drop (i + 1)) = (Wd.nam c.toNat && Wd.allOf Wd.nam (s.data.toList.drop (i + 1))) := by unfold Wd.allOf; rw [List.all_cons]
    rw [e]
    have hn := nam_iff c.toNat
    obtain ⟨n, hcn⟩ : ∃ n, c.toNat = n := ⟨_, rfl⟩
    rw [hcn] at hb hn ⊢
    obtain ⟨y, hy⟩ : ∃ y : Int, ((i + 1 : Nat) : Int) = y := ⟨_, rfl⟩
    have hnext := ih (i + 1) (by omega)
    rw [hy] at hw hnext
    cases hp : Wd.nam n with
    | true =>
      rw [Bool.true_and]
      have hn' := hn.1 hp
      clear hn hp ih
      refine Ev.step (fun k => ?_) hnext
      simp only [entrepotref03_Name.l0]
      rw [if_pos (by omega), if_pos (by omega), hb, hw]
      clear hb hw hnext hy
      rcases (show n < 45 ∨ n = 45 ∨ n = 46 ∨ n = 47 ∨ (48 ≤ n ∧ n ≤ 57) ∨ (58 ≤ n ∧ n ≤ 64) ∨ (65 ≤ n ∧ n ≤ 90) ∨ (91 ≤ n ∧ n ≤ 94) ∨ n = 95 ∨ n = 96 ∨ (97 ≤ n ∧ n ≤ 122) ∨ 123 ≤ n by omega) with h|h|h|h|h|h|h|h|h|h|h|h
      all_goals first | (exfalso; omega) | (repeat (first | rw [if_pos (by omega)] | rw [if_neg (by omega)]))
    | false =>
      rw [Bool.false_and, Bool.false_and, Bool.false_and]
      have hn' : ¬ ((65 ≤ n ∧ n ≤ 90) ∨ (48 ≤ n ∧ n ≤ 57) ∨ n = 95 ∨ (97 ≤ n ∧ n ≤ 122) ∨ n = 46 ∨ n = 45) := fun h => by rw [hn.2 h] at hp; cases hp
      clear hn hp ih
      refine ⟨1, fun k hk => ?_⟩
      obtain ⟨m, rfl⟩ : ∃ m, k = m + 1 := ⟨k - 1, by omega⟩
      simp only [entrepotref03_Name.l0]
      rw [if_pos (by omega), if_pos (by omega), hb, hw]
      clear hb hw hnext hy
      rcases (show n < 45 ∨ n = 45 ∨ n = 46 ∨ n = 47 ∨ (48 ≤ n ∧ n ≤ 57) ∨ (58 ≤ n ∧ n ≤ 64) ∨ (65 ≤ n ∧ n ≤ 90) ∨ (91 ≤ n ∧ n ≤ 94) ∨ n = 95 ∨ n = 96 ∨ (97 ≤ n ∧ n ≤ 122) ∨ 123 ≤ n by omega) with h|h|h|h|h|h|h|h|h|h|h|h
      all_goals first | (exfalso; omega) | (repeat (first | rw [if_pos (by omega)] | rw [if_neg (by omega)]))
theorem refName (s : ByteArray) (hs : s.size ≤ 1000000000) : Ev (fun k => entrepotref03_Name.f k s) (Wd.okName Wd.nam s.data.toList) := by
  have := refName_l s hs s.size 0 (by omega)
  rw [List.drop_zero] at this
  have e : Wd.okName Wd.nam s.data.toList = (Wd.allOf Wd.nam s.data.toList && decide (1 ≤ s.size) && decide (s.size ≤ 40)) := by
    unfold Wd.okName
    have h1 : (!s.data.toList.isEmpty) = decide (1 ≤ s.size) := by
      have hl : s.data.toList.length = s.size := rfl
      cases h : s.data.toList with
      | nil => rw [h] at hl; simp at hl; simp [← hl]
      | cons c l => rw [h] at hl; simp at hl; simp; omega
    rw [h1, size_len]
  rw [e]; exact this
theorem nameF (s : ByteArray) (hs : s.size ≤ 1000000000) : words_Name.f s = some (Wd.okName Wd.nam s.data.toList) := by unfold words_Name.f; rw [if_pos (by omega)]
theorem plainF (s : ByteArray) (hs : s.size ≤ 1000000000) : words_Plain.f s = some (Wd.allOf Wd.pln s.data.toList) := by unfold words_Plain.f; rw [if_pos (by omega)]
theorem upperF (s : ByteArray) (hs : s.size ≤ 1000000000) : words_Upper.f s = some (S (Wd.upper s.data.toList)) := by unfold words_Upper.f; rw [if_pos (by omega)]
theorem refUpperF (s : ByteArray) (hs : s.size ≤ 1000000000) : entrepotref03_Upper.f s = some (S (Wd.upper s.data.toList)) := by unfold entrepotref03_Upper.f; rw [if_pos (by omega)]

theorem WordsTells : entrepotlaw03_WordsTells.Pure := by
  intro s hs
  by_cases h : (s.size : Int) > 1000
  · refine ⟨1, ?_⟩
    unfold entrepotlaw03_WordsTells.f
    rw [if_pos h]
    simp only [entrepotlaw03_WordsTells.j0]
    rw [if_pos trivial, shown_ev]; rfl
  · have hs' : s.size ≤ 1000000000 := by omega
    refine Ev.rounds (g := fun k => entrepotlaw03_WordsTells.f k s) ?_
    unfold entrepotlaw03_WordsTells.f
    simp only [if_neg h, shown_ev, Option.bind_some, Bool.not_true]
    have key : Ev (fun k => ((words_Upper.f s).bind fun t235 => ((entrepotref03_Upper.f s).bind fun t236 => (if t235.toList = t236.toList then ((words_Name.f s).bind fun t237 => ((entrepotref03_Name.f k s).bind fun t238 => (if (t237 == t238) = true then ((words_Plain.f s).bind fun t239 => ((entrepotref03_Plain.f k s).bind fun t240 => (some (t239 == t240)))) else (some false)))) else (some false))))) true := by
      rw [upperF s hs', refUpperF s hs', nameF s hs', plainF s hs']
      simp only [Option.bind_some, if_true]
      refine Ev.bind (refName s hs') ?_
      simp only [BEq.rfl, if_true]
      refine Ev.bind (refPlain s hs') ?_
      simp only [BEq.rfl]
      exact Ev.now _
    refine Ev.step (fun k => ?_) key
    simp only [entrepotlaw03_WordsTells.j0]
    rw [if_neg (by simp)]

theorem up_up (c : UInt8) : Wd.up (Wd.up c) = Wd.up c := by
  unfold Wd.up
  by_cases h : 97 ≤ c.toNat ∧ c.toNat ≤ 122
  · rw [if_pos h, if_neg (by rw [UInt8.toNat_ofNat', Nat.mod_eq_of_lt (by omega)]; omega)]
  · rw [if_neg h, if_neg h]
theorem nam_up (c : UInt8) : Wd.nam (Wd.up c).toNat = Wd.nam c.toNat := by
  unfold Wd.up
  by_cases h : 97 ≤ c.toNat ∧ c.toNat ≤ 122
  · rw [if_pos h, UInt8.toNat_ofNat', Nat.mod_eq_of_lt (by omega), (nam_iff _).2 (by omega), (nam_iff _).2 (by omega)]
  · rw [if_neg h]
theorem pln_up (c : UInt8) : Wd.pln (Wd.up c).toNat = Wd.pln c.toNat := by
  unfold Wd.up
  by_cases h : 97 ≤ c.toNat ∧ c.toNat ≤ 122
  · rw [if_pos h, UInt8.toNat_ofNat', Nat.mod_eq_of_lt (by omega)]
    unfold Wd.pln
    rw [Bool.eq_iff_iff]; simp; omega
  · rw [if_neg h]
theorem all_upper (K : Nat → Bool) (hK : ∀ c, K (Wd.up c).toNat = K c.toNat) (l : List UInt8) : Wd.allOf K (Wd.upper l) = Wd.allOf K l := by
  unfold Wd.allOf Wd.upper
  rw [List.all_map]
  congr 1
  funext c
  exact hK c
theorem ok_upper (l : List UInt8) : Wd.okName Wd.nam (Wd.upper l) = Wd.okName Wd.nam l := by
  unfold Wd.okName
  rw [all_upper _ nam_up]
  unfold Wd.upper
  rw [List.length_map]
  cases l <;> rfl
theorem nam_pln (l : List UInt8) (h : Wd.okName Wd.nam l = true) : Wd.allOf Wd.pln l = true := by
  unfold Wd.okName at h
  rw [Bool.and_eq_true, Bool.and_eq_true] at h
  have h := h.1.1
  unfold Wd.allOf at h ⊢
  rw [List.all_eq_true] at h ⊢
  intro c hc
  have := (nam_iff _).1 (h c hc)
  unfold Wd.pln; simp; omega
theorem WordsUpper : entrepotlaw03_WordsUpper.Pure := by
  intro s hs
  by_cases h : (s.size : Int) > 1000
  · refine ⟨1, ?_⟩
    unfold entrepotlaw03_WordsUpper.f
    rw [if_pos h]
    simp only [entrepotlaw03_WordsUpper.j0]
    rw [if_pos trivial, shown_ev]; rfl
  · have hs' : s.size ≤ 1000000000 := by omega
    have hul : (Wd.upper s.data.toList).length = s.size := by unfold Wd.upper; rw [List.length_map]; rfl
    have huu : Wd.upper (Wd.upper s.data.toList) = Wd.upper s.data.toList := by
      unfold Wd.upper
      rw [List.map_map]
      refine List.map_congr_left fun c _ => ?_
      exact up_up c
    have z : (S (Wd.upper s.data.toList)).size = s.size := by rw [S_size, hul]
    refine ⟨1, ?_⟩
    unfold entrepotlaw03_WordsUpper.f
    rw [if_neg h, shown_ev, Option.bind_some]
    simp only [entrepotlaw03_WordsUpper.j0, Bool.not_true]
    rw [if_neg (by simp), upperF s hs', Option.bind_some, upperF _ (by rw [z]; exact hs'), Option.bind_some, S_data, huu, if_pos rfl, if_pos (by rw [z]), nameF _ (by rw [z]; exact hs'), Option.bind_some, nameF s hs', Option.bind_some, S_data, ok_upper, if_pos (by simp), plainF _ (by rw [z]; exact hs'), Option.bind_some, plainF s hs', Option.bind_some, S_data, all_upper _ pln_up, if_pos (by simp), Option.bind_some]
    by_cases hk : Wd.okName Wd.nam s.data.toList = true
    · rw [if_pos hk, Option.bind_some, nam_pln _ hk]
    · rw [if_neg hk]
end Go.Proofs.YtbbkchifbinioaaDoor.Evs
