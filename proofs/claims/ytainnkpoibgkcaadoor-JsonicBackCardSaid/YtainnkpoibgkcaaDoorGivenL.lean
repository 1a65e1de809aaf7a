/- jsonic's machine: its tokens as the plain functions have them. Conditions: the machine lies as told; the listed variables too. -/
import Derived.Test.YtainnkpoibgkcaaDoorGivenK
namespace Go.Proofs.YtainnkpoibgkcaaDoor
set_option linter.unusedVariables false
set_option linter.unusedSimpArgs false
open Go.RowKit Go.Proofs.YtainnkpoibgkcaaDoor.PAll Go.Proofs.YtainnkpoibgkcaaDoorW.PrintWords Go.Proofs.YtainnkpoibgkcaaDoorW.PrintLast

/-- The machine, with this left of its text. -/
def ML (w : World) (base B : Nat) (s : ByteArray) (l st : List UInt8) (its : List S38) : Prop :=
  ∃ q, q ≤ s.size ∧ s.data.toList.drop q = l ∧ its.length ≤ q ∧ st.length ≤ 16 ∧ (∀ e ∈ st, e = 93 ∨ e = 125) ∧ MS w base B s q st its 0 0
def BPost (w : World) (base B : Nat) (s : ByteArray) (r : Js.R) (e : Ending) (w' : World) : Prop := match r with
  | .go _ l st its => e = .returned (.bool true) ∧ ML w' base B s l st its ∧ Below base w w'
  | .bad a c => e = .returned (.bool false) ∧ (∃ q st its, MS w' base B s q st its a c) ∧ Below base w w'
def RPost (w : World) (base B : Nat) (s : ByteArray) (r : Js.R) (e : Ending) (w' : World) : Prop := match r with
  | .go wt l st its => e = .returned (.tuple #[.int .i64 wt, .bool true]) ∧ ML w' base B s l st its ∧ Below base w w'
  | .bad a c => (∃ x : Int, e = .returned (.tuple #[.int .i64 x, .bool false])) ∧ (∃ q st its, MS w' base B s q st its a c) ∧ Below base w w'
theorem pl_drop (s : ByteArray) (q : Nat) (hq : q ≤ s.size) : Js.pl s.size (s.data.toList.drop q) = (q : Int) := by
  unfold Js.pl; rw [List.length_drop, size_len]; omega
/-- A suffix of the text, by its place. -/
theorem drop_of_suffix {s : ByteArray} {l : List UInt8} (h : l <:+ s.data.toList) : l.length ≤ s.size ∧ s.data.toList.drop (s.size - l.length) = l := by
  have h1 := List.suffix_iff_eq_drop.1 h
  have h2 := h.length_le
  rw [size_len] at h1 h2
  exact ⟨h2, h1.symm⟩
section
variable {w : World} {base B q : Nat} {s : ByteArray} {st : List UInt8} {its : List S38}
theorem number_b (h : MS w base B s q st its 0 0) (HT : Tab w) (hq : q ≤ s.size) (hs : s.size ≤ 1000000000) (hil : its.length ≤ q) (hst : st.length ≤ 16) (hen : ∀ e ∈ st, e = 93 ∨ e = 125) :
    Calls Tryd.prog 40 #[.pointer (some ⟨B, 0, none⟩)] w fun e w' => BPost w base B s (Js.number s.size (s.data.toList.drop q) st its) e w' := by
  refine (number_ms h HT hq hs (by omega)).mono ?_
  intro e w' hh
  unfold Js.number
  cases hn : Js.num (Js.digs (s.data.toList.drop q)) with
  | none =>
    rw [hn] at hh
    exact ⟨hh.1, ⟨q, st, its, by rw [pl_drop s q hq]; exact hh.2.1⟩, hh.2.2⟩
  | some k =>
    rw [hn] at hh
    have h1 := Js.digs_le (s.data.toList.drop q)
    have h0 : 1 ≤ (Js.digs (s.data.toList.drop q)).length := by
      cases hd : Js.digs (s.data.toList.drop q) with
      | nil => rw [hd] at hn; cases hn
      | cons c r => simp
    rw [List.length_drop, size_len] at h1
    refine ⟨hh.1, ⟨q + (Js.digs (s.data.toList.drop q)).length, by omega, ?_, ?_, hst, hen, ?_⟩, hh.2.2⟩
    · rw [List.drop_drop]
    · rw [List.length_append, List.length_singleton]; omega
    · rw [pl_drop s q hq]; exact hh.2.1
theorem text_b (h : MS w base B s q st its 0 0) (hq : q < s.size) (hs : s.size ≤ 1000000000) (hil : its.length ≤ q) (hst : st.length ≤ 16) (hen : ∀ e ∈ st, e = 93 ∨ e = 125) (kd : Int) :
    Calls Tryd.prog 38 #[.pointer (some ⟨B, 0, none⟩), .int .i64 kd] w fun e w' => BPost w base B s (Js.text s.size kd (s.data.toList.drop q) (s.data.toList.drop (q + 1)) st its) e w' := by
  refine (text_ms h hq hs (by omega) kd).mono ?_
  intro e w' hh
  unfold Js.text
  cases hn : Js.txt (s.data.toList.drop (q + 1)) [] with
  | ok t rest =>
    rw [hn] at hh
    obtain ⟨h1, h2⟩ := Js.txt_rest _ _ _ (Nat.le_refl _) hn
    obtain ⟨h3, h4⟩ := drop_of_suffix (h1.trans (List.drop_suffix _ _))
    rw [List.length_drop, size_len] at h2
    refine ⟨hh.1, ⟨s.size - rest.length, by omega, h4, ?_, hst, hen, ?_⟩, hh.2.2⟩
    · rw [List.length_append, List.length_singleton]; omega
    · rw [pl_drop s q (by omega)]; exact hh.2.1
  | bad rest =>
    rw [hn] at hh
    obtain ⟨p', hp'⟩ := hh.2.1
    exact ⟨hh.1, ⟨p', st, its, hp'⟩, hh.2.2⟩
theorem begin_r (h : MS w base B s q st its 0 0) (hq : q < s.size) (hs : s.size ≤ 1000000000) (hil : its.length ≤ q) (hst : st.length ≤ 16) (hen : ∀ e ∈ st, e = 93 ∨ e = 125) (c : UInt8) (hc : c = 91 ∨ c = 123) :
    Calls Tryd.prog 39 #[.pointer (some ⟨B, 0, none⟩), .int .u8 (c.toNat : Int)] w fun e w' => RPost w base B s (Js.begin_ s.size c (s.data.toList.drop q) (s.data.toList.drop (q + 1)) st its) e w' := by
  unfold Js.begin_
  by_cases h16 : st.length = 16
  · rw [if_pos h16]
    refine (begin_deep h h16 _).mono ?_
    rintro e w' ⟨rfl, h1, h2⟩
    exact ⟨⟨0, rfl⟩, ⟨q, st, its, by rw [pl_drop s q (by omega)]; exact h1⟩, h2⟩
  · rw [if_neg h16]
    have h1 := Js.skip_le (s.data.toList.drop (q + 1))
    obtain ⟨h3, h4⟩ := drop_of_suffix ((Js.skip_suffix (s.data.toList.drop (q + 1))).trans (List.drop_suffix _ _))
    rw [List.length_drop, size_len] at h1
    refine (begin_ms h (by omega) hq hs (by omega) c hc (s.size - (Js.skip (s.data.toList.drop (q + 1))).length) (by omega)).mono ?_
    rintro e w' ⟨rfl, h5, h6⟩
    refine ⟨rfl, ⟨s.size - (Js.skip (s.data.toList.drop (q + 1))).length, by omega, h4, ?_, ?_, fun e he => ?_, ?_⟩, h6⟩
    · rw [List.length_append, List.length_singleton]; omega
    · simp; omega
    · rcases List.mem_cons.1 he with rfl | he
      · unfold Js.enOf; split <;> simp
      · exact hen e he
    · rw [pl_drop s q (by omega)]; exact h5
/-- What a peek leaves. -/
theorem peek_l (h : MS w base B s q st its 0 0) (hq : q ≤ s.size) (hs : s.size ≤ 1000000000) : ∃ q', q ≤ q' ∧ q' ≤ s.size ∧ s.data.toList.drop q' = Js.skip (s.data.toList.drop q) ∧
    Calls Tryd.prog 27 #[.pointer (some ⟨B, 0, none⟩)] w fun e w' => e = .returned (.int .u8 (Js.hd (s.data.toList.drop q'))) ∧ MS w' base B s q' st its 0 0 ∧ Below base w w' := by
  have h1 := Js.skip_le (s.data.toList.drop q)
  obtain ⟨h3, h4⟩ := drop_of_suffix ((Js.skip_suffix (s.data.toList.drop q)).trans (List.drop_suffix _ _))
  rw [List.length_drop, size_len] at h1
  refine ⟨s.size - (Js.skip (s.data.toList.drop q)).length, by omega, by omega, h4, ?_⟩
  rw [h4]
  exact peek_ms h hq hs _ (by omega)
theorem hd_ne {c : UInt8} {r : List UInt8} {k : UInt8} (h : c ≠ k) : (Js.hd (c :: r) == (k.toNat : Int)) = false := by
  have : c.toNat ≠ k.toNat := fun e => h (UInt8.toNat_inj.1 e)
  show ((c.toNat : Int) == (k.toNat : Int)) = false
  simp; omega
/-- Where the text goes on. -/
theorem drop_cons {c : UInt8} {r : List UInt8} (h : s.data.toList.drop q = c :: r) : q < s.size ∧ s.data.toList.drop (q + 1) = r := by
  have hlt : q < s.size := by
    rcases Nat.lt_or_ge q s.size with h' | h'
    · exact h'
    · rw [List.drop_eq_nil_of_le (by rw [size_len]; exact h')] at h; cases h
  refine ⟨hlt, ?_⟩
  rw [← List.drop_drop, h]; rfl
theorem number_want {N : Nat} {l : List UInt8} {wt : Int} {l' st' : List UInt8} {its' : List S38} (h : Js.number N l st its = .go wt l' st' its') : wt = 2 := by
  unfold Js.number at h; split at h <;> cases h; rfl
theorem text_want {N : Nat} {kd : Int} {l r : List UInt8} {wt : Int} {l' st' : List UInt8} {its' : List S38} (h : Js.text N kd l r st its = .go wt l' st' its') : wt = 2 := by
  unfold Js.text at h; split at h <;> cases h; rfl
theorem value_r {l : List UInt8} (h : ML w base B s l st its) (HT : Tab w) (hs : s.size ≤ 1000000000) (hbg : ∀ w', Below base w w' → Tab w') :
    Calls Tryd.prog 24 #[.pointer (some ⟨B, 0, none⟩)] w fun e w' => RPost w base B s (Js.value s.size l st its) e w' := by
  obtain ⟨q, hq, rfl, hi, hst, hen, hM⟩ := h
  obtain ⟨q', hqq, hq', hsk, hpk⟩ := peek_l hM hq hs
  unfold Js.value
  rw [← hsk]
  have hnum : (Js.hd (s.data.toList.drop q') == 34) = false → (Js.hd (s.data.toList.drop q') == 91) = false → (Js.hd (s.data.toList.drop q') == 123) = false →
      Calls Tryd.prog 24 #[.pointer (some ⟨B, 0, none⟩)] w fun e w' => RPost w base B s (Js.number s.size (s.data.toList.drop q') st its) e w' := by
    intro h1 h2 h3
    cases hR : Js.number s.size (s.data.toList.drop q') st its with
    | go wt l' st' its' =>
      refine (value_num (b := true) (Q := fun W w' => ML w' base B s l' st' its' ∧ Below base W w') hpk h1 h2 h3 (fun W hP => ?_)).mono ?_
      · refine (number_b hP.1 (hbg _ hP.2) hq' hs (by omega) hst hen).mono ?_
        intro e w' hh; rw [hR] at hh; exact hh
      · rintro e w' ⟨rfl, W, hP, hQ⟩
        rw [number_want hR]
        exact ⟨rfl, hQ.1, hP.2.trans hQ.2⟩
    | bad a c =>
      refine (value_num (b := false) (Q := fun W w' => (∃ q st its, MS w' base B s q st its a c) ∧ Below base W w') hpk h1 h2 h3 (fun W hP => ?_)).mono ?_
      · refine (number_b hP.1 (hbg _ hP.2) hq' hs (by omega) hst hen).mono ?_
        intro e w' hh; rw [hR] at hh; exact hh
      · rintro e w' ⟨rfl, W, hP, hQ⟩
        exact ⟨⟨2, rfl⟩, hQ.1, hP.2.trans hQ.2⟩
  cases hl : s.data.toList.drop q' with
  | nil =>
    rw [hl] at hnum
    exact hnum rfl rfl rfl
  | cons c r =>
    obtain ⟨hlt, hr⟩ := drop_cons hl
    simp only [Js.value_]
    by_cases h34 : c = 34
    · rw [if_pos h34]
      subst h34
      rw [hl] at hpk
      have hpk : Calls Tryd.prog 27 #[.pointer (some ⟨B, 0, none⟩)] w fun e w' => e = .returned (.int .u8 34) ∧ MS w' base B s q' st its 0 0 ∧ Below base w w' := hpk
      cases hR : Js.text s.size 2 (34 :: r) r st its with
      | go wt l' st' its' =>
        refine (value_text (b := true) (Q := fun W w' => ML w' base B s l' st' its' ∧ Below base W w') hpk (fun W hP => ?_)).mono ?_
        · refine (text_b hP.1 hlt hs (by omega) hst hen 2).mono ?_
          intro e w' hh; rw [hl, hr, hR] at hh; exact hh
        · rintro e w' ⟨rfl, W, hP, hQ⟩
          rw [text_want hR]
          exact ⟨rfl, hQ.1, hP.2.trans hQ.2⟩
      | bad a c =>
        refine (value_text (b := false) (Q := fun W w' => (∃ q st its, MS w' base B s q st its a c) ∧ Below base W w') hpk (fun W hP => ?_)).mono ?_
        · refine (text_b hP.1 hlt hs (by omega) hst hen 2).mono ?_
          intro e w' hh; rw [hl, hr, hR] at hh; exact hh
        · rintro e w' ⟨rfl, W, hP, hQ⟩
          exact ⟨⟨2, rfl⟩, hQ.1, hP.2.trans hQ.2⟩
    · rw [if_neg h34]
      by_cases hb : c = 91 ∨ c = 123
      · rw [if_pos hb]
        rw [hl] at hpk
        have hpk : Calls Tryd.prog 27 #[.pointer (some ⟨B, 0, none⟩)] w fun e w' => e = .returned (.int .u8 (c.toNat : Int)) ∧ MS w' base B s q' st its 0 0 ∧ Below base w w' := hpk
        have hz : (c.toNat : Int) = 91 ∨ (c.toNat : Int) = 123 := by rcases hb with rfl | rfl; exact .inl rfl; exact .inr rfl
        cases hR : Js.begin_ s.size c (c :: r) r st its with
        | go wt l' st' its' =>
          refine (value_begin (b := true) (x := wt) (Q := fun W w' => ML w' base B s l' st' its' ∧ Below base W w') hz hpk (fun W hP => ?_)).mono ?_
          · refine (begin_r hP.1 hlt hs (by omega) hst hen c hb).mono ?_
            intro e w' hh; rw [hl, hr, hR] at hh; exact hh
          · rintro e w' ⟨rfl, W, hP, hQ⟩
            exact ⟨rfl, hQ.1, hP.2.trans hQ.2⟩
        | bad a c2 =>
          have hx : st.length = 16 := by
            unfold Js.begin_ at hR
            by_cases h16 : st.length = 16
            · exact h16
            · rw [if_neg h16] at hR; cases hR
          refine (value_begin (b := false) (x := 0) (Q := fun W w' => (∃ q st its, MS w' base B s q st its a c2) ∧ Below base W w') hz hpk (fun W hP => ?_)).mono ?_
          · refine (begin_deep hP.1 hx _).mono ?_
            rintro e w' ⟨rfl, h1, h2⟩
            unfold Js.begin_ at hR
            rw [if_pos hx] at hR
            cases hR
            refine ⟨rfl, ⟨q', st, its, ?_⟩, h2⟩
            rw [← hl, pl_drop s q' hq']; exact h1
          · rintro e w' ⟨rfl, W, hP, hQ⟩
            exact ⟨⟨0, rfl⟩, hQ.1, hP.2.trans hQ.2⟩
      · rw [if_neg hb]
        rw [hl] at hnum
        exact hnum (hd_ne h34) (hd_ne fun e => hb (.inl e)) (hd_ne fun e => hb (.inr e))
theorem key_r {l : List UInt8} (h : ML w base B s l st its) (hs : s.size ≤ 1000000000) :
    Calls Tryd.prog 25 #[.pointer (some ⟨B, 0, none⟩)] w fun e w' => RPost w base B s (Js.key s.size l st its) e w' := by
  obtain ⟨q, hq, rfl, hi, hst, hen, hM⟩ := h
  obtain ⟨q', hqq, hq', hsk, hpk⟩ := peek_l hM hq hs
  unfold Js.key
  rw [← hsk]
  have hbad : (Js.hd (s.data.toList.drop q') == 34) = false → Calls Tryd.prog 25 #[.pointer (some ⟨B, 0, none⟩)] w fun e w' => RPost w base B s (.bad (Js.pl s.size (s.data.toList.drop q')) 190) e w' := by
    intro h1
    refine (key_bad1 (a := (q' : Int)) (Q := fun W w' => (∃ q st its, MS w' base B s q st its (q' : Int) 190) ∧ Below base W w') hpk (by simp only [bne, h1]; rfl) (fun W hP => hP.1.cell1) (fun W hP => ?_)).mono ?_
    · refine (fail_ms hP.1 (q' : Int) 190).mono ?_
      rintro e w' ⟨rfl, h1, h2⟩
      exact ⟨rfl, ⟨_, _, _, h1⟩, h2⟩
    · rintro e w' ⟨rfl, W, hP, hQ⟩
      exact ⟨⟨0, rfl⟩, by rw [pl_drop s q' hq']; exact hQ.1, hP.2.trans hQ.2⟩
  cases hl : s.data.toList.drop q' with
  | nil =>
    rw [hl] at hbad
    exact hbad rfl
  | cons c r =>
    obtain ⟨hlt, hr⟩ := drop_cons hl
    simp only [Js.key_]
    by_cases h34 : c = 34
    · rw [if_pos h34]
      subst h34
      rw [hl] at hpk
      have hpk : Calls Tryd.prog 27 #[.pointer (some ⟨B, 0, none⟩)] w fun e w' => e = .returned (.int .u8 34) ∧ MS w' base B s q' st its 0 0 ∧ Below base w w' := hpk
      have hT := fun W (hP : MS W base B s q' st its 0 0) => text_b hP hlt hs (by omega) hst hen 6
      unfold Js.text at hT
      rw [hl, hr] at hT
      cases hx : Js.txt r [] with
      | bad rest =>
        simp only [hx] at hT ⊢
        refine (key_bad2 (Q := fun W w' => (∃ q st its, MS w' base B s q st its (Js.pl s.size rest) 190) ∧ Below base W w') hpk (fun W hP => hT W hP.1)).mono ?_
        rintro e w' ⟨rfl, W, hP, hQ⟩
        exact ⟨⟨0, rfl⟩, hQ.1, hP.2.trans hQ.2⟩
      | ok t rest =>
        simp only [hx] at hT ⊢
        obtain ⟨its2, hits⟩ : ∃ x, its ++ [⟨6, 0, S t, Js.pl s.size (34 :: r)⟩] = x := ⟨_, rfl⟩
        rw [hits]
        simp only [hits] at hT
        have hrest : rest <:+ s.data.toList := by
          have h1 := (Js.txt_rest _ _ _ (Nat.le_refl _) hx).1
          rw [← hr] at h1
          exact h1.trans (List.drop_suffix _ _)
        obtain ⟨hr1, hr2⟩ := drop_of_suffix hrest
        have h1 := Js.skip_le rest
        obtain ⟨h3, h4⟩ := drop_of_suffix ((Js.skip_suffix rest).trans hrest)
        obtain ⟨q2, hq2⟩ : ∃ q2, s.size - (Js.skip rest).length = q2 := ⟨_, rfl⟩
        rw [hq2] at h4
        have hq2s : q2 ≤ s.size := by omega
        have hp2 : ∀ W1 W, (MS W1 base B s q' st its 0 0 ∧ Below base w W1) → (ML W base B s rest st its2 ∧ Below base W1 W) →
            Calls Tryd.prog 27 #[.pointer (some ⟨B, 0, none⟩)] W fun e w' => e = .returned (.int .u8 (Js.hd (Js.skip rest))) ∧ (MS w' base B s q2 st its2 0 0 ∧ its2.length ≤ q2 ∧ Below base w w') := by
          intro W1 W hP hQ
          obtain ⟨⟨q3, hq3, hd3, hi3, _, _, hM3⟩, hb3⟩ := hQ
          have hlen := congrArg List.length hd3
          rw [List.length_drop, size_len] at hlen
          refine (peek_ms hM3 hq3 hs q2 (by rw [hd3]; omega)).mono ?_
          rintro e w' ⟨rfl, h5, h6⟩
          rw [hd3]
          exact ⟨rfl, h5, by omega, (hP.2.trans hb3).trans h6⟩
        cases hl2 : Js.skip rest with
        | nil =>
          simp only [Js.colon]
          rw [hl2] at hp2 h4
          refine (key_bad3 (a := (q2 : Int)) (Q2 := fun W w' => (∃ q st its, MS w' base B s q st its (q2 : Int) 190) ∧ Below base W w') hpk (fun W hP => hT W hP.1) hp2 (by decide) (fun W hP => hP.1.cell1) (fun W hP => ?_)).mono ?_
          · refine (fail_ms hP.1 (q2 : Int) 190).mono ?_
            rintro e w' ⟨rfl, h1, h2⟩
            exact ⟨rfl, ⟨_, _, _, h1⟩, h2⟩
          · rintro e w' ⟨rfl, W, hP, hQ⟩
            exact ⟨⟨0, rfl⟩, by rw [← h4, pl_drop s q2 hq2s]; exact hQ.1, hP.2.2.trans hQ.2⟩
        | cons c2 r2 =>
          rw [hl2] at hp2 h4
          simp only [Js.colon]
          obtain ⟨hlt2, hr2'⟩ := drop_cons h4
          by_cases h58 : c2 = 58
          · rw [if_pos h58]
            subst h58
            have hp2 : ∀ W1 W, (MS W1 base B s q' st its 0 0 ∧ Below base w W1) → (ML W base B s rest st its2 ∧ Below base W1 W) →
                Calls Tryd.prog 27 #[.pointer (some ⟨B, 0, none⟩)] W fun e w' => e = .returned (.int .u8 58) ∧ (MS w' base B s q2 st its2 0 0 ∧ its2.length ≤ q2 ∧ Below base w w') := hp2
            refine (key_good (a := (q2 : Int)) hpk (fun W hP => hT W hP.1) hp2 (fun W hP => ⟨hP.1.cell1, hP.1.froz 1⟩) (by omega) (by omega)).mono ?_
            rintro e w' ⟨rfl, W, hP, rfl⟩
            have h6 := hP.1.put (w' := W.setCell ⟨B, 1, none⟩ (.int .i64 ((q2 : Int) + 1))) (p' := q2 + 1) (e0 := 0) (e1 := 0) (fun o v hM => hM.set 1 _ rfl) (grown_set _ _ _ _)
            exact ⟨rfl, ⟨q2 + 1, by omega, hr2', by have := hP.2.1; omega, hst, hen, h6.1⟩, hP.2.2.trans h6.2⟩
          · rw [if_neg h58]
            refine (key_bad3 (a := (q2 : Int)) (Q2 := fun W w' => (∃ q st its, MS w' base B s q st its (q2 : Int) 190) ∧ Below base W w') hpk (fun W hP => hT W hP.1) hp2 (by have := hd_ne (r := r2) h58; simp only [bne]; rw [show ((58 : UInt8).toNat : Int) = 58 from rfl] at this; rw [this]; rfl) (fun W hP => hP.1.cell1) (fun W hP => ?_)).mono ?_
            · refine (fail_ms hP.1 (q2 : Int) 190).mono ?_
              rintro e w' ⟨rfl, h1, h2⟩
              exact ⟨rfl, ⟨_, _, _, h1⟩, h2⟩
            · rintro e w' ⟨rfl, W, hP, hQ⟩
              exact ⟨⟨0, rfl⟩, by rw [← h4, pl_drop s q2 hq2s]; exact hQ.1, hP.2.2.trans hQ.2⟩
    · rw [if_neg h34]
      rw [hl] at hbad
      exact hbad (hd_ne h34)
theorem more_r {l : List UInt8} {en : UInt8} (h : ML w base B s l (en :: st) its) (hs : s.size ≤ 1000000000) :
    Calls Tryd.prog 26 #[.pointer (some ⟨B, 0, none⟩)] w fun e w' => RPost w base B s (Js.more s.size l (en :: st) its) e w' := by
  obtain ⟨q, hq, rfl, hi, hst, hen, hM⟩ := h
  have h1 := Js.skip_le (s.data.toList.drop q)
  obtain ⟨h3, h4⟩ := drop_of_suffix ((Js.skip_suffix (s.data.toList.drop q)).trans (List.drop_suffix _ _))
  rw [List.length_drop, size_len] at h1
  obtain ⟨q', hq'⟩ : ∃ q', s.size - (Js.skip (s.data.toList.drop q)).length = q' := ⟨_, rfl⟩
  rw [hq'] at h4
  have hsum : q' + (Js.skip (s.data.toList.drop q)).length = s.size := by omega
  have hen' := hen en List.mem_cons_self
  have he0 : (en.toNat : Int) = 93 ∨ (en.toNat : Int) = 125 := by rcases hen' with rfl | rfl; exact .inl rfl; exact .inr rfl
  have hstl : st.length < 16 := by rw [List.length_cons] at hst; omega
  have hbad : Js.hd (Js.skip (s.data.toList.drop q)) ≠ (en.toNat : Int) → Js.hd (Js.skip (s.data.toList.drop q)) ≠ 44 → Calls Tryd.prog 26 #[.pointer (some ⟨B, 0, none⟩)] w fun e w' => RPost w base B s (.bad (Js.pl s.size (Js.skip (s.data.toList.drop q))) 190) e w' := by
    intro h5 h6
    refine (more_bad hM hstl hq hs q' hsum _ rfl h5 h6).mono ?_
    rintro e w' ⟨rfl, h7, h8⟩
    exact ⟨⟨0, rfl⟩, ⟨_, _, _, by rw [← h4, pl_drop s q' (by omega)]; exact h7⟩, h8⟩
  unfold Js.more
  cases hl : Js.skip (s.data.toList.drop q) with
  | nil =>
    simp only [Js.more_]
    rw [hl] at hbad
    exact hbad (by show (0 : Int) ≠ _; omega) (by show (0 : Int) ≠ 44; omega)
  | cons c r =>
    rw [hl] at h4
    obtain ⟨hlt, hr⟩ := drop_cons h4
    simp only [Js.more_]
    by_cases hce : c = en
    · rw [if_pos hce]
      subst hce
      refine (more_end hM hstl hq hs (by omega) q' hsum (by rw [hl]; rfl) hlt).mono ?_
      rintro e w' ⟨rfl, h7, h8⟩
      refine ⟨rfl, ⟨q' + 1, by omega, hr, ?_, by omega, fun e he => hen e (List.mem_cons_of_mem _ he), ?_⟩, h8⟩
      · rw [List.length_append, List.length_singleton]; omega
      · rw [← h4, pl_drop s q' (by omega)]; exact h7
    · rw [if_neg hce]
      have hcn : Js.hd (c :: r) ≠ (en.toNat : Int) := fun e => hce (UInt8.toNat_inj.1 (Int.ofNat.inj e))
      by_cases h44 : c = 44
      · rw [if_pos h44]
        subst h44
        have hby : s[q'] = 44 := by
          have : (s.data.toList.drop q')[0]? = some 44 := by rw [h4]; rfl
          rw [List.getElem?_drop, Nat.add_zero, List.getElem?_eq_getElem (by rw [size_len]; exact hlt)] at this
          exact Option.some.inj this
        refine (more_comma hM hstl hq hs q' hsum 44 (by rw [hl]; rfl) hcn rfl hlt hby).mono ?_
        rintro e w' ⟨rfl, h7, h8⟩
        exact ⟨rfl, ⟨q' + 1, by omega, hr, by omega, hst, hen, h7⟩, h8⟩
      · rw [if_neg h44]
        rw [hl] at hbad
        exact hbad hcn (fun e => h44 (UInt8.toNat_inj.1 (Int.ofNat.inj e)))
end
end Go.Proofs.YtainnkpoibgkcaaDoor
