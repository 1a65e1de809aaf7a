/- JsonicTexts in plain Lean: a text in quotes is read back; cut off, it is none. Conditions: none. -/
import Derived.Test.YtainnkpoibgkcaaDoorPAllx8
namespace Go.Proofs.YtainnkpoibgkcaaDoor
set_option linter.unusedVariables false
set_option linter.unusedSimpArgs false
open Go.RowKit Go.Proofs.YtainnkpoibgkcaaDoor.PAll Go.Proofs.YtainnkpoibgkcaaDoorW.PrintWords Go.Proofs.YtainnkpoibgkcaaDoorW.PrintLast
namespace Js
theorem txt_quote (r acc : List UInt8) : txt (34 :: r) acc = .ok acc r := by rw [txt, if_pos rfl]
theorem txt_esc {s : List UInt8} {m : UInt8} {n : Nat} (h : sign s = some (m, n)) (acc : List UInt8) : txt (92 :: s) acc = txt (s.drop n) (acc ++ [m]) := by
  rw [txt, if_neg (by decide), if_pos rfl]
  split
  · rename_i h2; rw [h] at h2; cases h2
  · rename_i m2 n2 h2; rw [h] at h2; cases h2; rfl
theorem txt_esc_bad {s : List UInt8} (h : sign s = none) (acc : List UInt8) : txt (92 :: s) acc = .bad (92 :: s) := by
  rw [txt, if_neg (by decide), if_pos rfl]
  split
  · rfl
  · rename_i m2 n2 h2; rw [h] at h2; cases h2
theorem txt_plain {c : UInt8} (h1 : c ≠ 34) (h2 : c ≠ 92) (h3 : ¬ (c < 32 ∨ 126 < c)) (r acc : List UInt8) : txt (c :: r) acc = txt r (acc ++ [c]) := by
  rw [txt, if_neg h1, if_neg h2, if_neg h3]
theorem hex_hx : ∀ a : _root_.Fin 16, isHex (hx a.val) = true := by decide
theorem hexN_hx : ∀ a b : _root_.Fin 16, hexN 0 [48, 48, hx a.val, hx b.val] = 16 * a.val + b.val := by decide
theorem sign_u {c : UInt8} (hc : c < 128) (r : List UInt8) : sign (117 :: 48 :: 48 :: hx (c.toNat / 16) :: hx (c.toNat % 16) :: r) = some (c, 5) := by
  have hl : c.toNat < 128 := UInt8.lt_iff_toNat_lt.1 hc
  have h1 := hex_hx ⟨c.toNat / 16, by omega⟩
  have h2 := hex_hx ⟨c.toNat % 16, by omega⟩
  have h3 := hexN_hx ⟨c.toNat / 16, by omega⟩ ⟨c.toNat % 16, by omega⟩
  simp only at h1 h2 h3
  have h4 : 16 * (c.toNat / 16) + c.toNat % 16 = c.toNat := by omega
  rw [h4] at h3
  simp only [sign, show esc 117 = none from rfl]
  rw [if_pos]
  · simp only [List.take_succ_cons, List.take_zero, h3]
    rw [UInt8.ofNat_toNat]
  · refine ⟨by first | rfl | trivial, by simp, ?_, ?_⟩
    · simp only [List.take_succ_cons, List.take_zero, List.all_cons, List.all_nil, h1, h2, Bool.and_true]; decide
    · simp only [List.take_succ_cons, List.take_zero, h3]; exact hl
/-- The ways of a byte in quotes. -/
theorem q1_cases (c : UInt8) (hc : c < 128) : (∃ d, q1 c = [92, d] ∧ esc d = some c) ∨ q1 c = [92, 117, 48, 48, hx (c.toNat / 16), hx (c.toNat % 16)] ∨ (q1 c = [c] ∧ c ≠ 34 ∧ c ≠ 92 ∧ ¬ (c < 32 ∨ 126 < c)) := by
  unfold q1
  by_cases h1 : c = 34
  · subst h1; exact .inl ⟨34, rfl, rfl⟩
  rw [if_neg h1]
  by_cases h2 : c = 92
  · subst h2; exact .inl ⟨92, rfl, rfl⟩
  rw [if_neg h2]
  by_cases h3 : c = 10
  · subst h3; exact .inl ⟨110, rfl, rfl⟩
  rw [if_neg h3]
  by_cases h4 : c = 13
  · subst h4; exact .inl ⟨114, rfl, rfl⟩
  rw [if_neg h4]
  by_cases h5 : c = 9
  · subst h5; exact .inl ⟨116, rfl, rfl⟩
  rw [if_neg h5]
  by_cases h6 : c < 32 ∨ c = 127
  · rw [if_pos h6]; exact .inr (.inl rfl)
  · rw [if_neg h6]
    refine .inr (.inr ⟨rfl, h1, h2, fun h => h6 ?_⟩)
    rcases h with h | h
    · exact .inl h
    · refine .inr ?_
      have ha := UInt8.lt_iff_toNat_lt.1 h
      have hb := UInt8.lt_iff_toNat_lt.1 hc
      have e1 : (126 : UInt8).toNat = 126 := rfl
      have e2 : (128 : UInt8).toNat = 128 := rfl
      exact UInt8.toNat_inj.1 (show c.toNat = 127 by omega)
theorem sign_esc1 {d c : UInt8} (h : esc d = some c) (r : List UInt8) : sign (d :: r) = some (c, 1) := by simp only [sign, h]
theorem txt_q1 {c : UInt8} (hc : c < 128) (r acc : List UInt8) : txt (q1 c ++ r) acc = txt r (acc ++ [c]) := by
  rcases q1_cases c hc with ⟨d, h, he⟩ | h | ⟨h, h1, h2, h3⟩
  · rw [h]
    show txt (92 :: (d :: r)) acc = _
    rw [txt_esc (sign_esc1 he r)]; rfl
  · rw [h]
    show txt (92 :: (117 :: 48 :: 48 :: hx (c.toNat / 16) :: hx (c.toNat % 16) :: r)) acc = _
    rw [txt_esc (sign_u hc r)]; rfl
  · rw [h]; exact txt_plain h1 h2 h3 r acc
theorem txt_qall : ∀ (t : List UInt8), (∀ c ∈ t, c < 128) → ∀ r acc, txt (qall t ++ r) acc = txt r (acc ++ t)
  | [], _, r, acc => by simp [qall]
  | c :: t, h, r, acc => by
    rw [show qall (c :: t) ++ r = q1 c ++ (qall t ++ r) by simp [qall], txt_q1 (h c List.mem_cons_self), txt_qall t (fun x hx => h x (List.mem_cons_of_mem _ hx))]
    simp
/-- A text in quotes, behind its first one. -/
theorem txt_back {t : List UInt8} (h : ∀ c ∈ t, c < 128) (r : List UInt8) : txt (qall t ++ 34 :: r) [] = .ok t r := by
  rw [txt_qall t h, txt_quote]; rfl
theorem pre_append {p a b : List UInt8} (h : p <+: a ++ b) : p <+: a ∨ ∃ p', p = a ++ p' ∧ p' <+: b := by
  obtain ⟨t, ht⟩ := h
  rcases Nat.le_total p.length a.length with hl | hl
  · refine .inl ?_
    have h1 := congrArg (List.take p.length) ht
    rw [List.take_left, List.take_append_of_le_length hl] at h1
    rw [h1]; exact List.take_prefix _ _
  · refine .inr ⟨p.drop a.length, ?_, t, ?_⟩
    · have h1 := congrArg (List.take a.length) ht
      rw [List.take_append_of_le_length hl, List.take_left] at h1
      exact (List.take_append_drop a.length p).symm.trans (by rw [h1])
    · have h1 := congrArg (List.drop a.length) ht
      rw [List.drop_append_of_le_length hl, List.drop_left] at h1
      exact h1
theorem sign_short {r : List UInt8} (h : r.length < 4) : sign (117 :: r) = none := by
  simp only [sign, show esc 117 = none from rfl]
  rw [if_neg]
  rintro ⟨_, h2, _⟩
  omega
/-- Cut off, it is none. -/
theorem txt_cut : ∀ (t : List UInt8), (∀ c ∈ t, c < 128) → ∀ p acc, p <+: qall t → ∃ rest, txt p acc = .bad rest ∧ rest <:+ p
  | [], _, p, acc, hp => by
    have : p = [] := by simpa [qall] using hp
    subst this; exact ⟨[], by rw [txt], List.suffix_refl _⟩
  | c :: t, h, p, acc, hp => by
    rw [show qall (c :: t) = q1 c ++ qall t by simp [qall]] at hp
    rcases pre_append hp with hp | ⟨p', rfl, hp'⟩
    · have hcc := h c List.mem_cons_self
      have hfull : ∃ rest, txt (q1 c) acc = .bad rest ∧ rest <:+ q1 c := ⟨[], by
        have := txt_q1 hcc [] acc
        rw [List.append_nil] at this
        rw [this, txt], List.nil_suffix⟩
      by_cases hlen : p.length = (q1 c).length
      · rw [hp.eq_of_length hlen]; exact hfull
      · have hlt : p.length < (q1 c).length := Nat.lt_of_le_of_ne hp.length_le hlen
        cases p with
        | nil => exact ⟨[], by rw [txt], List.suffix_refl _⟩
        | cons a p =>
          rcases q1_cases c hcc with ⟨d, h1, he⟩ | h1 | ⟨h1, _⟩
          · rw [h1] at hp hlt
            simp only [List.length_cons, List.length_nil] at hlt
            have hp0 : p = [] := List.eq_nil_of_length_eq_zero (by omega)
            subst hp0
            have ha : a = 92 := by obtain ⟨u, hu⟩ := hp; simp at hu; exact hu.1
            subst ha
            exact ⟨_, txt_esc_bad rfl acc, List.suffix_refl _⟩
          · rw [h1] at hp hlt
            simp only [List.length_cons, List.length_nil] at hlt
            have ha : a = 92 := by obtain ⟨u, hu⟩ := hp; simp at hu; exact hu.1
            subst ha
            cases p with
            | nil => exact ⟨_, txt_esc_bad rfl acc, List.suffix_refl _⟩
            | cons b p =>
              have hb : b = 117 := by obtain ⟨u, hu⟩ := hp; simp at hu; exact hu.1
              subst hb
              simp only [List.length_cons] at hlt
              exact ⟨_, txt_esc_bad (sign_short (by omega)) acc, List.suffix_refl _⟩
          · rw [h1] at hlt
            simp at hlt
    · rw [txt_q1 (h c List.mem_cons_self)]
      obtain ⟨rest, h1, h2⟩ := txt_cut t (fun x hx => h x (List.mem_cons_of_mem _ hx)) p' (acc ++ [c]) hp'
      exact ⟨rest, h1, h2.trans (List.suffix_append _ _)⟩
end Js
end Go.Proofs.YtainnkpoibgkcaaDoor
namespace Go.Proofs.YtainnkpoibgkcaaDoor
set_option linter.unusedVariables false
set_option linter.unusedSimpArgs false
open Go.RowKit Go.Proofs.YtainnkpoibgkcaaDoor.PAll Go.Proofs.YtainnkpoibgkcaaDoorW.PrintWords Go.Proofs.YtainnkpoibgkcaaDoorW.PrintLast

theorem bt_nat (s : ByteArray) (i : Nat) (h : i < s.size) : bt s (i : Int) = (s[i].toNat : Int) := by simp [bt, h]
theorem texts_l0_bad (a0 : ByteArray) (a1 : Int) (x5 : ByteArray) (hx : x5.toList = []) (hs : a0.size ≤ 300) : ∀ (m i k : Nat), a0.size - i = m → m < k → (∃ j, i ≤ j ∧ ∃ h : j < a0.size, 127 < a0[j].toNat) → entrepotlaw19_JsonicTexts.l0 k a0 a1 x5 false (i : Int) = some true
  | m, i, 0, _, hk, _ => by omega
  | m, i, k + 1, hm, hk, ⟨j, hij, hj, hc⟩ => by
    have hi : i < a0.size := by omega
    simp only [entrepotlaw19_JsonicTexts.l0]
    rw [if_pos (by omega), if_pos (by omega), bt_nat a0 i hi]
    by_cases hb : (a0[i].toNat : Int) > 127
    · rw [if_pos hb, if_pos hx]; rfl
    · rw [if_neg hb, show wrap64 ((i : Int) + 1) = ((i + 1 : Nat) : Int) by unfold wrap64; omega]
      have hne : i ≠ j := fun e => by subst e; omega
      exact texts_l0_bad a0 a1 x5 hx hs (m - 1) (i + 1) k (by omega) (by omega) ⟨j, by omega, hj, hc⟩
theorem texts_l0_good (a0 : ByteArray) (a1 : Int) (x5 : ByteArray) (x6 : Bool) (hs : a0.size ≤ 300) (hall : ∀ j (h : j < a0.size), a0[j].toNat ≤ 127) : ∀ (m i k : Nat), a0.size - i = m → i ≤ a0.size → m < k → entrepotlaw19_JsonicTexts.l0 k a0 a1 x5 x6 (i : Int) = entrepotlaw19_JsonicTexts.l0 (k - m) a0 a1 x5 x6 (a0.size : Int)
  | 0, i, k, hm, hi, hk => by rw [show i = a0.size by omega]; rfl
  | m + 1, i, 0, _, _, hk => by omega
  | m + 1, i, k + 1, hm, hi, hk => by
    have hi : i < a0.size := by omega
    rw [show k + 1 - (m + 1) = k - m by omega, ← texts_l0_good a0 a1 x5 x6 hs hall m (i + 1) k (by omega) (by omega) (by omega)]
    have hb := hall i hi
    rw [entrepotlaw19_JsonicTexts.l0]
    rw [if_pos (by omega), if_pos (by omega), bt_nat a0 i hi, if_neg (by omega), show wrap64 ((i : Int) + 1) = ((i + 1 : Nat) : Int) by unfold wrap64; omega]
theorem texts_l1_good (a0 : ByteArray) (a1 : Int) (x5 : ByteArray) (x6 : Bool) (x8 : List S38) (d0 d1 : Int) (hs : x5.size ≤ 10000) (hall : ∀ j (h : j < x5.size), 32 ≤ x5[j].toNat ∧ x5[j].toNat ≤ 126) : ∀ (m i k : Nat), x5.size - i = m → i ≤ x5.size → m < k → entrepotlaw19_JsonicTexts.l1 k a0 a1 x5 x6 x8 (i : Int) d0 d1 = entrepotlaw19_JsonicTexts.l1 (k - m) a0 a1 x5 x6 x8 (x5.size : Int) d0 d1
  | 0, i, k, hm, hi, hk => by rw [show i = x5.size by omega]; rfl
  | m + 1, i, 0, _, _, hk => by omega
  | m + 1, i, k + 1, hm, hi, hk => by
    have hi : i < x5.size := by omega
    rw [show k + 1 - (m + 1) = k - m by omega, ← texts_l1_good a0 a1 x5 x6 x8 d0 d1 hs hall m (i + 1) k (by omega) (by omega) (by omega)]
    have hb := hall i hi
    rw [entrepotlaw19_JsonicTexts.l1]
    rw [if_pos (by omega), if_pos (by omega), bt_nat x5 i hi, if_neg (by omega), if_neg (by omega), show wrap64 ((i : Int) + 1) = ((i + 1 : Nat) : Int) by unfold wrap64; omega]
namespace Js
theorem skip_quote (r : List UInt8) : skip (34 :: r) = 34 :: r := rfl
theorem parse_text_ok {p t : List UInt8} (h : txt p [] = .ok t []) : parse (34 :: p) = .ok [] [⟨2, 0, YtainnkpoibgkcaaDoor.S t, 0⟩] := by
  unfold parse
  simp only [List.length_cons]
  rw [run_value]
  unfold value
  rw [skip_quote]
  simp only [value_, if_true]
  unfold text
  rw [h]
  simp only [next]
  rw [run_more _ _ (by decide) (by decide), if_pos rfl]
  simp [fin, skip, pl]
theorem parse_text_bad {p rest : List UInt8} (h : txt p [] = .bad rest) : parse (34 :: p) = .bad (pl (p.length + 1) rest) 190 := by
  unfold parse
  simp only [List.length_cons]
  rw [run_value]
  unfold value
  rw [skip_quote]
  simp only [value_, if_true]
  unfold text
  rw [h]
  simp only [next, fin]
theorem parse_nil : parse [] = .bad 0 190 := by kernel_rfl
theorem q1_range : ∀ n : _root_.Fin 128, ∀ x ∈ q1 (UInt8.ofNat n.val), 32 ≤ x.toNat ∧ x.toNat ≤ 126 := by decide +kernel
theorem qall_range {t : List UInt8} (h : ∀ c ∈ t, c < 128) : ∀ x ∈ qall t, 32 ≤ x.toNat ∧ x.toNat ≤ 126 := by
  intro x hx
  simp only [qall, List.mem_flatMap] at hx
  obtain ⟨c, hc, hx⟩ := hx
  have hl : c.toNat < 128 := UInt8.lt_iff_toNat_lt.1 (h c hc)
  have := q1_range ⟨c.toNat, hl⟩ x
  rw [UInt8.ofNat_toNat] at this
  exact this hx
theorem qall_ge (t : List UInt8) : t.length ≤ (qall t).length := by
  induction t with
  | nil => simp [qall]
  | cons c t ih =>
    have h1 : 1 ≤ (q1 c).length := by unfold q1; (iterate 6 (split; simp)); simp
    simp only [qall, List.flatMap_cons, List.length_append, List.length_cons] at ih ⊢
    omega
/-- Cut off anywhere, a text in quotes is none. -/
theorem parse_cut {t : List UInt8} (h : ∀ c ∈ t, c < 128) (k : Nat) (hk : k < (34 :: (qall t ++ [34])).length) : ∃ a : Int, parse ((34 :: (qall t ++ [34])).take k) = .bad a 190 ∧ a ≤ (k : Int) := by
  cases k with
  | zero => exact ⟨0, by rw [List.take_zero]; exact parse_nil, by omega⟩
  | succ k =>
    simp only [List.length_cons, List.length_append, List.length_nil] at hk
    rw [List.take_succ_cons, List.take_append_of_le_length (by omega)]
    obtain ⟨rest, h1, h2⟩ := txt_cut t h ((qall t).take k) [] (List.take_prefix _ _)
    refine ⟨_, parse_text_bad h1, ?_⟩
    unfold pl
    rw [List.length_take]
    omega
end Js
theorem texts_last (a0 : ByteArray) (a1 : Int) (h1 : 0 ≤ a1 ∧ a1 ≤ 65535) (hs : a0.size ≤ 300) (hall : ∀ c ∈ a0.data.toList, c < 128) (k : Nat) :
    entrepotlaw19_JsonicTexts.l1 (k + 1) a0 a1 (S (34 :: (Js.qall a0.data.toList ++ [34]))) true [⟨2, 0, a0, 0⟩] ((S (34 :: (Js.qall a0.data.toList ++ [34]))).size : Int) 0 0 = some true := by
  have hge := Js.qall_ge a0.data.toList
  have hle := Js.qall_len a0.data.toList
  rw [size_len] at hge hle
  have hsz : (S (34 :: (Js.qall a0.data.toList ++ [34]))).size = (Js.qall a0.data.toList).length + 2 := by rw [S_size]; simp
  obtain ⟨q, hq⟩ : ∃ q, S (34 :: (Js.qall a0.data.toList ++ [34])) = q := ⟨_, rfl⟩
  have hd : q.data.toList = 34 :: (Js.qall a0.data.toList ++ [34]) := by rw [← hq, S_data]
  rw [hq] at hsz ⊢
  rw [entrepotlaw19_JsonicTexts.l1]
  rw [if_neg (by omega), if_pos rfl, if_pos (by simp), if_pos (by simp)]
  rw [if_neg (by simp [rd_T38]), if_neg (by simp)]
  rw [show wrap64 ((a0.size : Int) + 2) = (a0.size : Int) + 2 by unfold wrap64; omega, if_neg (by omega), if_neg (by omega)]
  rw [show wrap64 a1 = a1 by unfold wrap64; omega, Int.tmod_eq_emod_of_nonneg h1.1]
  have hm0 : 0 ≤ a1 % (q.size : Int) := Int.emod_nonneg _ (by omega)
  have hm1 : a1 % (q.size : Int) < (q.size : Int) := Int.emod_lt_of_pos _ (by omega)
  obtain ⟨m, hm⟩ : ∃ m : Nat, a1 % (q.size : Int) = (m : Int) := ⟨(a1 % (q.size : Int)).toNat, by omega⟩
  rw [hm] at hm0 hm1 ⊢
  rw [if_pos hm0, if_pos (by omega)]
  obtain ⟨a, ha, hak⟩ := Js.parse_cut hall m (by rw [← hd, size_len]; omega)
  rw [← hd] at ha
  have hpf : jsonic_Parse.f (q.extract 0 ((m : Int)).toNat) = some ([], a, 190) := by
    unfold jsonic_Parse.f
    have hes : (q.extract 0 ((m : Int)).toNat).size ≤ 1000000000 := by
      rw [← size_len, Int.toNat_natCast, ext_take, List.length_take]; omega
    rw [if_pos hes, Int.toNat_natCast, ext_take, ha]; rfl
  rw [hpf]
  simp [hak]
theorem jsonicTexts_pure : entrepotlaw19_JsonicTexts.Pure := by
  intro a0 a1 _ hw
  have h1 : 0 ≤ a1 ∧ a1 ≤ 65535 := by simpa [Lit.wf, IntKind.min, IntKind.max, IntKind.signed, IntKind.bits] using hw
  obtain ⟨K, hK⟩ : ∃ K : Nat, K = 3999 := ⟨_, rfl⟩
  refine ⟨K + 1, ?_⟩
  unfold entrepotlaw19_JsonicTexts.f
  by_cases hbig : (a0.size : Int) > 300
  · rw [if_pos hbig, entrepotlaw19_JsonicTexts.j0, if_pos rfl]; rfl
  · rw [if_neg hbig]
    have hs : a0.size ≤ 300 := by omega
    show entrepotlaw19_JsonicTexts.j0 (K + 1) a0 a1 (!true) = some true
    rw [entrepotlaw19_JsonicTexts.j0, if_neg (by decide)]
    have hqf : jsonic_Quote.f a0 = some (quoteR (Js.quote a0.data.toList)) := by unfold jsonic_Quote.f; rw [if_pos (by omega)]
    rw [hqf]
    show entrepotlaw19_JsonicTexts.l0 K a0 a1 (quoteR (Js.quote a0.data.toList)).1 (quoteR (Js.quote a0.data.toList)).2 ((0 : Nat) : Int) = some true
    by_cases hall : a0.data.toList.all (· < 128) = true
    · have hall' : ∀ c ∈ a0.data.toList, c < 128 := fun c hc => by simpa using List.all_eq_true.1 hall c hc
      have hq : Js.quote a0.data.toList = some (34 :: (Js.qall a0.data.toList ++ [34])) := by unfold Js.quote; rw [if_pos hall]
      rw [hq]
      simp only [quoteR]
      have hb : ∀ j (h : j < a0.size), a0[j].toNat ≤ 127 := fun j h => by
        have := UInt8.lt_iff_toNat_lt.1 (hall' a0[j] (List.getElem_mem (l := a0.data.toList) h))
        have e : (128 : UInt8).toNat = 128 := rfl
        omega
      rw [texts_l0_good a0 a1 _ true hs hb a0.size 0 K (by omega) (by omega) (by omega)]
      obtain ⟨k, hk⟩ : ∃ k, K - a0.size = k + 1 := ⟨K - a0.size - 1, by omega⟩
      rw [hk, entrepotlaw19_JsonicTexts.l0, if_neg (by omega)]
      have hle := Js.qall_len a0.data.toList
      rw [size_len] at hle
      have hsz : (S (34 :: (Js.qall a0.data.toList ++ [34]))).size = (Js.qall a0.data.toList).length + 2 := by rw [S_size]; simp
      have hpf : jsonic_Parse.f (S (34 :: (Js.qall a0.data.toList ++ [34]))) = some ([⟨2, 0, a0, 0⟩], 0, 0) := by
        unfold jsonic_Parse.f
        rw [if_pos (by omega), S_data, Js.parse_text_ok (Js.txt_back hall' []), S_of]; rfl
      rw [hpf]
      show entrepotlaw19_JsonicTexts.l1 k a0 a1 (S (34 :: (Js.qall a0.data.toList ++ [34]))) true [⟨2, 0, a0, 0⟩] ((0 : Nat) : Int) 0 0 = some true
      have hr : ∀ j (h : j < (S (34 :: (Js.qall a0.data.toList ++ [34]))).size), 32 ≤ (S (34 :: (Js.qall a0.data.toList ++ [34])))[j].toNat ∧ (S (34 :: (Js.qall a0.data.toList ++ [34])))[j].toNat ≤ 126 := fun j h => by
        have hm : (S (34 :: (Js.qall a0.data.toList ++ [34])))[j] ∈ (S (34 :: (Js.qall a0.data.toList ++ [34]))).data.toList := List.getElem_mem (l := (S (34 :: (Js.qall a0.data.toList ++ [34]))).data.toList) h
        rw [S_data] at hm
        rcases List.mem_cons.1 hm with e | hm
        · rw [e]; decide
        · rcases List.mem_append.1 hm with hm | hm
          · exact Js.qall_range hall' _ hm
          · rw [List.mem_singleton.1 hm]; decide
      rw [texts_l1_good a0 a1 _ true _ 0 0 (by omega) hr _ 0 k rfl (by omega) (by omega)]
      obtain ⟨k', hk'⟩ : ∃ k', k - ((S (34 :: (Js.qall a0.data.toList ++ [34]))).size - 0) = k' + 1 := ⟨k - ((S (34 :: (Js.qall a0.data.toList ++ [34]))).size - 0) - 1, by omega⟩
      rw [hk']
      exact texts_last a0 a1 h1 hs hall' k'
    · have hq : Js.quote a0.data.toList = none := by unfold Js.quote; rw [if_neg hall]
      rw [hq]
      simp only [quoteR]
      refine texts_l0_bad a0 a1 ByteArray.empty (by rw [ByteArray.toList_eq]; rfl) hs a0.size 0 K (by omega) (by omega) ?_
      have hex : ∃ c ∈ a0.data.toList, ¬ c < 128 := by
        refine Classical.byContradiction fun hno => hall (List.all_eq_true.2 fun c hc => ?_)
        have : c < 128 := Classical.byContradiction fun h => hno ⟨c, hc, h⟩
        simpa using this
      obtain ⟨c, hc, hn⟩ := hex
      obtain ⟨j, hj, hjc⟩ := List.getElem_of_mem hc
      refine ⟨j, by omega, hj, ?_⟩
      have : a0[j] = c := hjc
      rw [this]
      rw [UInt8.lt_iff_toNat_lt] at hn
      have e : (128 : UInt8).toNat = 128 := rfl
      omega
end Go.Proofs.YtainnkpoibgkcaaDoor
