/- What the printed functions on texts, sums and seals come to: the plain law's. Conditions: texts of at most 140737488351232 bytes. -/
import Derived.Test.YtbcahalbjegjgaaDoorEvs
namespace Go.Proofs.YtbcahalbjegjgaaDoor.Evs
open Go.RowKit Go.Proofs.YtbcahalbjegjgaaDoor.PAll Go.Proofs.YtbcahalbjegjgaaDoorW.PrintWords Go.Proofs.YtbcahalbjegjgaaDoorW.PrintLast

def t3t (x : List UInt8 × Nat × Nat) : ByteArray × Int × Int := (S x.1, (x.2.1 : Int), (x.2.2 : Int))
theorem ext_S (s : ByteArray) (a b : Nat) : s.extract a b = S ((s.data.toList.drop a).take (b - a)) := by rw [← S_extract, S_of]

theorem getText (s : ByteArray) (n : Int) (hs : s.size ≤ 140737488351232) : pack_GetText.f s n = some (t3t (Pk.getT s.data.toList n)) := by
  unfold pack_GetText.f
  rw [getUint s n hs, Option.bind_some]
  have hx := getU_lt s.data.toList n
  rw [size_len] at hx
  unfold Pk.getT
  have e1 : (t3 (Pk.getU s.data.toList n)).1 = ((Pk.getU s.data.toList n).1 : Int) := rfl
  have e2 : (t3 (Pk.getU s.data.toList n)).2.1 = ((Pk.getU s.data.toList n).2.1 : Int) := rfl
  have e3 : (t3 (Pk.getU s.data.toList n)).2.2 = ((Pk.getU s.data.toList n).2.2 : Int) := rfl
  rw [e1, e2, e3, size_len]
  generalize (Pk.getU s.data.toList n).1 = x at *
  generalize (Pk.getU s.data.toList n).2.1 = y at *
  generalize (Pk.getU s.data.toList n).2.2 = z at *
  by_cases h : z = 0
  · have w1 : wrap64 ((s.size : Int) - (y : Int)) = (s.size : Int) - (y : Int) := w64 _ (by omega) (by omega)
    rw [w1, if_pos (show (z : Int) = 0 by omega), if_neg (show ¬ z ≠ 0 by omega)]
    by_cases h2 : s.size < y + x
    · rw [if_pos (show (s.size : Int) - (y : Int) < (x : Int) by omega), if_pos h2]; rfl
    · have w2 : wrap64 ((y : Int) + (x : Int)) = (y : Int) + (x : Int) := w64 _ (by omega) (by omega)
      rw [if_neg (show ¬ (s.size : Int) - (y : Int) < (x : Int) by omega), if_neg h2, w2, if_pos (show (0 : Int) ≤ (y : Int) by omega), if_pos (show (y : Int) ≤ (y : Int) + (x : Int) by omega), if_pos (show (y : Int) + (x : Int) ≤ (s.size : Int) by omega)]
      rw [show ((y : Int) + (x : Int)).toNat = y + x by omega, Int.toNat_natCast, ext_S, show y + x - y = x by omega]; rfl
  · rw [if_neg (show ¬ (z : Int) = 0 by omega), if_pos h]; rfl
theorem refGetText (s : ByteArray) (n : Int) (hs : s.size ≤ 140737488351232) : Ev (fun k => entrepotref21_GetText.f k s n) (t3t (Pk.getT s.data.toList n)) := by
  refine Ev.bind (refGetUint s n hs) ⟨0, fun k _ => ?_⟩
  have := getText s n hs
  unfold pack_GetText.f at this
  rw [getUint s n hs, Option.bind_some] at this
  exact this

theorem putText_of {g : Nat → Option ByteArray} (s : ByteArray) (hs : s.size ≤ 140737488351232) (h : Ev g (S (Pk.putUI (s.size : Int)))) :
    Ev (fun k => (g k).bind fun t => if t.size + s.size ≤ 9223372036854775807 then some (t ++ s) else none) (S (Pk.putT s.data.toList)) := by
  refine Ev.bind h ⟨0, fun k _ => ?_⟩
  rw [putUI_of, S_size]
  have := putU_len9 s.size (by omega)
  rw [if_pos (by omega), ← S_of s, S_append, S_of, Pk.putT, size_len]
theorem putText (s : ByteArray) (hs : s.size ≤ 140737488351232) : Ev (fun k => pack_PutText.f k s) (S (Pk.putT s.data.toList)) :=
  putText_of s hs (putUint _ (by omega))
theorem refPutText (s : ByteArray) (hs : s.size ≤ 140737488351232) : Ev (fun k => entrepotref21_PutText.f k s) (S (Pk.putT s.data.toList)) :=
  putText_of s hs (refPutUint _ (by omega))

/-! The sum. -/
theorem sum_ (s : ByteArray) (hs : s.size ≤ 140737488351232) : pack_Sum.f s = some ((Pk.sum s.data.toList : Nat) : Int) := by
  unfold pack_Sum.f; rw [if_pos hs]
def crcN : Nat → Nat → Nat
  | 0, r => r
  | n + 1, r => crcN n (Pk.crc1 r)
theorem crcN_lt (n : Nat) : ∀ r, r < 4294967296 → crcN n r < 4294967296 := by
  induction n with
  | zero => intro r h; exact h
  | succ n ih => intro r h; exact ih _ (Pk.crc1_lt h)
theorem refSum_bits (s : ByteArray) (i : Int) (res : Int) (j : Nat) : ∀ (b r : Nat), b + j = 8 → r < 4294967296 → Ev (fun k => entrepotref21_Sum.l0 k s (crcN j r : Nat) (wrap64 (i + 1))) res →
    Ev (fun k => entrepotref21_Sum.l1 k s (r : Int) i (b : Int)) res := by
  induction j with
  | zero =>
    intro b r hb hr h
    refine Ev.step (fun k => ?_) h
    simp only [entrepotref21_Sum.l1]
    rw [if_neg (by omega)]; rfl
  | succ j ih =>
    intro b r hb hr h
    refine Ev.step (fun k => ?_) (ih (b + 1) (Pk.crc1 r) (by omega) (Pk.crc1_lt hr) h)
    simp only [entrepotref21_Sum.l1]
    rw [if_pos (by omega), Int.tmod_eq_emod_of_nonneg (by omega), Int.tdiv_eq_ediv_of_nonneg (by omega), w64 _ (by omega) (by omega)]
    have e : (r : Int) / 2 % 4294967296 = ((r / 2 : Nat) : Int) := by omega
    rw [e]
    unfold Pk.crc1
    by_cases h2 : r % 2 = 1
    · rw [if_pos (by omega), if_pos h2]
      have := xor_u32 (r / 2) 3988292384 (by omega) (by decide)
      rw [← this]; rfl
    · rw [if_neg (by omega), if_neg h2]; rfl
theorem crcN_8 (r : Nat) : crcN 8 r = Pk.crc4 (Pk.crc4 r) := rfl
theorem refSum_l (s : ByteArray) (hs : s.size ≤ 140737488351232) (j : Nat) : ∀ (i r : Nat), i + j = s.size → r < 4294967296 → Pk.run 4294967295 (s.data.toList.take i) = r →
    Ev (fun k => entrepotref21_Sum.l0 k s (r : Int) (i : Int)) ((Pk.sum s.data.toList : Nat) : Int) := by
  induction j with
  | zero =>
    intro i r hi hr h
    refine ⟨1, fun k hk => ?_⟩
    obtain ⟨m, rfl⟩ : ∃ m, k = m + 1 := ⟨k - 1, by omega⟩
    simp only [entrepotref21_Sum.l0]
    rw [if_neg (by omega)]
    rw [List.take_of_length_le (by rw [size_len]; omega)] at h
    unfold Pk.sum; rw [h]
    congr 1; omega
  | succ j ih =>
    intro i r hi hr h
    have hb := bt_get s i
    have hc := (s.data.toList.getD i 0).toNat_lt
    have hx : r ^^^ (s.data.toList.getD i 0).toNat < 4294967296 := Pk.xor_byte_lt hr _
    have hrun : Pk.run 4294967295 (s.data.toList.take (i + 1)) = Pk.crcB r (s.data.toList.getD i 0).toNat := by
      rw [List.take_succ_eq_append_getElem (by rw [size_len]; omega)]
      unfold Pk.run at h ⊢
      rw [List.foldl_append, h, List.getD_eq_getElem?_getD, List.getElem?_eq_getElem (by rw [size_len]; omega)]; rfl
    have := ih (i + 1) (Pk.crcB r (s.data.toList.getD i 0).toNat) (by omega) (Pk.crcB_lt hr _) hrun
    refine Ev.step (fun k => ?_) (refSum_bits s (i : Int) _ 8 0 (r ^^^ (s.data.toList.getD i 0).toNat) (by omega) hx (by rw [crcN_8, w64 _ (by omega) (by omega)]; exact this))
    simp only [entrepotref21_Sum.l0]
    rw [if_pos (by omega), if_pos (by omega), hb, show ((s.data.toList.getD i 0).toNat : Int) % 4294967296 = ((s.data.toList.getD i 0).toNat : Int) by omega, xor_u32 r _ hr (by omega)]; rfl
theorem refSum (s : ByteArray) (hs : s.size ≤ 140737488351232) : Ev (fun k => entrepotref21_Sum.f k s) ((Pk.sum s.data.toList : Nat) : Int) :=
  refSum_l s hs s.size 0 4294967295 (by omega) (by omega) rfl

/-! What is sealed, and opened. -/
theorem le4_nats (n : Nat) : nats (Pk.le4 n) = [((n % 256 : Nat) : Int), ((n / 256 % 256 : Nat) : Int), ((n / 65536 % 256 : Nat) : Int), ((n / 16777216 % 256 : Nat) : Int)] := by
  unfold Pk.le4
  rw [nats_cons _ (by omega), nats_cons _ (by omega), nats_cons _ (by omega), nats_cons _ (by omega)]; rfl
theorem sealed (s : ByteArray) (hs : s.size ≤ 140737488351232) : pack_Seal.f s = some (S (Pk.shut s.data.toList)) := by
  unfold pack_Seal.f
  rw [sum_ s hs, Option.bind_some, Option.bind_some]
  have e : ([((Pk.sum s.data.toList : Nat) : Int) % 256, ((Pk.sum s.data.toList : Nat) : Int) / 256 % 256, ((Pk.sum s.data.toList : Nat) : Int) / 65536 % 256, ((Pk.sum s.data.toList : Nat) : Int) / 16777216 % 256] : List Int) = nats (Pk.le4 (Pk.sum s.data.toList)) := by
    rw [le4_nats]; simp
  rw [e, str_nats, S_size]
  rw [if_pos (by simp [Pk.le4]; omega), ← S_of s, S_append, S_of]; rfl
theorem refSeal_l (s : ByteArray) (hs : s.size ≤ 140737488351232) (n : Nat) (hn : n < 4294967296) : Ev (fun k => entrepotref21_Seal.l0 k s (n : Int) ([] : List Int) 0) (S (s.data.toList ++ Pk.le4 n)) := by
  refine ⟨5, fun k hk => ?_⟩
  obtain ⟨m, rfl⟩ : ∃ m, k = m + 5 := ⟨k - 5, by omega⟩
  have d : ∀ x : Nat, x < 4294967296 → Int.tdiv (x : Int) 256 % 4294967296 = ((x / 256 : Nat) : Int) := fun x h => by
    rw [Int.tdiv_eq_ediv_of_nonneg (by omega)]; omega
  have r : ∀ x : Nat, Int.tmod (x : Int) 256 % 256 = ((x % 256 : Nat) : Int) := fun x => by
    rw [Int.tmod_eq_emod_of_nonneg (by omega)]; omega
  have w0 : wrap64 ((0 : Int) + 1) = 1 := w64 _ (by omega) (by omega)
  have w1 : wrap64 ((1 : Int) + 1) = 2 := w64 _ (by omega) (by omega)
  have w2 : wrap64 ((2 : Int) + 1) = 3 := w64 _ (by omega) (by omega)
  have w3 : wrap64 ((3 : Int) + 1) = 4 := w64 _ (by omega) (by omega)
  simp only [entrepotref21_Seal.l0]
  rw [if_pos (by decide), if_pos (by simp), r, d n hn, w0, if_pos (by decide), if_pos (by simp), r, d _ (by omega), w1, if_pos (by decide), if_pos (by simp), r, d _ (by omega), w2, if_pos (by decide), if_pos (by simp), r, d _ (by omega), w3, if_neg (by decide)]
  have e : ([] ++ [((n % 256 : Nat) : Int)] ++ [((n / 256 % 256 : Nat) : Int)] ++ [((n / 256 / 256 % 256 : Nat) : Int)] ++ [((n / 256 / 256 / 256 % 256 : Nat) : Int)]) = nats (Pk.le4 n) := by
    rw [le4_nats, show n / 256 / 256 = n / 65536 by omega, show n / 65536 / 256 = n / 16777216 by omega]; rfl
  rw [e, str_nats, S_size, if_pos (by simp [Pk.le4]; omega), ← S_of s, S_append, S_of]
theorem refSealed (s : ByteArray) (hs : s.size ≤ 140737488351232) : Ev (fun k => entrepotref21_Seal.f k s) (S (Pk.shut s.data.toList)) :=
  Ev.bind (refSum s hs) (refSeal_l s hs _ (Pk.sum_lt _))
def t2t (x : List UInt8 × Nat) : ByteArray × Int := (S x.1, (x.2 : Int))
theorem take_ext (s : ByteArray) : s.extract 0 (s.size - 4) = S (s.data.toList.take (s.size - 4)) := by rw [ext_S]; simp
theorem opened (s : ByteArray) (hs : s.size ≤ 140737488351232) : pack_Open.f s = some (t2t (Pk.opn s.data.toList)) := by
  unfold pack_Open.f Pk.opn
  rw [w64 _ (by omega) (by omega), size_len]
  by_cases h : s.size < 4
  · rw [if_pos (by omega), if_pos h]; rfl
  · rw [if_neg (by omega), if_neg h, if_pos (by omega), if_pos (by omega), show ((s.size : Int) - 4).toNat = s.size - 4 by omega, take_ext s]
    rw [sealed _ (by rw [S_size, List.length_take]; omega), Option.bind_some, S_data, S_toList, ByteArray.toList_eq]
    by_cases e : Pk.shut (s.data.toList.take (s.size - 4)) = s.data.toList
    · rw [if_pos e, if_neg (by simpa using e)]; rfl
    · rw [if_neg e, if_pos e]; rfl
theorem refOpened (s : ByteArray) (hs : s.size ≤ 140737488351232) : Ev (fun k => entrepotref21_Open.f k s) (t2t (Pk.opn s.data.toList)) := by
  unfold Pk.opn
  rw [size_len]
  by_cases h : s.size < 4
  · refine ⟨0, fun k _ => ?_⟩
    show entrepotref21_Open.f k s = _
    unfold entrepotref21_Open.f
    rw [if_pos (by omega), if_pos h]; rfl
  · obtain ⟨K, hK⟩ := refSealed (S (s.data.toList.take (s.size - 4))) (by rw [S_size, List.length_take]; omega)
    refine ⟨K, fun k hk => ?_⟩
    show entrepotref21_Open.f k s = _
    unfold entrepotref21_Open.f
    rw [w64 _ (by omega) (by omega)]
    rw [if_neg (by omega), if_neg h, if_pos (by omega), if_pos (by omega), show ((s.size : Int) - 4).toNat = s.size - 4 by omega, take_ext s]
    have hq : entrepotref21_Seal.f k (S (s.data.toList.take (s.size - 4))) = _ := hK k hk
    rw [hq, Option.bind_some, S_data, S_toList, ByteArray.toList_eq]
    by_cases e : Pk.shut (s.data.toList.take (s.size - 4)) = s.data.toList
    · rw [if_pos e, if_neg (by simpa using e)]; rfl
    · rw [if_neg e, if_pos e]; rfl

/-! The small case that must go well. -/
theorem shown : Ev (fun k => entrepotlaw21_shown.f k) true := by
  obtain ⟨K1, h1⟩ := putUint 300 (by omega)
  obtain ⟨K2, h2⟩ := putInt (-1)
  refine ⟨K1 + K2, fun k hk => ?_⟩
  have h1 : pack_PutUint.f k 300 = _ := h1 k (by omega)
  have h2 : pack_PutInt.f k (-1) = _ := h2 k (by omega)
  show entrepotlaw21_shown.f k = _
  unfold entrepotlaw21_shown.f
  rw [getUint _ _ (by decide), Option.bind_some, getText _ _ (by decide), Option.bind_some, h1, Option.bind_some, h2, Option.bind_some, sum_ _ (by decide), Option.bind_some, S_toList, S_toList]
  have g1 : Pk.getU [120, 172, 2] 1 = (300, 3, 0) := by decide +kernel
  have g2 : Pk.getT [2, 97, 98, 99] 0 = ([97, 98], 3, 0) := by decide +kernel
  have g3 : Pk.putUI 300 = [172, 2] := by decide +kernel
  have g4 : Pk.putI (-1) = [1] := by decide +kernel
  have g5 : Pk.sum [49, 50, 51, 52, 53, 54, 55, 56, 57] = 3421780262 := by decide +kernel
  show (if Pk.putUI 300 = _ then _ else _) = _
  rw [if_pos g3]
  have e1 : t3 (Pk.getU (⟨#[120, 172, 2]⟩ : ByteArray).data.toList 1) = (300, 3, 0) := congrArg t3 g1
  have e2 : t3t (Pk.getT (⟨#[2, 97, 98, 99]⟩ : ByteArray).data.toList 0) = (S [97, 98], 3, 0) := congrArg t3t g2
  rw [e1, e2, if_pos rfl, if_pos rfl, if_pos rfl, if_pos g4, if_pos (S_toList _), if_pos rfl, if_pos rfl]
  rw [show (⟨#[49, 50, 51, 52, 53, 54, 55, 56, 57]⟩ : ByteArray).data.toList = [49, 50, 51, 52, 53, 54, 55, 56, 57] from rfl, g5]; rfl
end Go.Proofs.YtbcahalbjegjgaaDoor.Evs
