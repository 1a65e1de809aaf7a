/- jsonic's machine: text, walked by hand. Conditions: the machine lies as told. -/
import Derived.Test.YtainnkpoibgkcaaDoorGivenG
import Derived.Test.YtainnkpoibgkcaaDoorBld
namespace Go.Proofs.YtainnkpoibgkcaaDoor
set_option linter.unusedVariables false
set_option linter.unusedSimpArgs false
open Go.RowKit Go.Proofs.YtainnkpoibgkcaaDoor.PAll Go.Proofs.YtainnkpoibgkcaaDoorW.PrintWords Go.Proofs.YtainnkpoibgkcaaDoorW.PrintLast

namespace Js
theorem sign_pos {l : List UInt8} {m : UInt8} {n : Nat} (h : sign l = some (m, n)) : 1 ≤ n ∧ n ≤ l.length := by
  cases l with
  | nil => cases h
  | cons c r =>
    cases he : esc c with
    | some x => simp only [sign, he, Option.some.injEq, Prod.mk.injEq] at h; simp; omega
    | none =>
      simp only [sign, he] at h
      split at h
      · rename_i hc
        simp only [Option.some.injEq, Prod.mk.injEq] at h
        simp; omega
      · cases h
/-- How a text from behind its opening quote on ends: the text, and what stands behind it; or where it is wrong. -/
inductive TR where
  | ok (t : List UInt8) (rest : List UInt8)
  | bad (rest : List UInt8)
def txt (l : List UInt8) (acc : List UInt8) : TR :=
  match l with
  | [] => .bad []
  | c :: r =>
    if c = 34 then .ok acc r
    else if c = 92 then
      match h : sign r with
      | none => .bad (c :: r)
      | some (m, n) => txt (r.drop n) (acc ++ [m])
    else if c < 32 ∨ 126 < c then .bad (c :: r)
    else txt r (acc ++ [c])
termination_by l.length
decreasing_by
  · simp; omega
  · simp
end Js

/-- Where the machine stands, as a number. -/
def posAt (B : Nat) (w : World) : Nat := match w.cell? ⟨B, 1, none⟩ with
  | some (.int _ n) => n.toNat
  | _ => 0
theorem MS.pos {w : World} {base B p : Nat} {s : ByteArray} {st : List UInt8} {its : List S38} {d0 d1 : Int} (h : MS w base B s p st its d0 d1) : posAt B w = p := by
  unfold posAt; rw [h.cell1]; simp
theorem Bld.below {T : TypeId} {rest : List Value} {base b : Nat} {bs : List Value} {w w' : World} (h : Bld T rest base b bs w) (hb : Below w.heap.size w w') : Bld T rest base b bs w' := by
  have hlt := h.lt
  obtain ⟨h1, p, v, h2, h3, h4⟩ := h
  refine ⟨h1, p, v, h2, by rw [hb.block b hlt]; exact h3, h4.1, ?_⟩
  rcases h4.2 with h5 | ⟨g, cap, cur, e, h6, h7, h8⟩
  · exact .inl h5
  · exact .inr ⟨g, cap, cur, e, h6, by rw [hb.block g (Array.getElem?_eq_some_iff.1 h7).1]; exact h7, h8⟩
theorem Bld.grown {T : TypeId} {rest : List Value} {base b B : Nat} {bs : List Value} {w w' : World} {cs : Array Value} (h : Bld T rest base b bs w) (hg : w.grownBy w' (some B)) (hb : w.heap[B]? = some (.cells cs 67 (0, 0))) (hne : b ≠ B) : Bld T rest base b bs w' := by
  have hlt := h.lt
  obtain ⟨h1, p, v, h2, h3, h4⟩ := h
  refine ⟨h1, p, v, h2, by rw [hg.block b hlt (by simpa using hne)]; exact h3, h4.kept hg (.inr (Lib.ownBlock_ne h4 hb (by decide)))⟩
theorem MS.type {w : World} {base B p : Nat} {s : ByteArray} {st : List UInt8} {its : List S38} {d0 d1 : Int} (h : MS w base B s p st its d0 d1) : ∃ cs, w.heap[B]? = some (.cells cs 67 (0, 0)) := by
  obtain ⟨o, v, hM, _⟩ := h; exact ⟨_, hM⟩
/-- The text's own: the machine, the builder, the item. -/
structure TX (w : World) (base B : Nat) (s : ByteArray) (p : Nat) (st : List UInt8) (its : List S38) (d0 d1 : Int) (b2 bb bk : Nat) (acc : List UInt8) (kd a0 : Int) : Prop where
  ms : MS w base B s p st its d0 d1
  bld : Bld 50 [] b2 bb (Lib.byteCells acc) w
  kb : w.heap[bk]? = some (.cells #[.int .i64 kd, .int .i64 0, .string ByteArray.empty, .int .i64 a0] 38 (0, 0))
  fresh : acc = [] → ∃ q, w.heap[bb]? = some (.cells #[q, .slice none 0 0] 50 (0, 0))
  out : ∀ v, w.cell? ⟨B, 19, none⟩ = some v → v.ownBlock ≠ some bk
section
variable {w w' : World} {base B p b2 bb bk : Nat} {s : ByteArray} {st : List UInt8} {its : List S38} {d0 d1 kd a0 : Int} {acc : List UInt8}
theorem TX.kblt (h : TX w base B s p st its d0 d1 b2 bb bk acc kd a0) : bk < w.heap.size := (Array.getElem?_eq_some_iff.1 h.kb).1
theorem TX.below (h : TX w base B s p st its d0 d1 b2 bb bk acc kd a0) (hb : Below w.heap.size w w') : TX w' base B s p st its d0 d1 b2 bb bk acc kd a0 :=
  ⟨h.ms.below hb, h.bld.below hb, by rw [hb.block bk h.kblt]; exact h.kb, fun e => by
    obtain ⟨q, hq⟩ := h.fresh e
    exact ⟨q, by rw [hb.block bb h.bld.lt]; exact hq⟩, fun v hv => h.out v (by rw [hb.cell (p := ⟨B, 19, none⟩) h.ms.lt] at hv; exact hv)⟩
theorem TX.bbtype (h : TX w base B s p st its d0 d1 b2 bb bk acc kd a0) : ∃ cs, w.heap[bb]? = some (.cells cs 50 (0, 0)) := by
  obtain ⟨_, q, v, _, hb, _⟩ := h.bld; exact ⟨_, hb⟩
theorem TX.ne (h : TX w base B s p st its d0 d1 b2 bb bk acc kd a0) : bb ≠ B ∧ bk ≠ B ∧ bk ≠ bb := by
  obtain ⟨c1, h1⟩ := h.ms.type
  obtain ⟨c2, h2⟩ := h.bbtype
  have h3 := h.kb
  refine ⟨fun e => ?_, fun e => ?_, fun e => ?_⟩
  · rw [e, h1] at h2; simp at h2
  · rw [e, h1] at h3; simp at h3
  · rw [e, h2] at h3; simp at h3
/-- The machine goes on. -/
theorem TX.at_ (h : TX w base B s p st its d0 d1 b2 bb bk acc kd a0) (q : Nat) : TX (w.setCell ⟨B, 1, none⟩ (.int .i64 (q : Int))) base B s q st its d0 d1 b2 bb bk acc kd a0 := by
  obtain ⟨n1, n2, n3⟩ := h.ne
  obtain ⟨cs, hcs⟩ := h.ms.type
  have hg := grown_set w B 1 (.int .i64 (q : Int))
  refine ⟨(h.ms.put (p' := q) (e0 := d0) (e1 := d1) (fun o v hM => hM.set 1 _ rfl) hg).1, h.bld.grown hg hcs n1, ?_, fun e => ?_, fun v hv => h.out v ?_⟩
  · rw [hg.block bk h.kblt (by simpa using n2)]; exact h.kb
  · obtain ⟨q', hq⟩ := h.fresh e
    exact ⟨q', by rw [hg.block bb h.bld.lt (by simpa using n1)]; exact hq⟩
  · rw [World.cell?_setCell_other _ _ _ _ (by simp)] at hv; exact hv
/-- A byte is written. -/
theorem TX.wrote (h : TX w base B s p st its d0 d1 b2 bb bk acc kd a0) (hk0 : Kp bb w w') {c : UInt8} (hb : Bld 50 [] b2 bb (Lib.byteCells acc ++ [.int .u8 (c.toNat : Int)]) w') : TX w' base B s p st its d0 d1 b2 bb bk (acc ++ [c]) kd a0 := by
  have hk := hk0.other
  obtain ⟨n1, n2, n3⟩ := h.ne
  refine ⟨h.ms.others fun k o hko ht => hk k o hko (fun e => ?_) (fun c fz e => ?_), ?_, hk bk _ h.kb (by simpa using n3) (fun c fz e => by cases e), fun e => by simp at e, fun v hv => h.out v ?_⟩
  · obtain ⟨cs, hcs⟩ := h.bbtype
    cases e
    rw [hcs] at hko
    obtain ⟨c, fz, h1 | h1⟩ := ht <;> (rw [h1] at hko; simp at hko)
  · obtain ⟨c', fz', h1 | h1⟩ := ht <;> (rw [h1] at e; simp at e)
  · simpa [Lib.byteCells] using hb
  · obtain ⟨cs, hcs⟩ := h.ms.type
    rw [World.cell?_of_block (w := w) (a := ⟨B, 19, none⟩) (show w'.heap[B]? = w.heap[B]? by rw [hk B _ hcs (by simpa using fun e => n1 e.symm) (fun c fz e => by cases e), hcs])] at hv
    exact hv
theorem MS.setOut (h : MS w base B s p st its d0 d1) (hv : ∀ v, w.cell? ⟨B, 19, none⟩ = some v → v.ownBlock ≠ some bk) (hb : bk ≠ B) (j : Nat) (u : Value) : MS (w.setCell ⟨bk, j, none⟩ u) base B s p st its d0 d1 := by
  obtain ⟨o, v, hM, ho, hB, hst⟩ := h
  have hg := grown_set w bk j u
  have h19 := hv v hM.cells.2.2.2.1
  exact ⟨o, v, hM.grown hg (by simpa using hb), ho.kept hg (.inr h19), hB, hst⟩
theorem TX.start (h : MS w base B s p st its d0 d1) (kd : Int) : TX (((w.setCell ⟨B, 1, none⟩ (.int .i64 ((p + 1 : Nat) : Int))).alloc (.cells #[.int .i64 kd, .int .i64 0, .string ByteArray.empty, .int .i64 (p : Int)] 38)).alloc (.cells #[.pointer none, .slice none 0 0] 50)) base B s (p + 1) st its d0 d1 w.heap.size (w.heap.size + 1) w.heap.size [] kd p := by
  have h1 := (h.put (w' := w.setCell ⟨B, 1, none⟩ (.int .i64 ((p + 1 : Nat) : Int))) (p' := p + 1) (e0 := d0) (e1 := d1) (fun o v hM => hM.set 1 _ rfl) (grown_set _ _ _ _)).1
  have hz : (w.setCell ⟨B, 1, none⟩ (.int .i64 ((p + 1 : Nat) : Int))).heap.size = w.heap.size := by simp [World.setCell]
  have hlt := h.lt
  obtain ⟨w1, hw1⟩ : ∃ w1, w.setCell ⟨B, 1, none⟩ (.int .i64 ((p + 1 : Nat) : Int)) = w1 := ⟨_, rfl⟩
  rw [hw1] at h1 hz ⊢
  rw [← hz]
  have hb2 : ((w1.alloc (.cells #[.int .i64 kd, .int .i64 0, .string ByteArray.empty, .int .i64 (p : Int)] 38)).alloc (.cells #[.pointer none, .slice none 0 0] 50)).heap[w1.heap.size + 1]? = some (.cells #[.pointer none, .slice none 0 0] 50 (0, 0)) := by
    have : (w1.alloc (.cells #[.int .i64 kd, .int .i64 0, .string ByteArray.empty, .int .i64 (p : Int)] 38)).heap.size = w1.heap.size + 1 := by simp
    rw [← this]
    exact Array.getElem?_push_size
  refine ⟨(h1.alloc _).alloc _, ⟨by omega, .pointer none, .slice none 0 0, .inl rfl, hb2, World.ownsRow_nil _ _ _ _⟩, ?_, fun _ => ⟨_, hb2⟩, fun v hv => ?_⟩
  · rw [Below.heap_alloc _ _ _ (by simp)]
    exact Array.getElem?_push_size
  · obtain ⟨o, v', hM, ho, hB, hst⟩ := h1
    have hc := ((hM.below ((Below.refl _ _).alloc (Nat.le_refl _) (.cells #[.int .i64 kd, .int .i64 0, .string ByteArray.empty, .int .i64 (p : Int)] 38))).below ((Below.refl _ _).alloc (Nat.le_refl _) (.cells #[.pointer none, .slice none 0 0] 50))).cells.2.2.2.1
    rw [hc] at hv
    cases hv
    intro e
    have := (ho.lt _ e).2
    omega
/-- What String hands back. -/
theorem string_tx (h : TX w base B s p st its d0 d1 b2 bb bk acc kd a0) :
    Calls Tryd.prog 19 #[.pointer (some ⟨bb, 0, none⟩)] w fun e w' => e = .returned (.string (S acc)) ∧ MS w' base B s p st its d0 d1 ∧ w'.heap[bk]? = some (.cells #[.int .i64 kd, .int .i64 0, .string ByteArray.empty, .int .i64 a0] 38 (0, 0)) ∧ (∀ v, w'.cell? ⟨B, 19, none⟩ = some v → v.ownBlock ≠ some bk) ∧ Below b2 w w' := by
  obtain ⟨n1, n2, n3⟩ := h.ne
  by_cases ha : acc = []
  · obtain ⟨q, hq⟩ := h.fresh ha
    subst ha
    refine (string_fresh (rest := []) hq).mono ?_
    rintro e w' ⟨rfl, rfl⟩
    exact ⟨by rw [show S [] = ByteArray.empty from ByteArray.ext rfl], h.ms.below (Below.drew (Below.refl _ _)), h.kb, h.out, Below.drew (Below.refl _ _)⟩
  · refine (string_calls (rest := []) begins50 h.bld ha).mono ?_
    rintro e w' ⟨rfl, hb, hk0⟩
    have hk := hk0.other
    refine ⟨rfl, h.ms.others fun k o hko ht => hk k o hko (fun e => ?_) (fun c fz e => ?_), hk bk _ h.kb (by simpa using n3) (fun c fz e => by cases e), fun v hv => h.out v ?_, hb⟩
    · obtain ⟨cs, hcs⟩ := h.bbtype
      cases e
      rw [hcs] at hko
      obtain ⟨c, fz, h1 | h1⟩ := ht <;> (rw [h1] at hko; simp at hko)
    · obtain ⟨c', fz', h1 | h1⟩ := ht <;> (rw [h1] at e; simp at e)
    · obtain ⟨cs, hcs⟩ := h.ms.type
      rw [World.cell?_of_block (w := w) (a := ⟨B, 19, none⟩) (show w'.heap[B]? = w.heap[B]? by rw [hk B _ hcs (by simpa using fun e => n1 e.symm) (fun c fz e => by cases e), hcs])] at hv
      exact hv
end
def TextPost (w : World) (base B : Nat) (s : ByteArray) (st : List UInt8) (its : List S38) (d0 d1 kd a0 : Int) (r : Js.TR) (e : Ending) (w' : World) : Prop := match r with
  | .ok t rest => e = .returned (.bool true) ∧ MS w' base B s (s.size - rest.length) st (its ++ [⟨kd, 0, S t, a0⟩]) d0 d1 ∧ Below base w w'
  | .bad rest => e = .returned (.bool false) ∧ (∃ p', MS w' base B s p' st its ((s.size - rest.length : Nat) : Int) 190) ∧ Below base w w'
/-- What holds at the head of each round. -/
def TxR (w0 : World) (base B : Nat) (s : ByteArray) (st : List UInt8) (its : List S38) (d0 d1 : Int) (b2 bb bk : Nat) (kd a0 : Int) (r : Js.TR) (wr : World) : Prop :=
  ∃ p' acc, p' ≤ s.size ∧ acc.length ≤ p' ∧ TX wr base B s p' st its d0 d1 b2 bb bk acc kd a0 ∧ Js.txt (s.data.toList.drop p') acc = r ∧ Below base w0 wr ∧ w0.heap.size ≤ wr.heap.size
theorem TxR.start {w : World} {base B p : Nat} {s : ByteArray} {st : List UInt8} {its : List S38} {d0 d1 : Int} (h : MS w base B s p st its d0 d1) (hp : p < s.size) (kd : Int) {r : Js.TR} (hr : Js.txt (s.data.toList.drop (p + 1)) [] = r) :
    TxR w base B s st its d0 d1 w.heap.size (w.heap.size + 1) w.heap.size kd p r (((w.setCell ⟨B, 1, none⟩ (.int .i64 ((p : Int) + 1))).alloc (.cells #[.int .i64 kd, .int .i64 0, .string ByteArray.empty, .int .i64 (p : Int)] 38)).alloc (.cells #[.pointer none, .slice none 0 0] 50)) := by
  rw [show (p : Int) + 1 = ((p + 1 : Nat) : Int) from rfl]
  have hlt := h.lt
  have hB : base ≤ B := by obtain ⟨o, v, _, _, hB, _⟩ := h; exact hB
  have hb : Below base w (((w.setCell ⟨B, 1, none⟩ (.int .i64 ((p + 1 : Nat) : Int))).alloc (.cells #[.int .i64 kd, .int .i64 0, .string ByteArray.empty, .int .i64 (p : Int)] 38)).alloc (.cells #[.pointer none, .slice none 0 0] 50)) :=
    (((Below.refl base w).setCell (p := ⟨B, 1, none⟩) hB _).alloc (by simp; omega) _).alloc (by simp; omega) _
  exact ⟨p + 1, [], by omega, by simp, TX.start h kd, hr, hb, hb.size⟩
set_option maxRecDepth 100000 in
set_option maxHeartbeats 8000000 in
theorem text_ms {w : World} {base B p : Nat} {s : ByteArray} {st : List UInt8} {its : List S38} {d0 d1 : Int} (h : MS w base B s p st its d0 d1) (hp : p < s.size) (hs : s.size ≤ 1000000000) (hil : its.length ≤ 1000000000) (kd : Int) :
    Calls Tryd.prog 38 #[.pointer (some ⟨B, 0, none⟩), .int .i64 kd] w fun e w' => TextPost w base B s st its d0 d1 kd p (Js.txt (s.data.toList.drop (p + 1)) []) e w' := by
  have hbw := h.base_le
  have hBB : base ≤ B := by obtain ⟨o, v, _, _, hB, _⟩ := h; exact hB
  have hBw := h.lt
  have c1 := h.cell1
  have f1 := h.froz 1
  obtain ⟨w1, hw1⟩ : ∃ w1, w.alloc (.cells #[.int .i64 kd, .int .i64 0, .string ByteArray.empty, .int .i64 p] 38) = w1 := ⟨_, rfl⟩
  obtain ⟨r, hr⟩ : ∃ r, Js.txt (s.data.toList.drop (p + 1)) [] = r := ⟨_, rfl⟩
  rw [hr]
  replace hr := Aside0.mk hr
  have HM := Aside0.mk h
  clear h hw1
  go_enter Tryd.func38, Tryd.ntmps38
  go_wp2_with fail
  go_loopw [7] (fun _ wr => TxR w base B s st its d0 d1 w.heap.size (w.heap.size + 1) w.heap.size kd p r wr) (fun _ wr => s.size - posAt B wr)
  case atStart => exact TxR.start HM.out hp kd hr.out
  case round =>
    obtain ⟨p', acc, hp', hacc, hT, htx, hbel, hsz⟩ := hrel
    have c0 := hT.ms.cell0
    have c1 := hT.ms.cell1
    have f1 := hT.ms.froz 1
    have HBs : Aside0 (base ≤ wr.heap.size) := ⟨hT.ms.base_le⟩
    have HT := Aside0.mk hT
    have HX := Aside0.mk htx
    have HB := Aside0.mk hbel
    have HZ := Aside0.mk hsz
    have HP : Aside0 (posAt B wr = p') := ⟨hT.ms.pos⟩
    clear hT htx hbel hsz
    by_cases hlt : p' < s.size
    · obtain ⟨c, hc⟩ : ∃ c, s[p'] = c := ⟨_, rfl⟩
      have hdrop : s.data.toList.drop p' = c :: s.data.toList.drop (p' + 1) := by
        rw [List.drop_eq_getElem_cons (by rw [size_len]; exact hlt), ← hc]; rfl
      have HX2 : Aside0 (Js.txt (c :: s.data.toList.drop (p' + 1)) acc = r) := ⟨by rw [← hdrop]; exact HX.out⟩
      have hlt' : (p' : Int) < (s.size : Int) := by omega
      clear hdrop HX
      go_wp2_with fail
      go_quiet (fail)
      have HTW1 : TX (wr.drewN nq) base B s p' st its d0 d1 w.heap.size (w.heap.size + 1) w.heap.size acc kd p := HT.out.below (grown_below' _ _)
      have HBW1 : Below base w (wr.drewN nq) := HB.out.trans ((grown_below' _ _).mono HBs.out)
      have HZW1 : w.heap.size ≤ (wr.drewN nq).heap.size := HZ.out
      obtain ⟨W1, hW⟩ : ∃ W, wr.drewN nq = W := ⟨_, rfl⟩
      rw [hW] at HTW1 HBW1 HZW1 ⊢
      clear hW c0 c1 f1 HT HB HZ
      have c0 := HTW1.ms.cell0
      have c1 := HTW1.ms.cell1
      have f1 := HTW1.ms.froz 1
      have HBs : Aside0 (base ≤ W1.heap.size) := ⟨HTW1.ms.base_le⟩
      have HT := Aside0.mk HTW1
      have HB := Aside0.mk HBW1
      have HZ := Aside0.mk HZW1
      clear HTW1 HBW1 HZW1
      go_wp2_with fail
      go_quiet (fail)
      have HTW2 : TX (W1.drewN nq) base B s p' st its d0 d1 w.heap.size (w.heap.size + 1) w.heap.size acc kd p := HT.out.below (grown_below' _ _)
      have HBW2 : Below base w (W1.drewN nq) := HB.out.trans ((grown_below' _ _).mono HBs.out)
      have HZW2 : w.heap.size ≤ (W1.drewN nq).heap.size := HZ.out
      obtain ⟨W2, hW⟩ : ∃ W, W1.drewN nq = W := ⟨_, rfl⟩
      rw [hW] at HTW2 HBW2 HZW2 ⊢
      clear hW c0 c1 f1 HT HB HZ
      have c0 := HTW2.ms.cell0
      have c1 := HTW2.ms.cell1
      have f1 := HTW2.ms.froz 1
      have HBs : Aside0 (base ≤ W2.heap.size) := ⟨HTW2.ms.base_le⟩
      have HT := Aside0.mk HTW2
      have HB := Aside0.mk HBW2
      have HZ := Aside0.mk HZW2
      clear HTW2 HBW2 HZW2
      by_cases h34 : c = 34
      · subst h34
        have hr' : Aside0 (r = .ok acc (s.data.toList.drop (p' + 1))) := ⟨by rw [← HX2.out, Js.txt]; simp⟩
        have hnB := HT.out.ne.2.1
        go_wp2_with fail
        refine (string_tx HT.out).mono ?_
        rintro e W4 ⟨rfl, m4, k4, o4, b4⟩
        have k0 : W4.cell? ⟨w.heap.size, 0, none⟩ = some (.int .i64 kd) := by rw [Lib.cell_of_heap k4]; rfl
        have k1 : W4.cell? ⟨w.heap.size, 1, none⟩ = some (.int .i64 0) := by rw [Lib.cell_of_heap k4]; rfl
        have k2 : W4.cell? ⟨w.heap.size, 2, none⟩ = some (.string ByteArray.empty) := by rw [Lib.cell_of_heap k4]; rfl
        have k3 : W4.cell? ⟨w.heap.size, 3, none⟩ = some (.int .i64 p) := by rw [Lib.cell_of_heap k4]; rfl
        have k5 : W4.frozen? ⟨w.heap.size, 2, none⟩ = false := Lib.frozen_of_heap k4 2
        have MM := Aside0.mk (m4.setOut o4 hnB 2 (.string (S acc)))
        have BB := Aside0.mk ((HB.out.trans (b4.mono hbw)).setCell (p := ⟨w.heap.size, 2, none⟩) hbw (.string (S acc)))
        clear m4 k4 o4 b4 hnB
        go_wp2_with fail
        refine (put_ms MM.out hil ⟨kd, 0, S acc, p⟩).mono ?_
        rintro e W5 ⟨rfl, m5, b5⟩
        have c5 := m5.cell1
        have f5 := m5.froz 1
        have M5 := Aside0.mk m5
        have B5 := Aside0.mk (BB.out.trans b5)
        clear m5 b5 k0 k1 k2 k3 k5 MM BB
        go_wp2_with fail
        go_ret
        rw [hr'.out]
        have hq : s.size - (s.data.toList.drop (p' + 1)).length = p' + 1 := by rw [List.length_drop, size_len]; omega
        have h6 := M5.out.put (w' := W5.setCell ⟨B, 1, none⟩ (.int .i64 ((p' : Int) + 1))) (p' := p' + 1) (e0 := d0) (e1 := d1) (fun o v hM => hM.set 1 _ rfl) (grown_set _ _ _ _)
        refine ⟨rfl, ?_, B5.out.trans h6.2⟩
        rw [hq]
        exact h6.1
      · have h34' : ((c.toNat : Int) == 34) = false := by
          have : c.toNat ≠ 34 := fun e => h34 (UInt8.toNat_inj.1 e)
          simp; omega
        by_cases h92 : c = 92
        · subst h92
          have hwp : IntKind.i64.wrap ((p' : Int) + 1) = ((p' + 1 : Nat) : Int) := by rw [IntKind.wrap_i64]; omega
          have hwp2 : wrap64 ((p' : Int) + 1) = ((p' + 1 : Nat) : Int) := by rw [IntWalk.wrap64_in _ ⟨by omega, by omega⟩]; rfl
          have hb1 : ((p' : Int) + 1 ≤ (s.size : Int)) = True := eq_true (by omega)
          have hb0 : (0 ≤ (p' : Int) + 1) = True := eq_true (by omega)
          have hsg := fun W => sign_calls (s.extract (p' + 1) s.size) (by rw [ByteArray.size_extract]; omega) W
          rw [ext_end] at hsg
          cases hsn : Js.sign (s.data.toList.drop (p' + 1)) with
          | none =>
            rw [hsn] at hsg
            have hsg : ∀ W, Calls Tryd.prog 47 #[.string (s.extract (p' + 1) s.size)] W fun e w' => e = .returned (.tuple #[.int .u8 0, .int .i64 0]) ∧ Below W.heap.size W w' := hsg
            have hr' : Aside0 (r = .bad (s.data.toList.drop p')) := ⟨by
              rw [← HX2.out, Js.txt]
              simp only [show ¬ ((92 : UInt8) = 34) by decide, if_false, if_true]
              rw [show s.data.toList.drop p' = 92 :: s.data.toList.drop (p' + 1) by rw [List.drop_eq_getElem_cons (by rw [size_len]; exact hlt), ← hc]; rfl]
              split
              · rfl
              · rename_i h2; rw [hsn] at h2; cases h2⟩
            replace hsg := Aside0.mk hsg
            clear hsn HX2
            go_wp2_with fail
            refine start_ (n := 16) (S := fun w' => w'.cell? ⟨B, 0, none⟩ = some (.string s) ∧ w'.cell? ⟨B, 1, none⟩ = some (.int .i64 p')) (ds := []) #[false, false, false, false, false, false, false, false, false, false, false, false, false, false, false, false] (by kernel_rfl) rfl rfl ⟨c0, c1⟩ (fun hHeld => ?_)
            refine pure_ (i := 0) (N := some 70) (v := ?_) (a' := ?_) #[true, false, false, false, false, false, false, false, false, false, false, false, false, false, false, false] rfl rfl (by kernel_rfl) (fun _ _ _ h => h) (Or.inl ⟨by rfl, ?_⟩) ?_ ?_
            rotate_left
            · intro w'
              go_simp
              with_reducible rfl
            rotate_left
            · simp only [Act.put, List.setIfInBounds_toArray, List.set_cons_zero, List.set_cons_succ, i64_w, i32_w]
              rfl
            refine pure_ (i := 1) (N := some 71) (v := ?_) (a' := ?_) #[true, true, false, false, false, false, false, false, false, false, false, false, false, false, false, false] rfl rfl (by kernel_rfl) (fun _ _ _ h => h) (Or.inl ⟨by rfl, ?_⟩) ?_ ?_
            rotate_left
            · intro w'
              go_simp
              with_reducible rfl
            rotate_left
            · simp only [Act.put, List.setIfInBounds_toArray, List.set_cons_zero, List.set_cons_succ, i64_w, i32_w]
              rfl
            refine pure_ (i := 2) (N := some 72) (v := ?_) (a' := ?_) #[true, true, true, false, false, false, false, false, false, false, false, false, false, false, false, false] rfl rfl (by kernel_rfl) (fun _ _ _ h => h) (Or.inl ⟨by rfl, ?_⟩) ?_ ?_
            rotate_left
            · intro w'
              go_simp
              with_reducible rfl
            rotate_left
            · simp only [Act.put, List.setIfInBounds_toArray, List.set_cons_zero, List.set_cons_succ, i64_w, i32_w]
              rfl
            refine pure_ (i := 4) (N := some 74) (v := ?_) (a' := ?_) #[true, true, true, false, true, false, false, false, false, false, false, false, false, false, false, false] rfl rfl (by kernel_rfl) (fun _ _ _ h => h) (Or.inl ⟨by rfl, ?_⟩) ?_ ?_
            rotate_left
            · intro w'
              go_simp
              with_reducible rfl
            rotate_left
            · simp only [Act.put, List.setIfInBounds_toArray, List.set_cons_zero, List.set_cons_succ, i64_w, i32_w]
              rfl
            refine pure_ (i := 5) (N := some 75) (v := ?_) (a' := ?_) #[true, true, true, false, true, true, false, false, false, false, false, false, false, false, false, false] rfl rfl (by kernel_rfl) (fun _ _ _ h => h) (Or.inl ⟨by rfl, ?_⟩) ?_ ?_
            rotate_left
            · intro w'
              go_simp
              with_reducible rfl
            rotate_left
            · simp only [Act.put, List.setIfInBounds_toArray, List.set_cons_zero, List.set_cons_succ, i64_w, i32_w]
              rfl
            refine pure_ (i := 6) (N := some 76) (v := ?_) (a' := ?_) #[true, true, true, false, true, true, true, false, false, false, false, false, false, false, false, false] rfl rfl (by kernel_rfl) (fun _ _ _ h => h) (Or.inl ⟨by rfl, ?_⟩) ?_ ?_
            rotate_left
            · intro w'
              go_simp
              with_reducible rfl
            rotate_left
            · simp only [Act.put, List.setIfInBounds_toArray, List.set_cons_zero, List.set_cons_succ, i64_w, i32_w]
              rfl
            refine take_ (i := 3) (N := some 73) (v := ?_) (a' := ?_) #[true, true, true, true, true, true, true, false, false, false, false, false, false, false, false, false] rfl rfl (by kernel_rfl) (fun _ _ _ h => h) (Or.inl ⟨by rfl, ?_⟩) hHeld ?_ ?_
            rotate_left
            · rintro w' ⟨s0, s1⟩
              go_simp
              with_reducible rfl
            rotate_left
            · simp only [Act.put, List.setIfInBounds_toArray, List.set_cons_zero, List.set_cons_succ, i64_w, i32_w]
              rfl
            refine take_ (i := 7) (N := some 77) (v := ?_) (a' := ?_) #[true, true, true, true, true, true, true, true, false, false, false, false, false, false, false, false] rfl rfl (by kernel_rfl) (fun _ _ _ h => h) (Or.inl ⟨by rfl, ?_⟩) hHeld ?_ ?_
            rotate_left
            · rintro w' ⟨s0, s1⟩
              go_simp
              with_reducible rfl
            rotate_left
            · simp only [Act.put, List.setIfInBounds_toArray, List.set_cons_zero, List.set_cons_succ, i64_w, i32_w]
              rfl
            refine pure_ (i := 8) (N := some 78) (v := ?_) (a' := ?_) #[true, true, true, true, true, true, true, true, true, false, false, false, false, false, false, false] rfl rfl (by kernel_rfl) (fun _ _ _ h => h) (Or.inl ⟨by rfl, ?_⟩) ?_ ?_
            rotate_left
            · intro w'
              go_simp
              with_reducible rfl
            rotate_left
            · simp only [Act.put, List.setIfInBounds_toArray, List.set_cons_zero, List.set_cons_succ, i64_w, i32_w]
              rfl
            refine pure_ (i := 9) (N := some 79) (v := ?_) (a' := ?_) #[true, true, true, true, true, true, true, true, true, true, false, false, false, false, false, false] rfl rfl (by kernel_rfl) (fun _ _ _ h => h) (Or.inl ⟨by rfl, ?_⟩) ?_ ?_
            rotate_left
            · intro w'
              go_simp
              with_reducible rfl
            rotate_left
            · simp only [Act.put, List.setIfInBounds_toArray, List.set_cons_zero, List.set_cons_succ, i64_w, i32_w]
              rfl
            refine one_ (i := 10) (N := some 80) #[true, true, true, true, true, true, true, true, true, true, true, false, false, false, false, false] rfl rfl (by kernel_rfl) (by decide) (fun K hK => ?_)
            refine goes_ Tryd.func47 (by kernel_rfl) rfl #[.string (s.extract (p' + 1) s.size)] (by rfl) rfl rfl (by simp only [List.map_toArray, List.map_cons, List.map_nil]; rfl) ?_
            with_reducible refine ((hsg.out _)).mono ?_
            rintro e W3 ⟨rfl, hb3⟩
            refine ⟨_, rfl, ?_⟩
            have HT3 := Aside0.mk (HT.out.below ((Below.refl _ _).drew.trans hb3))
            have HB3 := Aside0.mk (HB.out.trans (((Below.refl _ _).drew.trans hb3).mono HBs.out))
            have HZ3 : Aside0 (w.heap.size ≤ W3.heap.size) := ⟨Nat.le_trans HZ.out hb3.size⟩
            have c0' := HT3.out.ms.cell0
            have c1' := HT3.out.ms.cell1
            refine hK.out _ _ ⟨c0', c1'⟩ (fun hHeld => ?_)
            clear hK K
            refine norm_ (a' := ?_) ?_ ?_
            rotate_left
            · show Act.put _ (some 80) _ = _
              simp only [Act.put, List.setIfInBounds_toArray, List.set_cons_zero, List.set_cons_succ, i64_w, i32_w]
              rfl
            refine pure_ (i := 11) (N := some 69) (v := ?_) (a' := ?_) #[true, true, true, true, true, true, true, true, true, true, true, true, false, false, false, false] rfl rfl (by kernel_rfl) (fun _ _ _ h => h) (Or.inl ⟨by rfl, ?_⟩) ?_ ?_
            rotate_left
            · intro w'
              go_simp
              with_reducible rfl
            rotate_left
            · simp only [Act.put, List.setIfInBounds_toArray, List.set_cons_zero, List.set_cons_succ, i64_w, i32_w]
              rfl
            refine pure_ (i := 12) (N := some 81) (v := ?_) (a' := ?_) #[true, true, true, true, true, true, true, true, true, true, true, true, true, false, false, false] rfl rfl (by kernel_rfl) (fun _ _ _ h => h) (Or.inl ⟨by rfl, ?_⟩) ?_ ?_
            rotate_left
            · intro w'
              go_simp
              with_reducible rfl
            rotate_left
            · simp only [Act.put, List.setIfInBounds_toArray, List.set_cons_zero, List.set_cons_succ, i64_w, i32_w]
              rfl
            refine pure_ (i := 13) (N := some 82) (v := ?_) (a' := ?_) #[true, true, true, true, true, true, true, true, true, true, true, true, true, true, false, false] rfl rfl (by kernel_rfl) (fun _ _ _ h => h) (Or.inl ⟨by rfl, ?_⟩) ?_ ?_
            rotate_left
            · intro w'
              go_simp
              with_reducible rfl
            rotate_left
            · simp only [Act.put, List.setIfInBounds_toArray, List.set_cons_zero, List.set_cons_succ, i64_w, i32_w]
              rfl
            refine pure_ (i := 14) (N := some 8) (v := ?_) (a' := ?_) #[true, true, true, true, true, true, true, true, true, true, true, true, true, true, true, false] rfl rfl (by kernel_rfl) (fun _ _ _ h => h) (Or.inl ⟨by rfl, ?_⟩) ?_ ?_
            rotate_left
            · intro w'
              go_simp
              with_reducible rfl
            rotate_left
            · simp only [Act.put, List.setIfInBounds_toArray, List.set_cons_zero, List.set_cons_succ, i64_w, i32_w]
              rfl
            refine pure_ (i := 15) (N := some 9) (v := ?_) (a' := ?_) #[true, true, true, true, true, true, true, true, true, true, true, true, true, true, true, true] rfl rfl (by kernel_rfl) (fun _ _ _ h => h) (Or.inl ⟨by rfl, ?_⟩) ?_ ?_
            rotate_left
            · intro w'
              go_simp
              with_reducible rfl
            rotate_left
            · simp only [Act.put, List.setIfInBounds_toArray, List.set_cons_zero, List.set_cons_succ, i64_w, i32_w]
              rfl
            refine done_ (by kernel_rfl) ?_

            clear hwp hwp2 hb0 hb1 hsg hb3 hHeld c0 c1 f1 HT HB HZ
            have HT := HT3
            have HB := HB3
            go_wp2_with fail
            refine (fail_ms HT.out.ms (p' : Int) 190).mono ?_
            rintro e W5 ⟨rfl, m5, b5⟩
            have HF := Aside0.mk (And.intro m5 (HB.out.trans b5))
            clear m5 b5
            go_wp2_with fail
            go_ret
            rw [hr'.out]
            have hq : s.size - (s.data.toList.drop p').length = p' := by rw [List.length_drop, size_len]; omega
            refine ⟨rfl, ⟨p', ?_⟩, HF.out.2⟩
            rw [hq]; exact HF.out.1
          | some x =>
            obtain ⟨m, n⟩ := x
            have hn1 := Js.sign_pos hsn
            rw [hsn] at hsg
            have hsg : ∀ W, Calls Tryd.prog 47 #[.string (s.extract (p' + 1) s.size)] W fun e w' => e = .returned (.tuple #[.int .u8 (m.toNat : Int), .int .i64 (n : Int)]) ∧ Below W.heap.size W w' := hsg
            have hl1 : (s.data.toList.drop (p' + 1)).length = s.size - (p' + 1) := by rw [List.length_drop]; rfl
            have hX3 : Aside0 (Js.txt (s.data.toList.drop (p' + n + 1)) (acc ++ [m]) = r) := ⟨by
              rw [← HX2.out, Js.txt.eq_def (92 :: s.data.toList.drop (p' + 1)) acc]
              simp only [show ¬ ((92 : UInt8) = 34) by decide, if_false, if_true]
              split
              · rename_i h2; rw [hsn] at h2; cases h2
              · rename_i m' n' h2
                rw [hsn] at h2
                simp only [Option.some.injEq, Prod.mk.injEq] at h2
                obtain ⟨rfl, rfl⟩ := h2
                rw [List.drop_drop, show p' + 1 + n = p' + n + 1 by omega]⟩
            rw [hl1] at hn1
            have hn0 : ((n : Int) == 0) = false := by simp; omega
            have hpn : (p' : Int) + (n : Int) ≤ 1000000000 := by omega
            have hpn2 : p' + n + 1 ≤ s.size := by omega
            replace hsg := Aside0.mk hsg
            clear hsn HX2 hl1
            go_wp2_with fail
            refine start_ (n := 16) (S := fun w' => w'.cell? ⟨B, 0, none⟩ = some (.string s) ∧ w'.cell? ⟨B, 1, none⟩ = some (.int .i64 p')) (ds := []) #[false, false, false, false, false, false, false, false, false, false, false, false, false, false, false, false] (by kernel_rfl) rfl rfl ⟨c0, c1⟩ (fun hHeld => ?_)
            refine pure_ (i := 0) (N := some 70) (v := ?_) (a' := ?_) #[true, false, false, false, false, false, false, false, false, false, false, false, false, false, false, false] rfl rfl (by kernel_rfl) (fun _ _ _ h => h) (Or.inl ⟨by rfl, ?_⟩) ?_ ?_
            rotate_left
            · intro w'
              go_simp
              with_reducible rfl
            rotate_left
            · simp only [Act.put, List.setIfInBounds_toArray, List.set_cons_zero, List.set_cons_succ, i64_w, i32_w]
              rfl
            refine pure_ (i := 1) (N := some 71) (v := ?_) (a' := ?_) #[true, true, false, false, false, false, false, false, false, false, false, false, false, false, false, false] rfl rfl (by kernel_rfl) (fun _ _ _ h => h) (Or.inl ⟨by rfl, ?_⟩) ?_ ?_
            rotate_left
            · intro w'
              go_simp
              with_reducible rfl
            rotate_left
            · simp only [Act.put, List.setIfInBounds_toArray, List.set_cons_zero, List.set_cons_succ, i64_w, i32_w]
              rfl
            refine pure_ (i := 2) (N := some 72) (v := ?_) (a' := ?_) #[true, true, true, false, false, false, false, false, false, false, false, false, false, false, false, false] rfl rfl (by kernel_rfl) (fun _ _ _ h => h) (Or.inl ⟨by rfl, ?_⟩) ?_ ?_
            rotate_left
            · intro w'
              go_simp
              with_reducible rfl
            rotate_left
            · simp only [Act.put, List.setIfInBounds_toArray, List.set_cons_zero, List.set_cons_succ, i64_w, i32_w]
              rfl
            refine pure_ (i := 4) (N := some 74) (v := ?_) (a' := ?_) #[true, true, true, false, true, false, false, false, false, false, false, false, false, false, false, false] rfl rfl (by kernel_rfl) (fun _ _ _ h => h) (Or.inl ⟨by rfl, ?_⟩) ?_ ?_
            rotate_left
            · intro w'
              go_simp
              with_reducible rfl
            rotate_left
            · simp only [Act.put, List.setIfInBounds_toArray, List.set_cons_zero, List.set_cons_succ, i64_w, i32_w]
              rfl
            refine pure_ (i := 5) (N := some 75) (v := ?_) (a' := ?_) #[true, true, true, false, true, true, false, false, false, false, false, false, false, false, false, false] rfl rfl (by kernel_rfl) (fun _ _ _ h => h) (Or.inl ⟨by rfl, ?_⟩) ?_ ?_
            rotate_left
            · intro w'
              go_simp
              with_reducible rfl
            rotate_left
            · simp only [Act.put, List.setIfInBounds_toArray, List.set_cons_zero, List.set_cons_succ, i64_w, i32_w]
              rfl
            refine pure_ (i := 6) (N := some 76) (v := ?_) (a' := ?_) #[true, true, true, false, true, true, true, false, false, false, false, false, false, false, false, false] rfl rfl (by kernel_rfl) (fun _ _ _ h => h) (Or.inl ⟨by rfl, ?_⟩) ?_ ?_
            rotate_left
            · intro w'
              go_simp
              with_reducible rfl
            rotate_left
            · simp only [Act.put, List.setIfInBounds_toArray, List.set_cons_zero, List.set_cons_succ, i64_w, i32_w]
              rfl
            refine take_ (i := 3) (N := some 73) (v := ?_) (a' := ?_) #[true, true, true, true, true, true, true, false, false, false, false, false, false, false, false, false] rfl rfl (by kernel_rfl) (fun _ _ _ h => h) (Or.inl ⟨by rfl, ?_⟩) hHeld ?_ ?_
            rotate_left
            · rintro w' ⟨s0, s1⟩
              go_simp
              with_reducible rfl
            rotate_left
            · simp only [Act.put, List.setIfInBounds_toArray, List.set_cons_zero, List.set_cons_succ, i64_w, i32_w]
              rfl
            refine take_ (i := 7) (N := some 77) (v := ?_) (a' := ?_) #[true, true, true, true, true, true, true, true, false, false, false, false, false, false, false, false] rfl rfl (by kernel_rfl) (fun _ _ _ h => h) (Or.inl ⟨by rfl, ?_⟩) hHeld ?_ ?_
            rotate_left
            · rintro w' ⟨s0, s1⟩
              go_simp
              with_reducible rfl
            rotate_left
            · simp only [Act.put, List.setIfInBounds_toArray, List.set_cons_zero, List.set_cons_succ, i64_w, i32_w]
              rfl
            refine pure_ (i := 8) (N := some 78) (v := ?_) (a' := ?_) #[true, true, true, true, true, true, true, true, true, false, false, false, false, false, false, false] rfl rfl (by kernel_rfl) (fun _ _ _ h => h) (Or.inl ⟨by rfl, ?_⟩) ?_ ?_
            rotate_left
            · intro w'
              go_simp
              with_reducible rfl
            rotate_left
            · simp only [Act.put, List.setIfInBounds_toArray, List.set_cons_zero, List.set_cons_succ, i64_w, i32_w]
              rfl
            refine pure_ (i := 9) (N := some 79) (v := ?_) (a' := ?_) #[true, true, true, true, true, true, true, true, true, true, false, false, false, false, false, false] rfl rfl (by kernel_rfl) (fun _ _ _ h => h) (Or.inl ⟨by rfl, ?_⟩) ?_ ?_
            rotate_left
            · intro w'
              go_simp
              with_reducible rfl
            rotate_left
            · simp only [Act.put, List.setIfInBounds_toArray, List.set_cons_zero, List.set_cons_succ, i64_w, i32_w]
              rfl
            refine one_ (i := 10) (N := some 80) #[true, true, true, true, true, true, true, true, true, true, true, false, false, false, false, false] rfl rfl (by kernel_rfl) (by decide) (fun K hK => ?_)
            refine goes_ Tryd.func47 (by kernel_rfl) rfl #[.string (s.extract (p' + 1) s.size)] (by rfl) rfl rfl (by simp only [List.map_toArray, List.map_cons, List.map_nil]; rfl) ?_
            with_reducible refine ((hsg.out _)).mono ?_
            rintro e W3 ⟨rfl, hb3⟩
            refine ⟨_, rfl, ?_⟩
            have HT3 := Aside0.mk (HT.out.below ((Below.refl _ _).drew.trans hb3))
            have HB3 := Aside0.mk (HB.out.trans (((Below.refl _ _).drew.trans hb3).mono HBs.out))
            have HZ3 : Aside0 (w.heap.size ≤ W3.heap.size) := ⟨Nat.le_trans HZ.out hb3.size⟩
            have c0' := HT3.out.ms.cell0
            have c1' := HT3.out.ms.cell1
            refine hK.out _ _ ⟨c0', c1'⟩ (fun hHeld => ?_)
            clear hK K
            refine norm_ (a' := ?_) ?_ ?_
            rotate_left
            · show Act.put _ (some 80) _ = _
              simp only [Act.put, List.setIfInBounds_toArray, List.set_cons_zero, List.set_cons_succ, i64_w, i32_w]
              rfl
            refine pure_ (i := 11) (N := some 69) (v := ?_) (a' := ?_) #[true, true, true, true, true, true, true, true, true, true, true, true, false, false, false, false] rfl rfl (by kernel_rfl) (fun _ _ _ h => h) (Or.inl ⟨by rfl, ?_⟩) ?_ ?_
            rotate_left
            · intro w'
              go_simp
              with_reducible rfl
            rotate_left
            · simp only [Act.put, List.setIfInBounds_toArray, List.set_cons_zero, List.set_cons_succ, i64_w, i32_w]
              rfl
            refine pure_ (i := 12) (N := some 81) (v := ?_) (a' := ?_) #[true, true, true, true, true, true, true, true, true, true, true, true, true, false, false, false] rfl rfl (by kernel_rfl) (fun _ _ _ h => h) (Or.inl ⟨by rfl, ?_⟩) ?_ ?_
            rotate_left
            · intro w'
              go_simp
              with_reducible rfl
            rotate_left
            · simp only [Act.put, List.setIfInBounds_toArray, List.set_cons_zero, List.set_cons_succ, i64_w, i32_w]
              rfl
            refine pure_ (i := 13) (N := some 82) (v := ?_) (a' := ?_) #[true, true, true, true, true, true, true, true, true, true, true, true, true, true, false, false] rfl rfl (by kernel_rfl) (fun _ _ _ h => h) (Or.inl ⟨by rfl, ?_⟩) ?_ ?_
            rotate_left
            · intro w'
              go_simp
              with_reducible rfl
            rotate_left
            · simp only [Act.put, List.setIfInBounds_toArray, List.set_cons_zero, List.set_cons_succ, i64_w, i32_w]
              rfl
            refine pure_ (i := 14) (N := some 8) (v := ?_) (a' := ?_) #[true, true, true, true, true, true, true, true, true, true, true, true, true, true, true, false] rfl rfl (by kernel_rfl) (fun _ _ _ h => h) (Or.inl ⟨by rfl, ?_⟩) ?_ ?_
            rotate_left
            · intro w'
              go_simp
              with_reducible rfl
            rotate_left
            · simp only [Act.put, List.setIfInBounds_toArray, List.set_cons_zero, List.set_cons_succ, i64_w, i32_w]
              rfl
            refine pure_ (i := 15) (N := some 9) (v := ?_) (a' := ?_) #[true, true, true, true, true, true, true, true, true, true, true, true, true, true, true, true] rfl rfl (by kernel_rfl) (fun _ _ _ h => h) (Or.inl ⟨by rfl, ?_⟩) ?_ ?_
            rotate_left
            · intro w'
              go_simp
              with_reducible rfl
            rotate_left
            · simp only [Act.put, List.setIfInBounds_toArray, List.set_cons_zero, List.set_cons_succ, i64_w, i32_w]
              rfl
            refine done_ (by kernel_rfl) ?_

            clear hwp hwp2 hb0 hb1 hsg hb3 hHeld c0 c1 f1 HT HB HZ
            have HT := HT3
            have HB := HB3
            have HZ := HZ3
            have hwb := Aside0.mk (writeByte_calls (rest := []) begins50 HT.out.bld (by rw [Lib.byteCells_length]; omega) (m.toNat : Int))
            go_wp2_with fail
            refine hwb.out.mono ?_
            rintro e W4 ⟨rfl, hb4, hb5, hk4⟩
            have HT4 := Aside0.mk (HT.out.wrote hk4 hb4)
            have HB4 := Aside0.mk (HB.out.trans (hb5.mono hbw))
            have HZ4 : Aside0 (w.heap.size ≤ W4.heap.size) := ⟨Nat.le_trans HZ.out hb5.size⟩
            have c4 := HT4.out.ms.cell1
            have f4 := HT4.out.ms.froz 1
            clear hb4 hb5 hk4 hwb c0' c1'
            go_wp2_with fail
            have HT6 := Aside0.mk ((HT4.out.at_ (p' + n)).at_ (p' + n + 1))
            have HB6 := Aside0.mk ((HB4.out.setCell (p := ⟨B, 1, none⟩) hBB (.int .i64 ((p' + n : Nat) : Int))).setCell (p := ⟨B, 1, none⟩) hBB (.int .i64 ((p' + n + 1 : Nat) : Int)))
            have HZ6 : Aside0 (w.heap.size ≤ ((W4.setCell ⟨B, 1, none⟩ (.int .i64 ((p' + n : Nat) : Int))).setCell ⟨B, 1, none⟩ (.int .i64 ((p' + n + 1 : Nat) : Int))).heap.size) := ⟨by have := HZ4.out; simpa [World.setCell] using this⟩
            have HP6 := Aside0.mk HT6.out.ms.pos
            go_roundw
            case rel => exact ⟨p' + n + 1, acc ++ [m], hpn2, by rw [List.length_append, List.length_singleton]; omega, HT6.out, hX3.out, HB6.out, HZ6.out⟩
            case measure =>
              have h7 : posAt B ((W4.setCell ⟨B, 1, none⟩ (.int .i64 ((p' : Int) + (n : Int)))).setCell ⟨B, 1, none⟩ (.int .i64 ((p' : Int) + (n : Int) + 1))) = p' + n + 1 := HP6.out
              rw [h7, HP.out]; omega
        · have h92' : ((c.toNat : Int) == 92) = false := by
            have : c.toNat ≠ 92 := fun e => h92 (UInt8.toNat_inj.1 e)
            simp; omega
          by_cases hlo : c.toNat < 32 ∨ 126 < c.toNat
          · have hr' : Aside0 (r = .bad (s.data.toList.drop p')) := ⟨by
              rw [← HX2.out, Js.txt]
              simp only [h34, h92, if_false]
              rw [if_pos (by rcases hlo with h | h
                             · exact .inl (UInt8.lt_iff_toNat_lt.2 h)
                             · exact .inr (UInt8.lt_iff_toNat_lt.2 h))]
              rw [show s.data.toList.drop p' = c :: s.data.toList.drop (p' + 1) by rw [List.drop_eq_getElem_cons (by rw [size_len]; exact hlt), ← hc]; rfl]⟩
            clear HX2
            rcases hlo with hlo | hlo
            · have hl1 : (c.toNat : Int) < 32 := by omega
              go_wp2_with fail
              refine (fail_ms HT.out.ms (p' : Int) 190).mono ?_
              rintro e W5 ⟨rfl, m5, b5⟩
              have HF := Aside0.mk (And.intro m5 (HB.out.trans b5))
              clear m5 b5
              go_wp2_with fail
              go_ret
              rw [hr'.out]
              have hq : s.size - (s.data.toList.drop p').length = p' := by rw [List.length_drop, size_len]; omega
              refine ⟨rfl, ⟨p', ?_⟩, HF.out.2⟩
              rw [hq]; exact HF.out.1
            · have hl1 : ¬ ((c.toNat : Int) < 32) := by omega
              have hl2 : (126 : Int) < (c.toNat : Int) := by omega
              go_wp2_with fail
              refine (fail_ms HT.out.ms (p' : Int) 190).mono ?_
              rintro e W5 ⟨rfl, m5, b5⟩
              have HF := Aside0.mk (And.intro m5 (HB.out.trans b5))
              clear m5 b5
              go_wp2_with fail
              go_ret
              rw [hr'.out]
              have hq : s.size - (s.data.toList.drop p').length = p' := by rw [List.length_drop, size_len]; omega
              refine ⟨rfl, ⟨p', ?_⟩, HF.out.2⟩
              rw [hq]; exact HF.out.1
          · have hl1 : ¬ ((c.toNat : Int) < 32) := by omega
            have hl2 : ¬ ((126 : Int) < (c.toNat : Int)) := by omega
            have hX3 : Aside0 (Js.txt (s.data.toList.drop (p' + 1)) (acc ++ [c]) = r) := ⟨by
              rw [← HX2.out, Js.txt.eq_def (c :: s.data.toList.drop (p' + 1)) acc]
              simp only [h34, h92, if_false]
              rw [if_neg (fun h => by
                rcases h with h | h
                · exact hlo (.inl (UInt8.lt_iff_toNat_lt.1 h))
                · exact hlo (.inr (UInt8.lt_iff_toNat_lt.1 h)))]⟩
            clear HX2 hlo
            have hwb := Aside0.mk (writeByte_calls (rest := []) begins50 HT.out.bld (by rw [Lib.byteCells_length]; omega) (c.toNat : Int))
            go_wp2_with fail
            refine hwb.out.mono ?_
            rintro e W4 ⟨rfl, hb4, hb5, hk4⟩
            have HT4 := Aside0.mk (HT.out.wrote hk4 hb4)
            have HB4 := Aside0.mk (HB.out.trans (hb5.mono hbw))
            have HZ4 : Aside0 (w.heap.size ≤ W4.heap.size) := ⟨Nat.le_trans HZ.out hb5.size⟩
            have c4 := HT4.out.ms.cell1
            have f4 := HT4.out.ms.froz 1
            clear hb4 hb5 hk4 hwb
            go_wp2_with fail
            have HT6 := Aside0.mk (HT4.out.at_ (p' + 1))
            have HB6 := Aside0.mk (HB4.out.setCell (p := ⟨B, 1, none⟩) hBB (.int .i64 ((p' + 1 : Nat) : Int)))
            have HZ6 : Aside0 (w.heap.size ≤ (W4.setCell ⟨B, 1, none⟩ (.int .i64 ((p' + 1 : Nat) : Int))).heap.size) := ⟨by have := HZ4.out; simpa [World.setCell] using this⟩
            have HP6 := Aside0.mk HT6.out.ms.pos
            go_roundw
            case rel => exact ⟨p' + 1, acc ++ [c], by omega, by rw [List.length_append, List.length_singleton]; omega, HT6.out, hX3.out, HB6.out, HZ6.out⟩
            case measure =>
              have h7 : posAt B (W4.setCell ⟨B, 1, none⟩ (.int .i64 ((p' : Int) + 1))) = p' + 1 := HP6.out
              rw [h7, HP.out]; omega
    · have hpe : p' = s.size := by omega
      have hr' : Aside0 (r = .bad []) := ⟨by
        rw [← HX.out, hpe, List.drop_eq_nil_of_le (by rw [size_len]; exact Nat.le_refl _), Js.txt]⟩
      have hlt' : ¬ ((p' : Int) < (s.size : Int)) := by omega
      clear HX hpe
      go_wp2_with fail
      go_quiet (fail)
      have HT1 : TX (wr.drewN nq) base B s p' st its d0 d1 w.heap.size (w.heap.size + 1) w.heap.size acc kd p := HT.out.below (grown_below' _ _)
      have HB1 : Below base w (wr.drewN nq) := HB.out.trans ((grown_below' _ _).mono HBs.out)
      obtain ⟨W1, hW⟩ : ∃ W, wr.drewN nq = W := ⟨_, rfl⟩
      rw [hW] at HT1 HB1 ⊢
      clear hW c0 c1 f1 HT HB HZ
      have c0 := HT1.ms.cell0
      replace HT1 := Aside0.mk HT1
      replace HB1 := Aside0.mk HB1
      go_wp2_with fail
      refine (fail_ms HT1.out.ms (s.size : Int) 190).mono ?_
      rintro e W5 ⟨rfl, m5, b5⟩
      have HF := Aside0.mk (And.intro m5 (HB1.out.trans b5))
      clear m5 b5
      go_wp2_with fail
      go_ret
      rw [hr'.out]
      exact ⟨rfl, ⟨p', HF.out.1⟩, HF.out.2⟩
end Go.Proofs.YtainnkpoibgkcaaDoor
