/- packet's law PacketTurned, walked by hand. Conditions: the sums' table lies as listed; at is a uint16, turn a uint8. -/
import Derived.Test.YtofklpphalalhaaGreatDoorUzLwA
import Derived.Test.YtofklpphalalhaaGreatDoorUzJ26
namespace Go.Proofs.YtofklpphalalhaaGreatDoor
set_option linter.unusedVariables false
set_option linter.unusedSimpArgs false
open Go.RowKit Go.Proofs.YtofklpphalalhaaGreatDoor.PAll Go.Proofs.YtofklpphalalhaaGreatDoorW.PrintWords Go.Proofs.YtofklpphalalhaaGreatDoorW.PrintLast Go.Proofs.YtofklpphalalhaaGreatDoorW.PrintMore
theorem xor8 (a b : Nat) (ha : a < 256) (hb : b < 256) : Go.bits .xor .u8 (a : Int) (b : Int) = ((a ^^^ b : Nat) : Int) := by
  have hx : a ^^^ b < 2 ^ 8 := Nat.xor_lt_two_pow (by omega) (by omega)
  have h1 : (BitVec.ofInt 8 (a : Int)).toNat = a := by
    rw [BitVec.ofInt_natCast, BitVec.toNat_ofNat]; exact Nat.mod_eq_of_lt (by omega)
  have h2 : (BitVec.ofInt 8 (b : Int)).toNat = b := by
    rw [BitVec.ofInt_natCast, BitVec.toNat_ofNat]; exact Nat.mod_eq_of_lt (by omega)
  show IntKind.u8.wrap ((BitVec.ofInt 8 (a : Int) ^^^ BitVec.ofInt 8 (b : Int)).toNat : Int) = _
  rw [BitVec.toNat_xor, h1, h2, IntKind.wrap_u8]
  omega
theorem xor_ne' (a b : Nat) (hb : b ≠ 0) : a ^^^ b ≠ a := fun h => hb (by
  have := congrArg (a ^^^ ·) h
  simpa [← Nat.xor_assoc] using this)
/-- Bytes lie in block g, none of them frozen. -/
def BY (W : World) (g : Nat) (l : List UInt8) : Prop := ∃ (cs : Array Value) (m : Nat), W.heap[g]? = some (.cells cs 5 (m, m + 1)) ∧ l.length ≤ m ∧ l.length ≤ cs.size ∧ ∀ (j : Nat) (b : UInt8), l[j]? = some b → cs[j]? = some (Value.int .u8 (b.toNat : Int))
theorem BY.new (w : World) (s : ByteArray) (l : List UInt8) (h : s.data.toList = l) : BY (Lib.bytesWorld w 5 s) w.heap.size l := by
  have hz : s.size ≤ (Lib.bytesCells w 5 s).size := by
    simp only [Lib.bytesCells, Array.size_append, Array.size_map]
    exact Nat.le_add_right _ _
  have hl : l.length = s.size := by rw [← h]; rfl
  refine ⟨_, _, Lib.bytesWorld_at_new w 5 s, by omega, by omega, fun j b hj => ?_⟩
  have hjl : j < s.size := by rw [← hl]; exact (List.getElem?_eq_some_iff.1 hj).1
  have := Lib.bytesWorld_cell w 5 s j hjl
  rw [Lib.cell_of_heap (Lib.bytesWorld_at_new w 5 s), h, List.getD_eq_getElem?_getD, hj] at this
  exact this
section
variable {W : World} {g : Nat} {l : List UInt8}
theorem BY.cell (h : BY W g l) (j : Nat) (b : UInt8) (hj : l[j]? = some b) : W.cell? ⟨g, j, none⟩ = some (.int .u8 b.toNat) := by
  obtain ⟨cs, m, h1, _, _, h2⟩ := h
  rw [Lib.cell_of_heap h1]; exact h2 j b hj
theorem BY.frozen (h : BY W g l) (j : Nat) (hj : j < l.length) : W.frozen? ⟨g, j, none⟩ = false := by
  obtain ⟨cs, m, h1, hm, _, _⟩ := h
  unfold World.frozen?
  simp only [h1, Bool.and_eq_false_iff, decide_eq_false_iff_not]
  exact .inl (by omega)
theorem BY.put (h : BY W g l) (j : Nat) (x : Nat) (hx : x < 256) : BY (W.setCell ⟨g, j, none⟩ (.int .u8 (x : Int))) g (l.set j (UInt8.ofNat x)) := by
  obtain ⟨cs, m, h1, hm, hc, h2⟩ := h
  refine ⟨cs.setIfInBounds j (.int .u8 (x : Int)), m, ?_, by rw [List.length_set]; exact hm, by rw [List.length_set, Array.size_setIfInBounds]; exact hc, fun i b hi => ?_⟩
  · unfold World.setCell
    simp only [Array.getElem?_modify, h1, if_true, Option.map_some]
    rfl
  · by_cases e : j = i
    · subst e
      have hjl : j < l.length := by have := (List.getElem?_eq_some_iff.1 hi).1; rwa [List.length_set] at this
      rw [List.getElem?_set_self hjl] at hi
      injection hi with hi
      subst hi
      rw [Array.getElem?_setIfInBounds_self_of_lt (by omega), Pk.toNat_ofNat hx]
    · rw [List.getElem?_set_ne e] at hi
      rw [Array.getElem?_setIfInBounds_ne e]
      exact h2 i b hi
theorem BY.far (h : BY W g l) (a : Addr) (u : Value) (hne : g ≠ a.block) : BY (W.setCell a u) g l := by
  obtain ⟨cs, m, h1, h2⟩ := h
  exact ⟨cs, m, by rw [Below.heap_setCell _ _ _ _ hne]; exact h1, h2⟩
theorem BY.below {W' : World} (h : BY W g l) (hb : Below W.heap.size W W') : BY W' g l := by
  obtain ⟨cs, m, h1, h2⟩ := h
  exact ⟨cs, m, (hb.block _ (Array.getElem?_eq_some_iff.1 h1).1).trans h1, h2⟩
theorem BY.str (h : BY W g l) (hl : l.length ≤ 9223372036854775807) (n c : Nat) (hn : n = l.length) : Sem.run Tryz.prog (convert 59 9 (.slice (some ⟨g, 0, none⟩) n c)) W = .ok (.string (Evs.S l)) W := by
  subst hn
  have hC : Kd.C (Kd.int .u8) W (some ⟨g, 0, none⟩) l.length (Evs.nats l) := by
    refine ⟨by simp [Evs.nats], hl, fun _ => ⟨_, rfl, fun j p hp => ⟨[.int .u8 p], rfl, rfl, fun i u hu => ?_⟩⟩⟩
    have hjl : j < l.length := by have := (List.getElem?_eq_some_iff.1 hp).1; simpa [Evs.nats] using this
    match i, hu with
    | 0, hu =>
      simp only [List.getElem?_cons_zero, Option.some.injEq] at hu
      subst hu
      have hp' : ((l[j]'hjl).toNat : Int) = p := by
        simp only [Evs.nats, List.getElem?_map, List.getElem?_eq_getElem hjl, Option.map_some, Option.some.injEq] at hp; exact hp
      have := h.cell j _ (List.getElem?_eq_getElem hjl)
      rw [hp'] at this
      have e : (Addr.add ⟨g, 0, none⟩ (j * (Kd.int .u8).sz + 0)) = ⟨g, j, none⟩ := by
        rw [Addr.add_lit, show (Kd.int .u8).sz = 1 from rfl, Nat.mul_one, Nat.zero_add, Nat.add_zero]
      rw [e]
      exact this
  have := Kd.C_string (P := Tryz.prog) (src := 59) (dst := 9) (e := 5) (c := c) Tryz.underlying59 Tryz.underlying5 Tryz.underlying9 hC
  rw [Evs.str_nats] at this
  exact this
end
set_option maxRecDepth 100000 in
set_option maxHeartbeats 32000000 in
theorem turn0_walk (x : Cn.In) (A6 A7 : Option Addr) (c6 c7 : Nat) (rs : List (List Int)) (A : Option Addr) (c : Nat) (i0 : Int) (w : World) (HT : Tab w) (ho : ∀ d ∈ x.nodes, NodeOk d) (hc7 : x.mx.length ≤ c7) (hcc : rs.length ≤ c) (hC6 : Kd.C k71 w A6 x.nodes.length x.nodes) (hC7 : Kd.C (Kd.int .i64) w A7 x.mx.length x.mx) (hC : Kd.C kRow w A rs.length rs) :
    Calls Tryz.prog 7 #[inV x (.slice A6 x.nodes.length c6) (.slice A7 x.mx.length c7), .agg #[.slice A rs.length c], .int .u16 i0, .int .u8 0] w fun e w' => e = .returned (.bool true) ∧ Below w.heap.size w w' := by
  obtain ⟨V, hV⟩ : ∃ V, V = (w.alloc (inB x (.slice A6 x.nodes.length c6) (.slice A7 x.mx.length c7))).alloc (.cells #[.slice A rs.length c] 28) := ⟨_, rfl⟩
  have hb := below_two w (inB x (.slice A6 x.nodes.length c6) (.slice A7 x.mx.length c7)) (.cells #[.slice A rs.length c] 28)
  have htb := two_blocks w (inB x (.slice A6 x.nodes.length c6) (.slice A7 x.mx.length c7)) (.cells #[.slice A rs.length c] 28)
  rw [← hV] at hb htb
  have hsV : V.heap.size = w.heap.size + 2 := by rw [hV]; simp
  have hT := HT.below hb
  obtain ⟨sm, hsm, hS⟩ := small_walk rs
  obtain ⟨bw, hbw⟩ : ∃ b, wl x = b := ⟨_, rfl⟩
  have hw := well22_walk x A6 A7 c6 c7 V ho hc7 (Kd.C_below hC6 hb) (Kd.C_below hC7 hb)
  rw [hbw, hV] at hw
  have HW := Aside0.mk hw
  have HV := Aside0.mk hV
  have HB := Aside0.mk hb
  have HC6 := Aside0.mk (Kd.C_below hC6 hb)
  have HC7 := Aside0.mk (Kd.C_below hC7 hb)
  have HC := Aside0.mk (Kd.C_below hC hb)
  have HTB := Aside0.mk htb
  have HSV := Aside0.mk hsV
  have HTV := Aside0.mk hT
  have HS := Aside0.mk hS
  have HSM := Aside0.mk hsm
  have HBW := Aside0.mk hbw
  clear hw hV hb htb hsV hT hS hC6 hC7 hC HT hsm hbw
  cases bw with
  | false =>
    go_enter Tryz.func7, Tryz.ntmps7
    go_wp2_with fail
    refine HW.out.mono ?_
    rintro e W1 ⟨rfl, b1⟩
    rw [← HV.out] at b1
    have HSH := Aside0.mk (shown22_walk W1 (HTV.out.below b1))
    have HB1 := Aside0.mk (HB.out.trans (b1.mono HB.out.size))
    clear b1 HW
    go_wp2_with fail
    refine HSH.out.mono ?_
    rintro e W2 ⟨rfl, b2⟩
    have HB2 := Aside0.mk (HB1.out.trans (b2.mono HB1.out.size))
    clear b2 HSH
    go_wp2_with fail
    go_ret
    exact ⟨rfl, HB2.out⟩
  | true =>
    have HWL := Aside0.mk (wl_tells x ho HBW.out)
    cases sm with
    | false =>
      go_enter Tryz.func7, Tryz.ntmps7
      go_wp2_with fail
      refine HW.out.mono ?_
      rintro e W1 ⟨rfl, b1⟩
      rw [← HV.out] at b1
      have p1 : W1.cell? ⟨w.heap.size + 1, 0, none⟩ = some (.slice A rs.length c) := by
        rw [Lib.cell_of_heap ((b1.block _ (by rw [HSV.out]; omega)).trans HTB.out.2)]; rfl
      have HS1 := Aside0.mk (HS.out A c W1 (Kd.C_below HC.out b1) hcc)
      have HT1 := Aside0.mk (HTV.out.below b1)
      have HB1 := Aside0.mk (HB.out.trans (b1.mono HB.out.size))
      clear b1 HW
      go_wp2_with fail
      refine HS1.out.mono ?_
      rintro e W2 ⟨rfl, b2⟩
      have HSH := Aside0.mk (shown22_walk W2 (HT1.out.below b2))
      have HB2 := Aside0.mk (HB1.out.trans (b2.mono HB1.out.size))
      clear b2 HS1 p1
      go_wp2_with fail
      refine HSH.out.mono ?_
      rintro e W3 ⟨rfl, b3⟩
      have HB3 := Aside0.mk (HB2.out.trans (b3.mono HB2.out.size))
      clear b3 HSH
      go_wp2_with fail
      go_ret
      exact ⟨rfl, HB3.out⟩
    | true =>
      go_enter Tryz.func7, Tryz.ntmps7
      go_wp2_with fail
      refine HW.out.mono ?_
      rintro e W1 ⟨rfl, b1⟩
      rw [← HV.out] at b1
      have p1 : W1.cell? ⟨w.heap.size + 1, 0, none⟩ = some (.slice A rs.length c) := by
        rw [Lib.cell_of_heap ((b1.block _ (by rw [HSV.out]; omega)).trans HTB.out.2)]; rfl
      have HS1 := Aside0.mk (HS.out A c W1 (Kd.C_below HC.out b1) hcc)
      have HT1 := Aside0.mk (HTV.out.below b1)
      have HB1 := Aside0.mk (HB.out.trans (b1.mono HB.out.size))
      clear b1 HW
      go_wp2_with fail
      refine HS1.out.mono ?_
      rintro e W2 ⟨rfl, b2⟩
      have HSH := Aside0.mk (shown22_walk W2 (HT1.out.below b2))
      have HB2 := Aside0.mk (HB1.out.trans (b2.mono HB1.out.size))
      clear b2 HS1 p1
      go_wp2_with fail
      refine HSH.out.mono ?_
      rintro e W3 ⟨rfl, b3⟩
      have HB3 := Aside0.mk (HB2.out.trans (b3.mono HB2.out.size))
      clear b3 HSH
      go_wp2_with fail
      go_ret
      exact ⟨rfl, HB3.out⟩
set_option maxRecDepth 100000 in
set_option maxHeartbeats 32000000 in
theorem turn_walk (x : Cn.In) (A6 A7 : Option Addr) (c6 c7 : Nat) (rs : List (List Int)) (A : Option Addr) (c : Nat) (i0 m0 : Int) (hi : 0 ≤ i0 ∧ i0 < 65536) (hm : 0 ≤ m0 ∧ m0 < 256) (hz : m0 ≠ 0) (w : World) (HT : Tab w) (ho : ∀ d ∈ x.nodes, NodeOk d) (hc7 : x.mx.length ≤ c7) (hcc : rs.length ≤ c) (hC6 : Kd.C k71 w A6 x.nodes.length x.nodes) (hC7 : Kd.C (Kd.int .i64) w A7 x.mx.length x.mx) (hC : Kd.C kRow w A rs.length rs) :
    Calls Tryz.prog 7 #[inV x (.slice A6 x.nodes.length c6) (.slice A7 x.mx.length c7), .agg #[.slice A rs.length c], .int .u16 i0, .int .u8 m0] w fun e w' => e = .returned (.bool true) ∧ Below w.heap.size w w' := by
  obtain ⟨V, hV⟩ : ∃ V, V = (w.alloc (inB x (.slice A6 x.nodes.length c6) (.slice A7 x.mx.length c7))).alloc (.cells #[.slice A rs.length c] 28) := ⟨_, rfl⟩
  have hb := below_two w (inB x (.slice A6 x.nodes.length c6) (.slice A7 x.mx.length c7)) (.cells #[.slice A rs.length c] 28)
  have htb := two_blocks w (inB x (.slice A6 x.nodes.length c6) (.slice A7 x.mx.length c7)) (.cells #[.slice A rs.length c] 28)
  rw [← hV] at hb htb
  have hsV : V.heap.size = w.heap.size + 2 := by rw [hV]; simp
  have hT := HT.below hb
  obtain ⟨sm, hsm, hS⟩ := small_walk rs
  obtain ⟨bw, hbw⟩ : ∃ b, wl x = b := ⟨_, rfl⟩
  have hw := well22_walk x A6 A7 c6 c7 V ho hc7 (Kd.C_below hC6 hb) (Kd.C_below hC7 hb)
  rw [hbw, hV] at hw
  have HW := Aside0.mk hw
  have HV := Aside0.mk hV
  have HB := Aside0.mk hb
  have HC6 := Aside0.mk (Kd.C_below hC6 hb)
  have HC7 := Aside0.mk (Kd.C_below hC7 hb)
  have HC := Aside0.mk (Kd.C_below hC hb)
  have HTB := Aside0.mk htb
  have HSV := Aside0.mk hsV
  have HTV := Aside0.mk hT
  have HS := Aside0.mk hS
  have HSM := Aside0.mk hsm
  have HBW := Aside0.mk hbw
  clear hw hV hb htb hsV hT hS hC6 hC7 hC HT hsm hbw
  cases bw with
  | false =>
    go_enter Tryz.func7, Tryz.ntmps7
    go_wp2_with fail
    refine HW.out.mono ?_
    rintro e W1 ⟨rfl, b1⟩
    rw [← HV.out] at b1
    have HSH := Aside0.mk (shown22_walk W1 (HTV.out.below b1))
    have HB1 := Aside0.mk (HB.out.trans (b1.mono HB.out.size))
    clear b1 HW
    go_wp2_with fail
    refine HSH.out.mono ?_
    rintro e W2 ⟨rfl, b2⟩
    have HB2 := Aside0.mk (HB1.out.trans (b2.mono HB1.out.size))
    clear b2 HSH
    go_wp2_with fail
    go_ret
    exact ⟨rfl, HB2.out⟩
  | true =>
    have HWL := Aside0.mk (wl_tells x ho HBW.out)
    cases sm with
    | false =>
      go_enter Tryz.func7, Tryz.ntmps7
      go_wp2_with fail
      refine HW.out.mono ?_
      rintro e W1 ⟨rfl, b1⟩
      rw [← HV.out] at b1
      have p1 : W1.cell? ⟨w.heap.size + 1, 0, none⟩ = some (.slice A rs.length c) := by
        rw [Lib.cell_of_heap ((b1.block _ (by rw [HSV.out]; omega)).trans HTB.out.2)]; rfl
      have HS1 := Aside0.mk (HS.out A c W1 (Kd.C_below HC.out b1) hcc)
      have HT1 := Aside0.mk (HTV.out.below b1)
      have HB1 := Aside0.mk (HB.out.trans (b1.mono HB.out.size))
      clear b1 HW
      go_wp2_with fail
      refine HS1.out.mono ?_
      rintro e W2 ⟨rfl, b2⟩
      have HSH := Aside0.mk (shown22_walk W2 (HT1.out.below b2))
      have HB2 := Aside0.mk (HB1.out.trans (b2.mono HB1.out.size))
      clear b2 HS1 p1
      go_wp2_with fail
      refine HSH.out.mono ?_
      rintro e W3 ⟨rfl, b3⟩
      have HB3 := Aside0.mk (HB2.out.trans (b3.mono HB2.out.size))
      clear b3 HSH
      go_wp2_with fail
      go_ret
      exact ⟨rfl, HB3.out⟩
    | true =>
      have HOK := Aside0.mk (HSM.out rfl)
      have hzb : (m0 == 0) = false := by simpa using hz
      go_enter Tryz.func7, Tryz.ntmps7
      go_wp2_with fail
      refine HW.out.mono ?_
      rintro e W1 ⟨rfl, b1⟩
      rw [← HV.out] at b1
      have p1 : W1.cell? ⟨w.heap.size + 1, 0, none⟩ = some (.slice A rs.length c) := by
        rw [Lib.cell_of_heap ((b1.block _ (by rw [HSV.out]; omega)).trans HTB.out.2)]; rfl
      have HS1 := Aside0.mk (HS.out A c W1 (Kd.C_below HC.out b1) hcc)
      have HT1 := Aside0.mk (HTV.out.below b1)
      have HB1 := Aside0.mk b1
      clear b1 HW
      go_wp2_with fail
      refine HS1.out.mono ?_
      rintro e W2 ⟨rfl, b2⟩
      have HSH := Aside0.mk (shown22_walk W2 (HT1.out.below b2))
      have HT2 := Aside0.mk (HT1.out.below b2)
      have HB2 := Aside0.mk (HB1.out.trans (b2.mono HB1.out.size))
      clear b2 HS1 p1 HT1 HB1
      go_wp2_with fail
      refine HSH.out.mono ?_
      rintro e W3 ⟨rfl, b3⟩
      have hT3 := HT2.out.below b3
      have hb3 := HB2.out.trans (b3.mono HB2.out.size)
      clear HSH HT2 HB2 b3
      have q0 := (hb3.block _ (by rw [HSV.out]; omega)).trans HTB.out.1
      have q1 := (hb3.block _ (by rw [HSV.out]; omega)).trans HTB.out.2
      have HQ0 := Aside0.mk q0
      have HQ1 := Aside0.mk q1
      have HC63 := Aside0.mk (Kd.C_below HC6.out hb3)
      have HC73 := Aside0.mk (Kd.C_below HC7.out hb3)
      have HC3 := Aside0.mk (Kd.C_below HC.out hb3)
      have HB3 := Aside0.mk (HB.out.trans (hb3.mono HB.out.size))
      have HT3 := Aside0.mk hT3
      obtain ⟨x0, x1, x2, x3, x4, x5, x6, x7⟩ := box_cells q0
      clear q0 q1 HV HB HC6 HC7 HC HTB HSV HTV HS HSM HBW hb3 hT3
      obtain ⟨m, hm⟩ := Int.eq_ofNat_of_zero_le hm.1
      subst hm
      have hcv := fun (w : World) (s : ByteArray) => Lib.run_convert_string_bytes (P := Tryz.prog) w 9 59 5 s Tryz.underlying9 Tryz.underlying59 Tryz.underlying5
      have hlx := HWL.out.len
      have hlp := ok_len HOK.out
      have hix := Rr.inst_len x
      have hip := Rr.plan_len rs
      obtain ⟨lx, hlxe⟩ : ∃ n, (Pp.inst x).length = n := ⟨_, rfl⟩
      obtain ⟨lp, hlpe⟩ : ∃ n, (Pp.plan rs).length = n := ⟨_, rfl⟩
      rw [hlxe] at hlx hix
      rw [hlpe] at hlp hip
      obtain ⟨sx, hsx⟩ : ∃ s, Evs.S (Pk.shut (Pp.inst x)) = s := ⟨_, rfl⟩
      obtain ⟨sp, hsp⟩ : ∃ s, Evs.S (Pk.shut (Pp.plan rs)) = s := ⟨_, rfl⟩
      have hput := put_walk x A6 A7 c6 c7 W3 HT3.out (by have := HWL.out.ln; omega) (by have := HWL.out.l6; omega) (by have := HWL.out.l7; omega) HC63.out HC73.out
      rw [hsx] at hput
      have HPUT := Aside0.mk hput
      have HSX := Aside0.mk hsx
      have HSP := Aside0.mk hsp
      clear hput hsx hsp
      go_wp2_with fail
      refine HPUT.out.mono ?_
      rintro e W4 ⟨rfl, b4⟩
      have hx8 : sx.size = lx + 4 := by rw [← HSX.out, Evs.S_size, Pk.shut_len, hlxe]
      have hp8 : sp.size = lp + 4 := by rw [← HSP.out, Evs.S_size, Pk.shut_len, hlpe]
      obtain ⟨X4, hX4⟩ : ∃ X, X = Lib.bytesWorld W4 5 sx := ⟨_, rfl⟩
      have hby := BY.new W4 sx (Pk.shut (Pp.inst x)) (by rw [← HSX.out]; rfl)
      have hbb := below_bytes W4 sx
      rw [← hX4] at hby hbb
      have hk4 := b4.trans (hbb.mono b4.size)
      have hpp := putPlan_walk rs A c X4 (HT3.out.below hk4) (by have := HOK.out.1; omega) (by have := HOK.out.2.1; omega) (Kd.C_below HC3.out hk4)
      rw [HSP.out, hX4] at hpp
      have HPP := Aside0.mk hpp
      have p1 : X4.cell? ⟨w.heap.size + 1, 0, none⟩ = some (.slice A rs.length c) := by
        rw [Lib.cell_of_heap ((hk4.block _ (Array.getElem?_eq_some_iff.1 HQ1.out).1).trans HQ1.out)]; rfl
      rw [hX4] at p1
      have HT4 := Aside0.mk (HT3.out.below hk4)
      have HB4 := Aside0.mk hk4
      have HBY := Aside0.mk hby
      have HX4 := Aside0.mk hX4
      have HGX : Aside0 (W4.heap.size < X4.heap.size ∧ W3.heap.size ≤ W4.heap.size) := ⟨⟨by rw [hX4, Lib.bytesWorld_size]; omega, b4.size⟩⟩
      clear hpp b4 HPUT x0 x1 x2 x3 x4 x5 x6 x7 hX4 hby hbb hk4
      go_wp2_with fail
      refine HPP.out.mono ?_
      rintro e W5 ⟨rfl, b5⟩
      rw [← HX4.out] at b5
      obtain ⟨X5, hX5⟩ : ∃ X, Lib.bytesWorld W5 5 sp = X := ⟨_, rfl⟩
      have hbb := below_bytes W5 sp
      have hyp := BY.new W5 sp (Pk.shut (Pp.plan rs)) (by rw [← HSP.out]; rfl)
      rw [hX5] at hbb hyp
      have hk5 := b5.trans (hbb.mono b5.size)
      have hyx := HBY.out.below hk5
      have hgp : W4.heap.size < W5.heap.size := by have := HGX.out.1; have := b5.size; omega
      have hTX := HT4.out.below hk5
      have hBX := HB4.out.trans (hk5.mono HB4.out.size)
      have hz5 : X5.heap.size = W5.heap.size + 1 := by rw [← hX5, Lib.bytesWorld_size]
      -- the two places
      obtain ⟨kx, hkx⟩ : ∃ k : Nat, (k : Int) = i0 % ((lx : Int) + 4) := ⟨(i0 % ((lx : Int) + 4)).toNat, by have := Int.emod_nonneg i0 (by omega : (lx : Int) + 4 ≠ 0); omega⟩
      obtain ⟨kp, hkp⟩ : ∃ k : Nat, (k : Int) = i0 % ((lp : Int) + 4) := ⟨(i0 % ((lp : Int) + 4)).toNat, by have := Int.emod_nonneg i0 (by omega : (lp : Int) + 4 ≠ 0); omega⟩
      have hkx1 : kx < lx + 4 := by have := Int.emod_lt_of_pos i0 (by omega : (0 : Int) < (lx : Int) + 4); omega
      have hkp1 : kp < lp + 4 := by have := Int.emod_lt_of_pos i0 (by omega : (0 : Int) < (lp : Int) + 4); omega
      have hLx : (Pk.shut (Pp.inst x)).length = lx + 4 := by rw [Pk.shut_len, hlxe]
      have hLp : (Pk.shut (Pp.plan rs)).length = lp + 4 := by rw [Pk.shut_len, hlpe]
      obtain ⟨bx, hbx⟩ : ∃ b, (Pk.shut (Pp.inst x))[kx]? = some b := ⟨_, List.getElem?_eq_getElem (by rw [hLx]; exact hkx1)⟩
      obtain ⟨bp, hbp⟩ : ∃ b, (Pk.shut (Pp.plan rs))[kp]? = some b := ⟨_, List.getElem?_eq_getElem (by rw [hLp]; exact hkp1)⟩
      have hm8 : m < 256 := by omega
      have hbx8 := bx.toNat_lt
      have hbp8 := bp.toNat_lt
      obtain ⟨tx, htx⟩ : ∃ t, bx.toNat ^^^ m = t := ⟨_, rfl⟩
      obtain ⟨tp, htp⟩ : ∃ t, bp.toNat ^^^ m = t := ⟨_, rfl⟩
      have htx8 : tx < 256 := by rw [← htx]; exact Nat.xor_lt_two_pow (n := 8) (by omega) (by omega)
      have htp8 : tp < 256 := by rw [← htp]; exact Nat.xor_lt_two_pow (n := 8) (by omega) (by omega)
      have r1 : Go.bits .xor .u8 (bx.toNat : Int) (m : Int) = (tx : Int) := by rw [xor8 _ _ (by omega) hm8, htx]
      have r2 : Go.bits .xor .u8 (bp.toNat : Int) (m : Int) = (tp : Int) := by rw [xor8 _ _ (by omega) hm8, htp]
      have hnx : (Pk.shut (Pp.inst x))[kx]? ≠ some (UInt8.ofNat tx) := by
        rw [hbx]; intro h; injection h with h
        exact xor_ne' bx.toNat m (by omega) (by rw [htx, h, Pk.toNat_ofNat htx8])
      have hnp : (Pk.shut (Pp.plan rs))[kp]? ≠ some (UInt8.ofNat tp) := by
        rw [hbp]; intro h; injection h with h
        exact xor_ne' bp.toNat m (by omega) (by rw [htp, h, Pk.toNat_ofNat htp8])
      have hox := Pk.opn_turned (Pp.inst x) kx (by omega) (UInt8.ofNat tx) hnx
      have hop := Pk.opn_turned (Pp.plan rs) kp (by omega) (UInt8.ofNat tp) hnp
      -- the worlds
      obtain ⟨X6, hX6⟩ : ∃ X, X5.setCell ⟨W4.heap.size, kx, none⟩ (.int .u8 (tx : Int)) = X := ⟨_, rfl⟩
      obtain ⟨X7, hX7⟩ : ∃ X, X6.setCell ⟨W5.heap.size, kp, none⟩ (.int .u8 (tp : Int)) = X := ⟨_, rfl⟩
      have c1 := hyx.cell kx bx hbx
      have f1 := hyx.frozen kx (by omega)
      have hyx6 := hyx.put kx tx htx8
      have hyp6 := hyp.far ⟨W4.heap.size, kx, none⟩ (.int .u8 (tx : Int)) (by show W5.heap.size ≠ W4.heap.size; omega)
      rw [hX6] at hyx6 hyp6
      have c2 := hyp6.cell kp bp hbp
      have f2 := hyp6.frozen kp (by omega)
      have hyp7 := hyp6.put kp tp htp8
      have hyx7 := hyx6.far ⟨W5.heap.size, kp, none⟩ (.int .u8 (tp : Int)) (by show W4.heap.size ≠ W5.heap.size; omega)
      rw [hX7] at hyx7 hyp7
      have hB7 : Below W3.heap.size W3 X7 := by
        rw [← hX7, ← hX6]
        exact (hBX.setCell (p := ⟨W4.heap.size, kx, none⟩) HGX.out.2 _).setCell (p := ⟨W5.heap.size, kp, none⟩) (by have := HGX.out.2; show W3.heap.size ≤ W5.heap.size; omega) _
      have hT7 := HT3.out.below hB7
      obtain ⟨ux, hux⟩ : ∃ s, Evs.S ((Pk.shut (Pp.inst x)).set kx (UInt8.ofNat tx)) = s := ⟨_, rfl⟩
      obtain ⟨up, hup⟩ : ∃ s, Evs.S ((Pk.shut (Pp.plan rs)).set kp (UInt8.ofNat tp)) = s := ⟨_, rfl⟩
      have hs1 := fun c => hyx7.str (by rw [List.length_set]; omega) (lx + 4) c (by rw [List.length_set, hLx])
      rw [hux] at hs1
      have huz : ux.size = lx + 4 := by rw [← hux, Evs.S_size, List.length_set, hLx]
      have hpz : up.size = lp + 4 := by rw [← hup, Evs.S_size, List.length_set, hLp]
      have hgx := Rr.get_sum ux (by rw [← hux]; exact hox)
      have hgp2 := Rr.getPlan_sum up (by rw [← hup]; exact hop)
      rw [show (ux.size : Int) - 4 = (lx : Int) by omega] at hgx
      rw [show (up.size : Int) - 4 = (lp : Int) by omega] at hgp2
      have e1 : ¬ ((sx.size : Int) < 8) := by omega
      have e2 : ¬ ((sp.size : Int) < 8) := by omega
      have e3 : (sx.size : Int) = (lx : Int) + 4 := by omega
      have e4 : (sp.size : Int) = (lp : Int) + 4 := by omega
      have e7 : i0 % ((lx : Int) + 4) = (kx : Int) := hkx.symm
      have e8 : i0 % ((lp : Int) + 4) = (kp : Int) := hkp.symm
      have e9 : (kx : Int) < (lx : Int) + 4 := by omega
      have e10 : (kp : Int) < (lp : Int) + 4 := by omega
      have hg := get_walk ux (by omega) X7 hT7
      rw [hgx] at hg
      dsimp only at hg
      have HG := Aside0.mk hg
      have HGP := Aside0.mk hgp2
      have HT7 := Aside0.mk hT7
      have HB7 := Aside0.mk hB7
      have HYP := Aside0.mk hyp7
      have HS := Aside0.mk (And.intro hLp (And.intro hup hpz))
      clear hg hgx hgp2 hT7 hB7 hyp7 hyx7 hyx6 hyp6 hyx hyp hox hop hnx hnp htx htp hbx hbp hux hup hLx hLp hpz huz hkx hkp hbx8 hbp8 htx8 htp8 hz5 hBX hTX hgp hk5 hbb b5 HPP p1 HT4 HB4 HBY HX4 HGX hm8
      go_wp2_with fail
      refine HG.out.mono ?_
      rintro e W8 ⟨v8, vl8, rfl, ⟨y6, y7, rfl, hY6, hY7⟩, hD, b8⟩
      obtain ⟨Ay, cy, ey6⟩ := Kd.R_slice hY6
      obtain ⟨By, dy, ey7⟩ := Kd.R_slice hY7
      replace ey6 : y6 = .slice Ay 0 cy := ey6
      replace ey7 : y7 = .slice By 0 dy := ey7
      subst ey6
      subst ey7
      obtain ⟨Am, cm, em, hcm, hCm⟩ := Kd.R_reads (R_of_own hD)
      replace em : vl8 = .slice Am 1 cm := em
      subst em
      obtain ⟨X8, hX8⟩ : ∃ X, W8.alloc (inB Cn.zero (.slice Ay 0 cy) (.slice By 0 dy)) = X := ⟨_, rfl⟩
      have hbx := below_one W8 (inB Cn.zero (.slice Ay 0 cy) (.slice By 0 dy))
      have hnew : (W8.alloc (inB Cn.zero (.slice Ay 0 cy) (.slice By 0 dy))).heap[W8.heap.size]? = some (inB Cn.zero (.slice Ay 0 cy) (.slice By 0 dy)) := Array.getElem?_push_size
      rw [hX8] at hbx hnew
      have hk8 := b8.trans (hbx.mono b8.size)
      have HNEW := Aside0.mk hnew
      have HT8 := Aside0.mk (HT7.out.below hk8)
      have HB8 := Aside0.mk (HB7.out.trans (hk8.mono HB7.out.size))
      have HCM := Aside0.mk (Kd.C_below hCm hbx)
      have hs2 := fun c => (HYP.out.below hk8).str (by rw [List.length_set, HS.out.1]; omega) (lp + 4) c (by rw [List.length_set, HS.out.1])
      rw [HS.out.2.1] at hs2
      have hg := getPlan_walk up (by have := HS.out.2.2; omega) X8 HT8.out
      rw [HGP.out] at hg
      dsimp only at hg
      have HG2 := Aside0.mk hg
      clear hg hk8 hbx hcm hCm b8 hD hY6 hY7 hnew HG HGP HT7 HB7 HYP HS hs1 c1 f1 c2 f2 r1 r2
      go_wp2_with fail
      refine HG2.out.mono ?_
      rintro e W9 ⟨vq, rfl, hQ, b9⟩
      obtain ⟨Aq, cq, eq⟩ := Kd.R_slice hQ
      replace eq : vq = .slice Aq 0 cq := eq
      subst eq
      have hbx := below_two W9 (.cells #[.slice Aq 0 cq] 28) (.cells #[.int .i64 lp, .int .i64 210] 38)
      have htx := two_blocks W9 (.cells #[.slice Aq 0 cq] 28) (.cells #[.int .i64 lp, .int .i64 210] 38)
      have hk9 := b9.trans (hbx.mono b9.size)
      have HFB := Aside0.mk (HB3.out.trans ((HB8.out.trans (hk9.mono HB8.out.size)).mono HB3.out.size))
      have hn9 := (hk9.block _ (Array.getElem?_eq_some_iff.1 HNEW.out).1).trans HNEW.out
      obtain ⟨am, eM, m0_, m1_⟩ := at_T38 (Kd.C_below HCM.out hk9) 0 (by decide) (show (0 : Int) < 1 by decide)
      replace m0_ : World.cell? _ (am.add (0 * 2)) = some (.int .i64 lx) := m0_
      replace m1_ : World.cell? _ ⟨(am.add (0 * 2)).block, (am.add (0 * 2)).off + 1, none⟩ = some (.int .i64 210) := m1_
      subst eM
      simp only [Nat.zero_mul, addz] at m0_ m1_
      have d0 := (Lib.cell_of_heap htx.1 0).trans rfl
      have d1 := (Lib.cell_of_heap htx.2 0).trans rfl
      have d2 := (Lib.cell_of_heap htx.2 1).trans rfl
      have d3 := (Lib.cell_of_heap hn9 6).trans rfl
      have he0 := same38 lx 210
      have he1 := same38 lp 210
      have e11 : IntKind.i64.wrap ((lx : Int) + 4 - 4) = (lx : Int) := by rw [i64_w, Evs.w64 _ (by omega) (by omega)]; omega
      have e12 : IntKind.i64.wrap ((lp : Int) + 4 - 4) = (lp : Int) := by rw [i64_w, Evs.w64 _ (by omega) (by omega)]; omega
      clear hQ b9 hbx htx hk9 hn9 HG2 HB8 HT8 HCM HNEW HC63 HC73 HC3 HQ0 HQ1 HB3 HT3 hs2
      go_wp2_with fail
      go_ret
      exact ⟨by first | rfl | simp, HFB.out⟩
theorem turned_walk (x : Cn.In) (A6 A7 : Option Addr) (c6 c7 : Nat) (rs : List (List Int)) (A : Option Addr) (c : Nat) (i0 m0 : Int) (hi : 0 ≤ i0 ∧ i0 < 65536) (hm : 0 ≤ m0 ∧ m0 < 256) (w : World) (HT : Tab w) (ho : ∀ d ∈ x.nodes, NodeOk d) (hc7 : x.mx.length ≤ c7) (hcc : rs.length ≤ c) (hC6 : Kd.C k71 w A6 x.nodes.length x.nodes) (hC7 : Kd.C (Kd.int .i64) w A7 x.mx.length x.mx) (hC : Kd.C kRow w A rs.length rs) :
    Calls Tryz.prog 7 #[inV x (.slice A6 x.nodes.length c6) (.slice A7 x.mx.length c7), .agg #[.slice A rs.length c], .int .u16 i0, .int .u8 m0] w fun e w' => e = .returned (.bool true) ∧ Below w.heap.size w w' := by
  by_cases hz : m0 = 0
  · subst hz
    exact turn0_walk x A6 A7 c6 c7 rs A c i0 w HT ho hc7 hcc hC6 hC7 hC
  · exact turn_walk x A6 A7 c6 c7 rs A c i0 m0 hi hm hz w HT ho hc7 hcc hC6 hC7 hC
end Go.Proofs.YtofklpphalalhaaGreatDoor
