/- Walks: nat.Bits, bits.Sub32, nat.Sub. -/
import Derived.Test.YtgpkbembdflnmaaGreatDoorNatC
import Derived.Test.YtgpkbembdflnmaaGreatDoorShelf
namespace Go.Proofs.YtgpkbembdflnmaaGreatDoor
open Go.RowKit

/-- What Bits tells: 0 just of 0. -/
def RetBits (w : World) (x : Nat) (e : Ending) (w' : World) : Prop := ∃ z : Int, e = .returned (.int .i64 z) ∧ (x = 0 → z = 0) ∧ (x ≠ 0 → 0 < z) ∧ z ≤ 100000000000000 ∧ Below w.heap.size w w'

theorem bitLen_pos {d : Nat} (h : d ≠ 0) : 0 < Lib.bitLen d := by
  unfold Lib.bitLen Lib.bitLenAux
  rw [if_neg h]; omega
theorem bitLen_le {d : Nat} (h : d < 4294967296) : Lib.bitLen d ≤ 32 := Lib.bitLen_le d 32 (by omega) (by omega)

set_option maxHeartbeats 1000000 in
theorem nat_Bits (ao : Option Addr) (na ca x : Nat) (w : World) (ha : Nt w (.slice ao na ca) x) (hx : Limb.nl B32 x ≤ 1000000000000) :
    Calls Tryz.prog 52 #[.agg #[.slice ao na ca]] w (RetBits w x) := by
  obtain ⟨ena, hca, hcm⟩ := Row.get ha
  have na1 : na ≤ 1000000000000 := by unfold Limb.nl at hx; omega
  have HNA := Lib.hid ena
  clear ena hcm hca
  by_cases h0 : na = 0
  · have hx0 : x = 0 := by
      rw [h0] at HNA
      exact (Limb.limbs_nil B32two).1 (List.length_eq_zero_iff.1 HNA.out.symm)
    have HX := Lib.hid hx0
    clear hx0
    subst h0
    go_enter Tryz.func52, Tryz.ntmps52
    go_wp2
    go_ret
    exact ⟨0, rfl, fun _ => rfl, fun h => absurd HX.out h, by omega, (Below.refl _ _).alloc (Nat.le_refl _) _⟩
  · obtain ⟨q, rfl⟩ : ∃ q, na = q + 1 := ⟨na - 1, by omega⟩
    have hx0 : x ≠ 0 := by
      rintro rfl
      rw [Limb.limbs_zero] at HNA
      have := HNA.out
      simp at this
    have HX := Lib.hid hx0
    clear hx0 h0
    obtain ⟨ga, rfl, hga, hcg⟩ := Row.at ha (k := q) (by omega)
    have hda := Limb.getD_lt B32two (Limb.limbs_lt B32two x) q
    generalize hA : (Limb.limbs B32 x).getD q 0 = d at *
    have hd0 : d ≠ 0 := by rw [← hA]; exact Limb.limbs_top B32two x q HX.out HNA.out.symm
    clear hA
    have b1 := bitLen_pos hd0
    have b2 := bitLen_le hda
    unfold B32 at hda
    have b3 : (0 : Int) ≤ (q : Int) := by omega
    have b4 : ((q + 1 : Nat) : Int) = (q : Int) + 1 := by omega
    have b5 : (((q : Nat) : Int) + 1 == 0) = false := by simp; omega
    have b6 : (q : Int) < ((q + 1 : Nat) : Int) := by omega
    generalize hL : Lib.bitLen d = L at *
    have hcon : ∀ w, Calls Tryz.prog 70 #[.int .u32 (d : Int)] w fun e w' => e = .returned (.int .i64 (L : Int)) ∧ w' = w := fun w => by
      have := Tryz.bits_Len32 (d : Int) w (by omega) (by omega)
      rwa [Int.toNat_natCast, hL] at this
    have HL := Lib.hid hL
    have HCon := Lib.hid hcon
    clear hL hcon
    go_enter Tryz.func52, Tryz.ntmps52
    go_wp2_with fail
    go_quiet ((go_at_call 70; exact Calls.quiet_of_same (HCon.out _)))
    go_wp2_with fail
    go_ret
    refine ⟨_, rfl, fun h => absurd h HX.out, fun _ => ?_, ?_, below_drewN ((Below.refl _ _).alloc (Nat.le_refl _) _) _⟩
    · omega
    · omega

/-- The borrow and the difference of two words. -/
def borrow (x y c : Nat) : Nat := if x < y + c then 1 else 0
def diff (x y c : Nat) : Nat := (x + 8589934592 - y - c) % 4294967296

theorem top_bit (n : Nat) (h : n < 4294967296) : n / 2147483648 = if n.testBit 31 then 1 else 0 := by
  rw [Nat.testBit_eq_decide_div_mod_eq]
  have : (2 : Nat) ^ 31 = 2147483648 := by decide
  rw [this]
  by_cases h1 : 2147483648 ≤ n
  · have e : n / 2147483648 = 1 := by omega
    rw [e]; rfl
  · have e : n / 2147483648 = 0 := by omega
    rw [e]; rfl

theorem bit31 (n : Nat) (h : n < 4294967296) : n.testBit 31 = decide (2147483648 ≤ n) := by
  rw [Nat.testBit_eq_decide_div_mod_eq]
  have : (2 : Nat) ^ 31 = 2147483648 := by decide
  rw [this]
  apply decide_eq_decide.2
  omega

theorem borrow_bits (x y c : Nat) (hx : x < 4294967296) (hy : y < 4294967296) (hc : c ≤ 1) :
    (((4294967295 ^^^ x) &&& y) ||| ((4294967295 ^^^ (x ^^^ y)) &&& diff x y c)) / 2147483648 = borrow x y c := by
  have hd : diff x y c < 4294967296 := Nat.mod_lt _ (by decide)
  have lt32 : ∀ a b : Nat, a < 4294967296 → b < 4294967296 → a ^^^ b < 4294967296 := fun a b ha hb => Nat.xor_lt_two_pow (n := 32) (by omega) (by omega)
  have h1 : ((4294967295 ^^^ x) &&& y) < 4294967296 := Nat.lt_of_le_of_lt Nat.and_le_right hy
  have h2 : ((4294967295 ^^^ (x ^^^ y)) &&& diff x y c) < 4294967296 := Nat.lt_of_le_of_lt Nat.and_le_right hd
  rw [top_bit _ (Nat.or_lt_two_pow (n := 32) (by omega) (by omega))]
  simp only [Nat.testBit_or, Nat.testBit_and, Nat.testBit_xor]
  rw [bit31 x hx, bit31 y hy, bit31 _ hd, show Nat.testBit 4294967295 31 = true by decide]
  unfold borrow diff
  by_cases p : 2147483648 ≤ x <;> by_cases q : 2147483648 ≤ y <;> by_cases z : 2147483648 ≤ (x + 8589934592 - y - c) % 4294967296 <;> by_cases r : x < y + c
  all_goals first
    | (exfalso; omega)
    | (simp [p, q, z, r]; done)

set_option maxHeartbeats 1000000 in
theorem bits_Sub32 (x y c : Nat) (w : World) (hx : x < 4294967296) (hy : y < 4294967296) (hc : c ≤ 1) :
    Calls Tryz.prog 57 #[.int .u32 (x : Int), .int .u32 (y : Int), .int .u32 (c : Int)] w fun e w' =>
      e = .returned (.tuple #[.int .u32 (diff x y c : Int), .int .u32 (borrow x y c : Int)]) ∧ w = w' := by
  have hd : ((x : Int) - y - c) % 4294967296 = ((diff x y c : Nat) : Int) := by unfold diff; omega
  have hb := borrow_bits x y c hx hy hc
  have hdl : diff x y c < 4294967296 := Nat.mod_lt _ (by decide)
  generalize hD : diff x y c = D at *
  generalize hB : borrow x y c = B at *
  have lt32 : ∀ a b : Nat, a < 4294967296 → b < 4294967296 → a ^^^ b < 4294967296 := fun a b ha hb => Nat.xor_lt_two_pow (n := 32) (by omega) (by omega)
  have hE : bits BinOp.or IntKind.u32 (bits BinOp.and IntKind.u32 (bits BinOp.xor IntKind.u32 IntKind.u32.max (x : Int)) (y : Int)) (bits BinOp.and IntKind.u32 (bits BinOp.xor IntKind.u32 IntKind.u32.max (bits BinOp.xor IntKind.u32 (x : Int) (y : Int))) (D : Int)) / 2147483648 = (B : Int) := by
    have e1 : ((4294967295 ^^^ x) &&& y) < 4294967296 := Nat.lt_of_le_of_lt Nat.and_le_right hy
    have e2 : ((4294967295 ^^^ (x ^^^ y)) &&& D) < 4294967296 := Nat.lt_of_le_of_lt Nat.and_le_right hdl
    rw [show IntKind.u32.max = ((4294967295 : Nat) : Int) from rfl, u32_xor_nat x y hx hy, u32_xor_nat 4294967295 x (by decide) hx, u32_xor_nat 4294967295 (x ^^^ y) (by decide) (lt32 _ _ hx hy),
      u32_and_nat _ y (lt32 _ _ (by decide) hx) hy, u32_and_nat _ D (lt32 _ _ (by decide) (lt32 _ _ hx hy)) hdl, u32_or_nat _ _ e1 e2]
    omega
  have HD := Lib.hid hD
  have HBB := Lib.hid hB
  clear hb hD hB lt32
  go_enter Tryz.func57, Tryz.ntmps57
  go_wp2
  all_goals (go_ret2; exact ⟨by first | rfl | rw [hE], rfl⟩)

/-- A number and an error's number. -/
def RetNtE (w : World) (x : Nat) (code : Int) (e : Ending) (w' : World) : Prop := ∃ ao n c, e = .returned (.tuple #[.agg #[.slice ao n c], .int .i64 code]) ∧ Nt w' (.slice ao n c) x ∧ Below w.heap.size w w'

theorem Nt.nil (w : World) : Nt w (.slice none 0 0) 0 := by
  unfold Nt; rw [Limb.limbs_zero]; exact World.ownsRow_nil _ _ _ _

set_option maxHeartbeats 1000000 in
theorem nat_Sub_below (ao bo : Option Addr) (na nb ca cb x y : Nat) (w : World) (ha : Nt w (.slice ao na ca) x) (hb : Nt w (.slice bo nb cb) y)
    (hx : Limb.nl B32 x ≤ 1000000000000) (hy : Limb.nl B32 y ≤ 1000000000000) (hxy : x < y) :
    Calls Tryz.prog 43 #[.agg #[.slice ao na ca], .agg #[.slice bo nb cb]] w (RetNtE w 0 11) := by
  have HX := Lib.hid (Limb.cmp_lt hxy)
  go_enter Tryz.func43, Tryz.ntmps43
  go_wp2_with fail
  refine (nat_Cmp ao bo na nb ca cb x y _ (((ha.alloc _).alloc _).alloc _) (((hb.alloc _).alloc _).alloc _) hx hy).mono ?_
  rintro e w1 ⟨rfl, hbl⟩
  rw [HX.out]
  have hbx := below_box hbl (b := w.heap.size + 2) (at_new (by simp))
  have hce := box_cell (j := 0) hbx rfl
  have hfr := box_free (j := 0) hbx
  go_wp2
  refine post_box1 Tryz.results43 rfl rfl aggNat sizeNat rfl (box_set (j := 0) (.slice none 0 0) hbx) rfl ⟨none, 0, 0, rfl, Nt.nil _, ?_⟩
  exact (((((Below.refl _ _).alloc (Nat.le_refl _) _).alloc (by simp) _).alloc (by simp; omega) _).trans (hbl.mono (by simp; omega))).setCell (by show w.heap.size ≤ w.heap.size + 2; omega) _
theorem diff_borrow (x y c : Nat) (hx : x < 4294967296) (hy : y < 4294967296) (hc : c ≤ 1) : x + 4294967296 * borrow x y c = diff x y c + y + c := by
  unfold borrow diff
  by_cases h : x < y + c
  · rw [if_pos h]; omega
  · rw [if_neg h]; omega
theorem borrow_le (x y c : Nat) : borrow x y c ≤ 1 := by unfold borrow; split <;> omega
theorem diff_lt (x y c : Nat) : diff x y c < 4294967296 := Nat.mod_lt _ (by decide)

/-- What a difference has become behind k limbs. -/
structure SubAt (w wr : World) (g n cp : Nat) (la lb r : List Nat) (k c : Nat) : Prop where
  wr : Wr w wr g n cp r
  sum : Limb.val B32 (la.take k) + B32 ^ k * c = Limb.val B32 (r.take k) + Limb.val B32 (lb.take k)
  rest : ∀ j, k ≤ j → r.getD j 0 = la.getD j 0

theorem SubAt.step {w wr : World} {g n cp : Nat} {la lb r : List Nat} {k c d e : Nat} (h : SubAt w wr g n cp la lb r k c) (hk : k < n) (hd : la.getD k 0 = d) (he : lb.getD k 0 = e)
    (hd2 : d < 4294967296) (he2 : e < 4294967296) (hc : c ≤ 1) :
    SubAt w (wr.setCell ⟨g, k, none⟩ (.int .u32 ((diff d e c : Nat) : Int))) g n cp la lb (r.set k (diff d e c)) (k + 1) (borrow d e c) := by
  have hl := h.wr.len
  refine ⟨h.wr.set k _ (diff_lt _ _ _), ?_, ?_⟩
  · rw [Limb.val_take_set _ _ _ _ (by omega), Limb.val_take_next, Limb.val_take_next, hd, he]
    have := h.sum
    have e0 := diff_borrow d e c hd2 he2 hc
    have e1 : B32 ^ k * d + B32 ^ (k + 1) * borrow d e c = B32 ^ k * diff d e c + B32 ^ k * e + B32 ^ k * c := by
      rw [Nat.pow_succ, Nat.mul_assoc, ← Nat.mul_add, ← Nat.mul_add, ← Nat.mul_add, show d + B32 * borrow d e c = diff d e c + e + c from e0]
    omega
  · intro j hj
    rw [Limb.getD_set _ _ _ _ (by omega), if_neg (by omega)]
    exact h.rest j (by omega)

set_option maxHeartbeats 1000000 in
theorem nat_Sub_ok (ao bo : Option Addr) (na nb ca cb x y : Nat) (w : World) (ha : Nt w (.slice ao na ca) x) (hb : Nt w (.slice bo nb cb) y)
    (hx : Limb.nl B32 x ≤ 1000000000000) (hy : Limb.nl B32 y ≤ 1000000000000) (hxy : y ≤ x) :
    Calls Tryz.prog 43 #[.agg #[.slice ao na ca], .agg #[.slice bo nb cb]] w (RetNtE w (x - y) 0) := by
  have hcmp : Limb.cmp x y = 0 ∨ Limb.cmp x y = 1 := by
    rcases Nat.lt_or_ge y x with h | h
    · exact .inr (Limb.cmp_gt h)
    · exact .inl (Limb.cmp_eq (by omega))
  obtain ⟨z, hz⟩ : ∃ z, Limb.cmp x y = z := ⟨_, rfl⟩
  rw [hz] at hcmp
  have HX := Lib.hid hz
  clear hz
  have hz0 : ¬ z < 0 := by omega
  clear hcmp
  obtain ⟨ena, hca, hcm⟩ := Row.get ha
  obtain ⟨enb, hcb, hcm2⟩ := Row.get hb
  have na1 : na ≤ 1000000000000 := by unfold Limb.nl at hx; omega
  have nb1 : nb ≤ 1000000000000 := by unfold Limb.nl at hy; omega
  have hnn : nb ≤ na := by
    have := Limb.nl_mono B32two hxy
    unfold Limb.nl at this
    omega
  have HNA := Lib.hid ena
  have HNB := Lib.hid enb
  clear ena enb hcm hcm2 hca hcb
  have clone : ∀ W : World, Nt W (.slice ao na ca) x → Calls Tryz.prog 56 #[.slice ao na ca] W fun e w' =>
      (∃ g cp, e = .returned (.slice (some ⟨g, 0, none⟩) na cp) ∧ Hid (Wr W w' g na cp (Limb.limbs B32 x)) ∧ Below W.heap.size W w') ∨ (na = 0 ∧ e = .returned (.slice none 0 0) ∧ w' = W) := by
    intro W hW
    rcases hW.2 with ⟨e0, hn0⟩ | ⟨g0, cap0, cur0, e0, hrest⟩
    · simp only [Value.slice.injEq] at e0
      obtain ⟨rfl, e1, rfl⟩ := e0
      refine (Tryz.slices_Clone_nil na 0 W).mono ?_
      rintro e w' ⟨rfl, rfl⟩
      exact .inr ⟨e1, rfl, rfl⟩
    · simp only [Value.slice.injEq] at e0
      obtain ⟨rfl, _, rfl⟩ := e0
      have hlen := HNA.out
      obtain ⟨i0, hi, hz0, hz1, hz2⟩ := info_parts u32info
      refine (Tryz.slices_Clone i0 (.int .u32 0) 1 4 hi hz0 hz1 hz2 rfl (by decide) (fun _ => by kernel_rfl) g0 0 na ca (u32s (Limb.limbs B32 x)) W (by simp [u32s, hlen]) (by unfold maxLen; omega) (by omega) ?_ (oneCell_u32s _)).mono ?_
      · intro j u hu
        have := World.ownsRow.cells (g := g0) hW rfl j u hu
        have hadd : (⟨g0, 0, none⟩ : Addr).add j = ⟨g0, j, none⟩ := by unfold Addr.add; split <;> simp_all
        rw [hadd] at this
        simpa using this
      · rintro e w' ⟨v', rfl, hown, hne, hbl⟩
        rcases hown.2 with ⟨h1, _⟩ | ⟨g, cap, cur, rfl, hb, hg, r1, r2, r3, r4⟩
        · exact absurd h1 hne
        · exact .inl ⟨g, cap, rfl, ⟨⟨by rw [hown.1], .inr ⟨g, cap, cur, rfl, Nat.le_refl _, hg, r1, r2, r3, r4⟩⟩, hlen.symm, Limb.limbs_lt B32two x, hbl, hb⟩, hbl⟩
  go_enter Tryz.func43, Tryz.ntmps43
  go_wp2_with fail
  refine (nat_Cmp ao bo na nb ca cb x y _ (((ha.alloc _).alloc _).alloc _) (((hb.alloc _).alloc _).alloc _) hx hy).mono ?_
  rintro e w1 ⟨rfl, hbl⟩
  rw [HX.out]
  have hbl0 : Below w.heap.size w w1 := ((((Below.refl _ _).alloc (Nat.le_refl _) _).alloc (by simp) _).alloc (by simp; omega) _).trans (hbl.mono (by simp; omega))
  have hb0 := below_box hbl (b := w.heap.size) (at_old (at_old (at_new rfl)))
  have hb1 := below_box hbl (b := w.heap.size + 1) (at_old (at_new (by simp)))
  have hb2 := below_box hbl (b := w.heap.size + 2) (at_new (by simp))
  have hc0 := box_cell (j := 0) hb0 rfl
  have hc1 := box_cell (j := 0) hb1 rfl
  have hsz : w.heap.size + 3 ≤ w1.heap.size := by have := hbl.size; simp at this; omega
  clear hbl
  go_wp2_with fail
  refine (clone w1 (Row.below ha hbl0)).mono ?_
  rintro e w2 (⟨g, cp, rfl, HW, hbl⟩ | ⟨hna0, rfl, rfl⟩)
  · have hbl2 := hbl0.trans (hbl.mono hbl0.size)
    have hb0' := below_box hbl hb0
    have hb1' := below_box hbl hb1
    have hb2' := below_box hbl hb2
    have HS : Hid (SubAt w w2 g na cp (Limb.limbs B32 x) (Limb.limbs B32 y) (Limb.limbs B32 x) 0 0) := ⟨⟨HW.out.own, HW.out.len, HW.out.lt, hbl2, Nat.le_trans (by omega) HW.out.new⟩, by simp [Limb.val], fun _ _ => rfl⟩
    have hg : w.heap.size + 3 ≤ g := Nat.le_trans hsz HW.out.new
    clear hb0 hb1 hb2 hc0 hc1
    go_wp2_with fail
    go_loopw [7, 20] (fun s7 s20 wr => ∃ (k c : Nat) (r : List Nat), k ≤ na ∧ c ≤ 1 ∧ s7 = .int .u32 c ∧ s20 = .int .i64 k ∧ Hid (SubAt w wr g na cp (Limb.limbs B32 x) (Limb.limbs B32 y) r k c) ∧
        wr.heap[w.heap.size]? = some (.cells #[.slice ao na ca] 66 (0, 0)) ∧ wr.heap[w.heap.size + 1]? = some (.cells #[.slice bo nb cb] 66 (0, 0)) ∧ wr.heap[w.heap.size + 2]? = some (.cells #[.slice none 0 0] 66 (0, 0)))
      (fun _ s20 _ => na - (intOf s20).toNat)
    case atStart => exact ⟨0, 0, _, Nat.zero_le _, Nat.zero_le _, rfl, rfl, HS, hb0', hb1', hb2'⟩
    case round =>
      obtain ⟨k, c, r, hk, hc, rfl, rfl, HR, hb0, hb1, hb2⟩ := hrel
      have hc0 := box_cell (j := 0) hb0 rfl
      have hc1 := box_cell (j := 0) hb1 rfl
      by_cases hlt : k < na
      · have hcr := HR.out.wr.cell k hlt
        have hfr := HR.out.wr.free k
        rw [HR.out.rest k (Nat.le_refl _)] at hcr
        have hda := Limb.getD_lt B32two (Limb.limbs_lt B32two x) k
        have hdb := Limb.getD_lt B32two (Limb.limbs_lt B32two y) k
        unfold B32 at hda hdb
        by_cases hlb : k < nb
        · obtain ⟨gb, rfl, hgb, hcb⟩ := Row.at hb hlb
          have hcb1 := (HR.out.wr.below.cell hgb).trans hcb
          clear hcb
          generalize hA : (Limb.limbs B32 x).getD k 0 = d at *
          generalize hB : (Limb.limbs B32 y).getD k 0 = e at *
          have st := HR.out.step hlt hA hB hda hdb hc
          have hbor := borrow_le d e c
          have ST := Lib.hid st
          have hcon := fun W => bits_Sub32 d e c W hda hdb hc
          have HCon := Lib.hid hcon
          clear hA hB st hcon
          generalize diff d e c = D at *
          generalize borrow d e c = B at *
          go_wp2_with (go_at_call 57; refine (HCon.out _).mono ?_; rintro e w' ⟨rfl, rfl⟩)
          go_roundw
          case rel => exact ⟨k + 1, B, _, by omega, hbor, rfl, by go_num, ST.out, box_far _ hb0 (by simp <;> omega), box_far _ hb1 (by simp <;> omega), box_far _ hb2 (by simp <;> omega)⟩
          case measure => simp [intOf]; omega
        · have hB : (Limb.limbs B32 y).getD k 0 = 0 := by
            have := HNB.out
            simp [List.getD, show (Limb.limbs B32 y).length ≤ k by omega]
          generalize hA : (Limb.limbs B32 x).getD k 0 = d at *
          have st := HR.out.step hlt hA hB hda (by decide) hc
          have hbor := borrow_le d 0 c
          have ST := Lib.hid st
          have hcon : ∀ W, Calls Tryz.prog 57 #[.int .u32 (d : Int), .int .u32 0, .int .u32 (c : Int)] W fun e w' => e = .returned (.tuple #[.int .u32 (diff d 0 c : Int), .int .u32 (borrow d 0 c : Int)]) ∧ W = w' := fun W => bits_Sub32 d 0 c W hda (by decide) hc
          have HCon := Lib.hid hcon
          clear hA hB st hcon hdb
          generalize diff d 0 c = D at *
          generalize borrow d 0 c = B at *
          go_wp2_with (go_at_call 57; refine (HCon.out _).mono ?_; rintro e w' ⟨rfl, rfl⟩)
          go_roundw
          case rel => exact ⟨k + 1, B, _, by omega, hbor, rfl, by go_num, ST.out, box_far _ hb0 (by simp <;> omega), box_far _ hb1 (by simp <;> omega), box_far _ hb2 (by simp <;> omega)⟩
          case measure => simp [intOf]; omega
      · obtain rfl : k = na := by omega
        have hval : Limb.val B32 r = x - y := by
          have h1 := HR.out.sum
          have hl := HR.out.wr.len
          have h2 := HNA.out
          have h3 := HNB.out
          rw [List.take_of_length_le (l := Limb.limbs B32 x) (by omega), List.take_of_length_le (l := r) (by omega), List.take_of_length_le (l := Limb.limbs B32 y) (by omega), Limb.val_limbs B32two, Limb.val_limbs B32two] at h1
          have h4 := Limb.val_lt r HR.out.wr.lt
          rw [hl] at h4
          have : c = 0 := by
            rcases Nat.lt_or_ge 0 c with h | h
            · have : B32 ^ k * 1 ≤ B32 ^ k * c := Nat.mul_le_mul_left _ h
              omega
            · omega
          subst this
          omega
        go_wp2_with fail
        refine (trimmed_any _ _ (x - y) _ HR.out.wr.row HR.out.wr.lt hval (by rw [HR.out.wr.len]; omega)).mono ?_
        rintro e w3 ⟨ao2, n2, c2, rfl, hv, hbl3⟩
        have hbx := below_box hbl3 hb2
        have hce := box_cell (j := 0) hbx rfl
        have hfr := box_free (j := 0) hbx
        go_wp2
        refine post_box1 Tryz.results43 rfl rfl aggNat sizeNat rfl (box_set (j := 0) (.slice ao2 n2 c2) hbx) rfl ⟨ao2, n2, c2, rfl, Row.set hv hbx (by decide) _, ?_⟩
        exact (HR.out.wr.below.trans (hbl3.mono HR.out.wr.below.size)).setCell (by show w.heap.size ≤ w.heap.size + 2; omega) _
  · have hx0 : x - y = 0 := by
      have h2 := HNA.out
      rw [hna0] at h2
      have := (Limb.limbs_nil B32two).1 (List.length_eq_zero_iff.1 h2.symm)
      omega
    clear hna0
    go_wp2_with fail
    refine wp_loop_rounds 1 ?_
    rw [rounds_succ]
    go_wp2_with fail
    refine (trimmed_any _ [] 0 _ (World.ownsRow_nil _ _ _ _) (by simp) rfl (by simp)).mono ?_
    rintro e w3 ⟨ao2, n2, c2, rfl, hv, hbl3⟩
    have hbx := below_box hbl3 hb2
    have hce := box_cell (j := 0) hbx rfl
    have hfr := box_free (j := 0) hbx
    go_wp2
    refine post_box1 Tryz.results43 rfl rfl aggNat sizeNat rfl (box_set (j := 0) (.slice ao2 n2 c2) hbx) rfl ⟨ao2, n2, c2, rfl, by rw [hx0]; exact Row.set hv hbx (by decide) _, ?_⟩
    exact (hbl0.trans (hbl3.mono hbl0.size)).setCell (by show w.heap.size ≤ w.heap.size + 2; omega) _
end Go.Proofs.YtgpkbembdflnmaaGreatDoor
