/- Walks: the reference's whole numbers: Make, Of, Neg, Text. -/
import Derived.Test.YtgpkbembdflnmaaGreatDoorRefD
import Derived.Test.YtgpkbembdflnmaaGreatDoorNumE
namespace Go.Proofs.YtgpkbembdflnmaaGreatDoor
open Go.RowKit
open Go.Lib (decDigits)

def RetRNum (w : World) (z : Int) (e : Ending) (w' : World) : Prop := ∃ ao n c, e = .returned (.agg #[.bool (decide (z < 0)), .slice ao n c]) ∧ RNt w' (.slice ao n c) z.natAbs ∧ Below w.heap.size w w'

theorem aggRNum : ∀ w, (isAgg 31).run Tryz.prog w = .ok true w := fun _ => by kernel_rfl
theorem sizeRNum : ∀ w, (sizeOf 31).run Tryz.prog w = .ok 2 w := fun _ => by kernel_rfl

set_option maxHeartbeats 1000000 in
theorem ref02_Make (b : Bool) (ao : Option Addr) (n c x : Nat) (w : World) (hx : RNt w (.slice ao n c) x) :
    Calls Tryz.prog 26 #[.bool b, .agg #[.slice ao n c]] w (RetRNum w (signed b x)) := by
  obtain ⟨ena, hnc, hcm⟩ := RRow.get hx
  have hsg : decide (signed b x < 0) = (b && decide (0 < n)) := by
    rw [signed_neg]
    have : (0 < x) ↔ (0 < n) := by
      rw [ena]
      constructor
      · intro h
        have h2 : (Limb.limbs B9 x).length ≠ 0 := fun e => by have := (Limb.limbs_nil B9two).1 (List.length_eq_zero_iff.1 e); omega
        omega
      · intro h
        rcases Nat.eq_zero_or_pos x with h0 | h0
        · rw [h0, Limb.limbs_zero] at h; simp at h
        · exact h0
    by_cases h : 0 < n
    · rw [decide_eq_true h, decide_eq_true (this.2 h)]
    · rw [decide_eq_false h, decide_eq_false (fun h2 => h (this.1 h2))]
  have HSG := Lib.hid hsg
  have HX := Lib.hid hx
  clear hsg hx ena
  have fin : ∀ (s : Bool), s = decide (signed b x < 0) → RetRNum w (signed b x) (.returned (.agg #[.bool s, .slice ao n c])) ((w.alloc (Obj.cells #[.slice ao n c] 29)).alloc (Obj.cells #[.bool s, .slice ao n c] 31)) := by
    intro s hs
    subst hs
    refine ⟨ao, n, c, rfl, ?_, ?_⟩
    · rw [signed_abs]
      exact (HX.out.alloc _).alloc _
    · exact ((Below.refl _ _).alloc (Nat.le_refl _) _).alloc (by simp) _
  have FIN := Lib.hid fin
  clear fin
  cases b
  · have hf := FIN.out false (by rw [HSG.out]; rfl)
    have HF := Lib.hid hf
    clear hf
    go_enter Tryz.func26, Tryz.ntmps26
    go_wp2_with fail
    exact post_box Tryz.results26 rfl aggRNum sizeRNum rfl (at_new (by simp)) rfl HF.out
  · have hf := FIN.out (decide (0 < n)) (by rw [HSG.out]; rfl)
    by_cases hn : 0 < n
    · rw [decide_eq_true hn] at hf
      have HF := Lib.hid hf
      clear hf
      go_enter Tryz.func26, Tryz.ntmps26
      go_wp2_with fail
      exact post_box Tryz.results26 rfl aggRNum sizeRNum rfl (at_new (by simp)) rfl HF.out
    · rw [decide_eq_false hn] at hf
      have HF := Lib.hid hf
      clear hf
      go_enter Tryz.func26, Tryz.ntmps26
      go_wp2_with fail
      exact post_box Tryz.results26 rfl aggRNum sizeRNum rfl (at_new (by simp)) rfl HF.out

set_option maxHeartbeats 1000000 in
theorem ref02_Neg (b : Bool) (ao : Option Addr) (n c x : Nat) (w : World) (hx : RNt w (.slice ao n c) x) :
    Calls Tryz.prog 10 #[.agg #[.bool b, .slice ao n c]] w (RetRNum w (signed (!b) x)) := by
  go_enter Tryz.func10, Tryz.ntmps10
  go_wp2_with fail
  refine (ref02_Make (!b) ao n c x _ ((hx.alloc _).alloc _)).mono ?_
  rintro e w1 ⟨ao2, n2, c2, rfl, hN, hbl⟩
  have hb1 := below_box hbl (b := w.heap.size + 1) (at_new (by simp))
  have hc1 := box_cell (j := 0) hb1 rfl
  have hc2 := box_cell (j := 1) hb1 rfl
  have hf1 := box_free (j := 0) hb1
  have hf2 := box_free (j := 1) hb1
  have hbel : Below w.heap.size w w1 := (((Below.refl _ _).alloc (Nat.le_refl _) _).alloc (by simp) _).trans (hbl.mono (by simp; omega))
  clear hbl
  generalize signed (!b) x = z at *
  go_wp2_with fail
  refine post_box Tryz.results10 rfl aggRNum sizeRNum rfl (box_set (j := 1) (.slice ao2 n2 c2) (box_set (j := 0) (.bool (decide (z < 0))) hb1)) rfl ?_
  refine ⟨ao2, n2, c2, rfl, RRow.set (RRow.set hN hb1 (by decide) _) (box_set (j := 0) _ hb1) (by decide) _, ?_⟩
  exact (hbel.setCell (by show w.heap.size ≤ w.heap.size + 1; omega) _).setCell (by show w.heap.size ≤ w.heap.size + 1; omega) _

set_option maxHeartbeats 1000000 in
theorem ref02_Text (ao : Option Addr) (n c : Nat) (z : Int) (w : World) (hx : RNt w (.slice ao n c) z.natAbs) (hn : Limb.nl B9 z.natAbs ≤ 100000000000) :
    Calls Tryz.prog 11 #[.agg #[.bool (decide (z < 0)), .slice ao n c]] w fun e w' => e = .returned (str (numText z)) ∧ Below w.heap.size w w' := by
  have hlen := Lib.hid (show ∀ l : List UInt8, (⟨#[45]⟩ : ByteArray) ++ ⟨l.toArray⟩ = ⟨(45 :: l).toArray⟩ from fun l => by apply ByteArray.ext; simp)
  by_cases hz : z < 0
  · rw [decide_eq_true hz]
    have hnt : numText z = 45 :: decDigits z.natAbs := if_pos hz
    have HT := Lib.hid hnt
    clear hnt hz
    go_enter Tryz.func11, Tryz.ntmps11
    go_wp2_with fail
    refine (ref01_Text _ _ _ _ _ (hx.alloc _) hn).mono ?_
    rintro e w1 ⟨rfl, hbl⟩
    have HB : Below w.heap.size w w1 := ((Below.refl _ _).alloc (Nat.le_refl _) _).trans (hbl.mono (by simp))
    have hsz : (⟨(decDigits z.natAbs).toArray⟩ : ByteArray).size ≤ 2000000000000 := by
      show (decDigits z.natAbs).toArray.size ≤ _
      have h1 := Dec.dec_length_le (9 * Limb.nl B9 z.natAbs) z.natAbs (Nat.lt_of_lt_of_le (Limb.lt_pow_nl B9two z.natAbs) (by
        rw [show B9 = 10 ^ 9 by decide, ← Nat.pow_mul]; exact Nat.pow_le_pow_right (by omega) (by omega)))
      simp; omega
    have hs1 : (⟨#[45]⟩ : ByteArray).size = 1 := rfl
    go_wp2_with fail
    go_ret
    refine ⟨?_, HB⟩
    rw [HT.out, hlen.out]
    rfl
  · rw [decide_eq_false hz]
    have hnt : numText z = decDigits z.natAbs := if_neg hz
    have HT := Lib.hid hnt
    clear hnt hz
    go_enter Tryz.func11, Tryz.ntmps11
    go_wp2_with fail
    refine (ref01_Text _ _ _ _ _ (hx.alloc _) hn).mono ?_
    rintro e w1 ⟨rfl, hbl⟩
    have HB : Below w.heap.size w w1 := ((Below.refl _ _).alloc (Nat.le_refl _) _).trans (hbl.mono (by simp))
    go_wp2_with fail
    go_ret
    exact ⟨by rw [HT.out]; rfl, HB⟩

set_option maxHeartbeats 1000000 in
theorem ref02_Of (z : Int) (w : World) (h1 : -9223372036854775808 ≤ z) (h2 : z ≤ 9223372036854775807) :
    Calls Tryz.prog 8 #[.int .i64 z] w (RetRNum w z) := by
  by_cases hz : 0 ≤ z
  · obtain ⟨x, rfl⟩ : ∃ x : Nat, z = (x : Int) := ⟨z.toNat, by omega⟩
    have hs : signed false x = (x : Int) := rfl
    have HS := Lib.hid hs
    clear hs
    go_enter Tryz.func8, Tryz.ntmps8
    go_wp2_with fail
    refine (ref01_Of x _ (by omega)).mono ?_
    rintro e w1 ⟨ao, n, c, rfl, hN, hbl⟩
    have hb0 := below_box hbl (b := w.heap.size) (at_new rfl)
    have hbel := ((Below.refl _ _).alloc (Nat.le_refl _) (Obj.cells #[.bool false, .slice none 0 0] 31)).trans (hbl.mono (by simp))
    go_wp2_with fail
    refine (ref02_Make false ao n c x _ hN).mono ?_
    rintro e w2 ⟨ao2, n2, c2, rfl, hN2, hbl2⟩
    have hb1 := below_box hbl2 hb0
    have hc1 := box_cell (j := 0) hb1 rfl
    have hc2 := box_cell (j := 1) hb1 rfl
    have hf1 := box_free (j := 0) hb1
    have hf2 := box_free (j := 1) hb1
    have hbel2 := hbel.trans (hbl2.mono hbel.size)
    rw [HS.out] at hN2
    rw [HS.out]
    clear hbl hbl2 hb0 hbel hN
    go_wp2_with fail
    refine post_box Tryz.results8 rfl aggRNum sizeRNum rfl (box_set (j := 1) (.slice ao2 n2 c2) (box_set (j := 0) (.bool (decide ((x : Int) < 0))) hb1)) rfl ?_
    refine ⟨ao2, n2, c2, rfl, RRow.set (RRow.set hN2 hb1 (by decide) _) (box_set (j := 0) _ hb1) (by decide) _, ?_⟩
    exact (hbel2.setCell (by show w.heap.size ≤ w.heap.size; omega) _).setCell (by show w.heap.size ≤ w.heap.size; omega) _
  · obtain ⟨x, rfl, hx0⟩ : ∃ x : Nat, z = -(x : Int) ∧ 0 < x := ⟨(-z).toNat, by omega, by omega⟩
    have hs : signed true x = -(x : Int) := rfl
    have HS := Lib.hid hs
    have hw1 : IntKind.u64.wrap (-(-(x : Int) + 1)) = ((x - 1 : Nat) : Int) := by
      rw [IntWalk.u64_in _ (by omega)]; omega
    clear hs
    go_enter Tryz.func8, Tryz.ntmps8
    go_wp2_with fail
    clear hw1
    have hx1 : ((x - 1 : Nat) : Int) + 1 = (x : Int) := by omega
    rw [hx1]
    clear hx1
    refine (ref01_Of x _ (by omega)).mono ?_
    rintro e w1 ⟨ao, n, c, rfl, hN, hbl⟩
    have hb0 := below_box hbl (b := w.heap.size) (at_new rfl)
    have hbel := ((Below.refl _ _).alloc (Nat.le_refl _) (Obj.cells #[.bool false, .slice none 0 0] 31)).trans (hbl.mono (by simp))
    go_wp2_with fail
    refine (ref02_Make true ao n c x _ hN).mono ?_
    rintro e w2 ⟨ao2, n2, c2, rfl, hN2, hbl2⟩
    have hb1 := below_box hbl2 hb0
    have hc1 := box_cell (j := 0) hb1 rfl
    have hc2 := box_cell (j := 1) hb1 rfl
    have hf1 := box_free (j := 0) hb1
    have hf2 := box_free (j := 1) hb1
    have hbel2 := hbel.trans (hbl2.mono hbel.size)
    rw [HS.out] at hN2
    rw [HS.out]
    clear hbl hbl2 hb0 hbel hN
    have hdt : decide (-(x : Int) < 0) = true := decide_eq_true (by omega)
    have HDT := Lib.hid hdt
    rw [hdt]
    clear hdt
    go_wp2_with fail
    refine post_box Tryz.results8 rfl aggRNum sizeRNum rfl (box_set (j := 1) (.slice ao2 n2 c2) (box_set (j := 0) (.bool true) hb1)) rfl ?_
    refine ⟨ao2, n2, c2, by rw [HDT.out]; rfl, RRow.set (RRow.set hN2 hb1 (by decide) _) (box_set (j := 0) _ hb1) (by decide) _, ?_⟩
    exact (hbel2.setCell (by show w.heap.size ≤ w.heap.size; omega) _).setCell (by show w.heap.size ≤ w.heap.size; omega) _
end Go.Proofs.YtgpkbembdflnmaaGreatDoor
