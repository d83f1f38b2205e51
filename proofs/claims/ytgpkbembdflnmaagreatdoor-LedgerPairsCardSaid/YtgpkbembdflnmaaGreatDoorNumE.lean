/- Walks: num.Text, num.Parse, num.Of. -/
import Derived.Test.YtgpkbembdflnmaaGreatDoorNumD
import Derived.Test.YtgpkbembdflnmaaGreatDoorParseB
import Derived.Test.YtgpkbembdflnmaaGreatDoorText
namespace Go.Proofs.YtgpkbembdflnmaaGreatDoor
open Go.RowKit
open Go.Lib (decDigits)

/-- The text of a whole number. -/
def numText (z : Int) : List UInt8 := if z < 0 then 45 :: decDigits z.natAbs else decDigits z.natAbs

theorem dec_nl (x : Nat) : (decDigits x).length ≤ 10 * Limb.nl B32 x + 1 := by
  refine Dec.dec_length_le _ _ ?_
  refine Nat.lt_of_lt_of_le (Limb.lt_pow_nl B32two x) ?_
  refine Nat.le_trans (Nat.pow_le_pow_left (show B32 ≤ 10 ^ 10 by decide) _) ?_
  rw [← Nat.pow_mul]
  exact Nat.pow_le_pow_right (by omega) (by omega)

set_option maxHeartbeats 1000000 in
theorem num_Text (ao : Option Addr) (n c : Nat) (z : Int) (w : World) (hx : Nt w (.slice ao n c) z.natAbs) (hn : Limb.nl B32 z.natAbs ≤ 100000000000) (htab : Tab w) :
    Calls Tryz.prog 31 #[.agg #[.slice ao n c, .bool (decide (z < 0))]] w fun e w' => e = .returned (str (numText z)) ∧ Below w.heap.size w w' := by
  have htab1 : ∀ o : Obj, Tab (w.alloc o) := fun o => htab.below ((Below.refl _ _).alloc (Nat.le_refl _) o)
  have hlen := Lib.hid (show ∀ l : List UInt8, (⟨#[45]⟩ : ByteArray) ++ ⟨l.toArray⟩ = ⟨(45 :: l).toArray⟩ from fun l => by apply ByteArray.ext; simp)
  by_cases hz : z < 0
  · rw [decide_eq_true hz]
    have hnt : numText z = 45 :: decDigits z.natAbs := if_pos hz
    have HT := Lib.hid hnt
    clear hnt hz
    go_enter Tryz.func31, Tryz.ntmps31
    go_wp2_with fail
    refine (nat_Text _ _ _ _ _ (hx.alloc _) hn (htab1 _)).mono ?_
    rintro e w1 ⟨rfl, hbl⟩
    have HB : Below w.heap.size w w1 := ((Below.refl _ _).alloc (Nat.le_refl _) _).trans (hbl.mono (by simp))
    have hsz : (⟨(decDigits z.natAbs).toArray⟩ : ByteArray).size ≤ 2000000000000 := by show (decDigits z.natAbs).toArray.size ≤ _; have := dec_nl z.natAbs; simp; omega
    have hs1 : (⟨#[45]⟩ : ByteArray).size = 1 := rfl
    go_wp2_with fail
    go_ret
    refine ⟨?_, HB⟩
    rw [HT.out, hlen.out]
    rfl
  · rw [decide_eq_false hz]
    have hnt : numText z = decDigits z.natAbs := if_neg hz
    have HT := Lib.hid hnt
    clear hnt hz
    go_enter Tryz.func31, Tryz.ntmps31
    go_wp2_with fail
    refine (nat_Text _ _ _ _ _ (hx.alloc _) hn (htab1 _)).mono ?_
    rintro e w1 ⟨rfl, hbl⟩
    have HB : Below w.heap.size w w1 := ((Below.refl _ _).alloc (Nat.le_refl _) _).trans (hbl.mono (by simp))
    go_wp2_with fail
    go_ret
    exact ⟨by rw [HT.out]; rfl, HB⟩

theorem cut_minus (r : List UInt8) (w : World) :
    Calls Tryz.prog 50 #[str (45 :: r), .string ⟨#[45]⟩] w fun e w' => e = .returned (.tuple #[str r, .bool true]) ∧ w' = w := by
  refine (Tryz.strings_CutPrefix ⟨(45 :: r).toArray⟩ ⟨#[45]⟩ w).mono ?_
  rintro e w' ⟨rfl, rfl⟩
  refine ⟨?_, rfl⟩
  simp [Lib.trimPrefix, Lib.hasPrefix, str]

theorem cut_none (l : List UInt8) (w : World) (h : l.head? ≠ some 45) :
    Calls Tryz.prog 50 #[str l, .string ⟨#[45]⟩] w fun e w' => e = .returned (.tuple #[str l, .bool false]) ∧ w' = w := by
  refine (Tryz.strings_CutPrefix ⟨l.toArray⟩ ⟨#[45]⟩ w).mono ?_
  rintro e w' ⟨rfl, rfl⟩
  refine ⟨?_, rfl⟩
  cases l with
  | nil => simp [Lib.trimPrefix, Lib.hasPrefix, str]
  | cons a r =>
    have : a ≠ 45 := by simpa using h
    have h2 : ¬ (45 = a) := fun e => this e.symm
    simp [Lib.trimPrefix, Lib.hasPrefix, str, List.isPrefixOf, h2]

/-- What a text says, where it is a number. -/
def numOf (l : List UInt8) : Option Int :=
  if l.head? = some 45 then (if Dec.good l.tail && decide (Dec.num l.tail ≠ 0) then some (-(Dec.num l.tail : Int)) else none)
  else if Dec.good l then some (Dec.num l : Int) else none

def RetNumE (w : World) (z : Int) (code : Int) (e : Ending) (w' : World) : Prop := ∃ ao n c, e = .returned (.tuple #[.agg #[.slice ao n c, .bool (decide (z < 0))], .int .i64 code]) ∧ Nt w' (.slice ao n c) z.natAbs ∧ Below w.heap.size w w'

set_option maxHeartbeats 1000000 in
theorem num_Parse_pos (l : List UInt8) (w : World) (hlen : l.length ≤ 1000000000) (h : l.head? ≠ some 45) (hg : Dec.good l = true) :
    Calls Tryz.prog 39 #[str l] w (RetNumE w (Dec.num l) 0) := by
  have HC := Lib.hid fun W => cut_none l W h
  obtain ⟨c0, l0, rfl⟩ : ∃ c0 l0, l = c0 :: l0 := by
    cases l with
    | nil => cases hg
    | cons a b => exact ⟨a, b, rfl⟩
  have HP := Lib.hid fun W => nat_Parse_ok c0 l0 W (by simp at hlen; omega) hg
  have hsg : decide (((Dec.num (c0 :: l0) : Nat) : Int) < 0) = false := decide_eq_false (by omega)
  clear hg h
  generalize c0 :: l0 = l at *
  go_enter Tryz.func39, Tryz.ntmps39
  go_wp2_with fail
  refine (HC.out _).mono ?_
  rintro e w1 ⟨rfl, rfl⟩
  go_wp2_with fail
  refine (HP.out _).mono ?_
  rintro e w1 ⟨ao, n, c, rfl, hN, hbl⟩
  have hb0 := below_box hbl (b := w.heap.size) (at_new rfl)
  go_wp2_with fail
  refine (num_Make_false _ _ _ (Dec.num l) _ (hN.alloc _)).mono ?_
  rintro e w4 ⟨ao4, n4, c4, rfl, hN4, hbl4⟩
  have HB := ((((Below.refl w.heap.size w).alloc (Nat.le_refl _) (Obj.cells #[.slice none 0 0, .bool false] 68)).trans (hbl.mono (by simp))).alloc (by have := hbl.size; simp at this; omega) (Obj.cells #[.slice ao n c] 66)).trans (hbl4.mono (by have := hbl.size; simp at this ⊢; omega))
  have hb2y := below_box hbl4 (at_old (o := Obj.cells #[.slice ao n c] 66) hb0)
  have he0y := box_cell (j := 0) hb2y rfl
  have he1y := box_cell (j := 1) hb2y rfl
  have hf0y := box_free (j := 0) hb2y
  have hf1y := box_free (j := 1) hb2y
  go_wp2_with fail
  refine post_box1 Tryz.results39 rfl rfl aggNum sizeNum rfl (box_set (j := 1) (.bool (decide (signed false (Dec.num l) < 0))) (box_set (j := 0) (.slice ao4 n4 c4) hb2y)) rfl ?_
  refine ⟨ao4, n4, c4, rfl, Row.set (Row.set ?_ hb2y (by decide) _) (box_set (j := 0) _ hb2y) (by decide) _, ?_⟩
  · exact hN4
  · exact (HB.setCell (Nat.le_refl _) _).setCell (Nat.le_refl _) _

set_option maxHeartbeats 1000000 in
theorem num_Parse_neg (l : List UInt8) (w : World) (hlen : l.length ≤ 1000000000) (hg : Dec.good l = true) (hz : Dec.num l ≠ 0) :
    Calls Tryz.prog 39 #[str (45 :: l)] w (RetNumE w (-(Dec.num l : Int)) 0) := by
  have HC := Lib.hid fun W => cut_minus l W
  have hnl : Limb.nl B32 (Dec.num l) ≤ 1000000000000 := Nat.le_trans (num_nl (fun c hc => by
    unfold Dec.good at hg; simp only [Bool.and_eq_true] at hg; exact List.all_eq_true.1 hg.1.2 c hc)) (by omega)
  obtain ⟨c0, l0, rfl⟩ : ∃ c0 l0, l = c0 :: l0 := by
    cases l with
    | nil => cases hg
    | cons a b => exact ⟨a, b, rfl⟩
  have HP := Lib.hid fun W => nat_Parse_ok c0 l0 W (by simp at hlen; omega) hg
  have HB0 := Lib.hid fun (W : World) (ao : Option Addr) (n c : Nat) (h : Nt W (.slice ao n c) (Dec.num (c0 :: l0))) => nat_Bits ao n c _ W h hnl
  have HM := Lib.hid fun (W : World) (ao : Option Addr) (n c : Nat) (h : Nt W (.slice ao n c) (Dec.num (c0 :: l0))) => num_Make_true ao n c _ W h hnl
  have hsg : signed true (Dec.num (c0 :: l0)) = -((Dec.num (c0 :: l0) : Nat) : Int) := rfl
  rw [hsg] at HM
  clear hg hnl hsg
  generalize -((Dec.num (c0 :: l0) : Nat) : Int) = z at *
  generalize c0 :: l0 = l at *
  go_enter Tryz.func39, Tryz.ntmps39
  go_wp2_with fail
  refine (HC.out _).mono ?_
  rintro e w1 ⟨rfl, rfl⟩
  go_wp2_with fail
  refine (HP.out _).mono ?_
  rintro e w1 ⟨ao, n, c, rfl, hN, hbl⟩
  have hb0 := below_box hbl (b := w.heap.size) (at_new rfl)
  go_wp2_with fail
  refine (HB0.out _ _ _ _ (hN.alloc _)).mono ?_
  rintro e w2 ⟨b, rfl, _, hb, _, hbl2⟩
  have hbp : (b == 0) = false := by have := hb hz; simp; omega
  have hb0x := below_box hbl2 (at_old (o := Obj.cells #[.slice ao n c] 66) hb0)
  have hb1x := below_box hbl2 (b := w1.heap.size) (at_new rfl)
  have hd0 := box_cell (j := 0) hb1x rfl
  have HN2 := Lib.hid (Row.below (hN.alloc (Obj.cells #[.slice ao n c] 66)) hbl2)
  have HBL := (((Below.refl w.heap.size w).alloc (Nat.le_refl _) (Obj.cells #[.slice none 0 0, .bool false] 68)).trans (hbl.mono (by simp))).alloc (by have := hbl.size; simp at this; omega) (Obj.cells #[.slice ao n c] 66)
  have HBL2 := HBL.trans (hbl2.mono (by have := hbl.size; simp at this ⊢; omega))
  clear hb hz hN
  go_wp2_with fail
  refine (HM.out _ _ _ _ HN2.out).mono ?_
  rintro e w4 ⟨ao4, n4, c4, rfl, hN4, hbl4⟩
  have HB := HBL2.trans (hbl4.mono HBL2.size)
  have hb2y := below_box hbl4 hb0x
  have he0y := box_cell (j := 0) hb2y rfl
  have he1y := box_cell (j := 1) hb2y rfl
  have hf0y := box_free (j := 0) hb2y
  have hf1y := box_free (j := 1) hb2y
  go_wp2_with fail
  refine post_box1 Tryz.results39 rfl rfl aggNum sizeNum rfl (box_set (j := 1) (.bool (decide (z < 0))) (box_set (j := 0) (.slice ao4 n4 c4) hb2y)) rfl ?_
  refine ⟨ao4, n4, c4, rfl, Row.set (Row.set hN4 hb2y (by decide) _) (box_set (j := 0) _ hb2y) (by decide) _, ?_⟩
  exact (HB.setCell (Nat.le_refl _) _).setCell (Nat.le_refl _) _

set_option maxHeartbeats 1000000 in
/-- Whatever the cut leaves is no number. -/
theorem num_Parse_bad1 (l m : List UInt8) (b : Bool) (w : World) (hlen : m.length ≤ 1000000000) (hg : Dec.good m = false)
    (hc : ∀ W, Calls Tryz.prog 50 #[str l, .string ⟨#[45]⟩] W fun e w' => e = .returned (.tuple #[str m, .bool b]) ∧ w' = W) :
    Calls Tryz.prog 39 #[str l] w (RetNumE w 0 10) := by
  have HC := Lib.hid hc
  have HP := Lib.hid fun W => nat_Parse_bad m W hlen hg
  clear hc hg hlen
  go_enter Tryz.func39, Tryz.ntmps39
  go_wp2_with fail
  refine (HC.out _).mono ?_
  rintro e w1 ⟨rfl, rfl⟩
  go_wp2_with fail
  refine (HP.out _).mono ?_
  rintro e w1 ⟨ao, n, c, rfl, hN, hbl⟩
  have hb0 := at_old (o := Obj.cells #[.slice ao n c] 66) (below_box hbl (b := w.heap.size) (at_new rfl))
  have he0 := box_cell (j := 0) hb0 rfl
  have he1 := box_cell (j := 1) hb0 rfl
  have hf0 := box_free (j := 0) hb0
  have hf1 := box_free (j := 1) hb0
  go_wp2_with fail
  refine post_box1 Tryz.results39 rfl rfl aggNum sizeNum rfl (box_set (j := 1) (.bool false) (box_set (j := 0) (.slice none 0 0) hb0)) rfl ?_
  refine ⟨none, 0, 0, rfl, Nt.nil _, ?_⟩
  have HBL := (((Below.refl w.heap.size w).alloc (Nat.le_refl _) (Obj.cells #[.slice none 0 0, .bool false] 68)).trans (hbl.mono (by simp))).alloc (by have := hbl.size; simp at this; omega) (Obj.cells #[.slice ao n c] 66)
  exact (HBL.setCell (Nat.le_refl _) _).setCell (Nat.le_refl _) _

set_option maxHeartbeats 1000000 in
theorem num_Parse_minus0 (l : List UInt8) (w : World) (hlen : l.length ≤ 1000000000) (hg : Dec.good l = true) (hz : Dec.num l = 0) :
    Calls Tryz.prog 39 #[str (45 :: l)] w (RetNumE w 0 10) := by
  have HC := Lib.hid fun W => cut_minus l W
  obtain ⟨c0, l0, rfl⟩ : ∃ c0 l0, l = c0 :: l0 := by
    cases l with
    | nil => cases hg
    | cons a b => exact ⟨a, b, rfl⟩
  have HP := Lib.hid fun W => nat_Parse_ok c0 l0 W (by simp at hlen; omega) hg
  rw [hz] at HP
  clear hg hz
  generalize c0 :: l0 = l at *
  go_enter Tryz.func39, Tryz.ntmps39
  go_wp2_with fail
  refine (HC.out _).mono ?_
  rintro e w1 ⟨rfl, rfl⟩
  go_wp2_with fail
  refine (HP.out _).mono ?_
  rintro e w1 ⟨ao, n, c, rfl, hN, hbl⟩
  have hb0 := below_box hbl (b := w.heap.size) (at_new rfl)
  go_wp2_with fail
  refine (nat_Bits ao n c 0 _ (hN.alloc _) (Nat.le_trans (Limb.nl_le B32two 0 0 (by decide)) (by decide))).mono ?_
  rintro e w2 ⟨b, rfl, hb, _, _, hbl2⟩
  have hbp : (b == 0) = true := by rw [hb rfl]; rfl
  have hb0x := below_box hbl2 (at_old (o := Obj.cells #[.slice ao n c] 66) hb0)
  have he0y := box_cell (j := 0) hb0x rfl
  have he1y := box_cell (j := 1) hb0x rfl
  have hf0y := box_free (j := 0) hb0x
  have hf1y := box_free (j := 1) hb0x
  have HBL := (((Below.refl w.heap.size w).alloc (Nat.le_refl _) (Obj.cells #[.slice none 0 0, .bool false] 68)).trans (hbl.mono (by simp))).alloc (by have := hbl.size; simp at this; omega) (Obj.cells #[.slice ao n c] 66)
  have HBL2 := HBL.trans (hbl2.mono (by have := hbl.size; simp at this ⊢; omega))
  clear hb hN
  go_wp2_with fail
  refine post_box1 Tryz.results39 rfl rfl aggNum sizeNum rfl (box_set (j := 1) (.bool false) (box_set (j := 0) (.slice none 0 0) hb0x)) rfl ?_
  refine ⟨none, 0, 0, rfl, Nt.nil _, ?_⟩
  exact (HBL2.setCell (Nat.le_refl _) _).setCell (Nat.le_refl _) _

theorem num_Parse_ok (l : List UInt8) (z : Int) (w : World) (hlen : l.length ≤ 1000000000) (h : numOf l = some z) :
    Calls Tryz.prog 39 #[str l] w (RetNumE w z 0) := by
  unfold numOf at h
  by_cases h1 : l.head? = some 45
  · rw [if_pos h1] at h
    split at h
    · rename_i h2
      simp only [Bool.and_eq_true, decide_eq_true_eq] at h2
      injection h with h
      rw [← h]
      obtain ⟨r, rfl⟩ : ∃ r, l = 45 :: r := by
        cases l with
        | nil => cases h1
        | cons a b => injection h1 with h1; exact ⟨b, by rw [h1]⟩
      exact num_Parse_neg r w (by simp at hlen; omega) h2.1 h2.2
    · cases h
  · rw [if_neg h1] at h
    split at h
    · rename_i h2
      injection h with h
      rw [← h]
      exact num_Parse_pos l w hlen h1 h2
    · cases h

theorem num_Parse_bad (l : List UInt8) (w : World) (hlen : l.length ≤ 1000000000) (h : numOf l = none) :
    Calls Tryz.prog 39 #[str l] w (RetNumE w 0 10) := by
  unfold numOf at h
  by_cases h1 : l.head? = some 45
  · rw [if_pos h1] at h
    obtain ⟨r, rfl⟩ : ∃ r, l = 45 :: r := by
      cases l with
      | nil => cases h1
      | cons a b => injection h1 with h1; exact ⟨b, by rw [h1]⟩
    split at h
    · cases h
    · rename_i h2
      by_cases hg : Dec.good r = true
      · by_cases hz : Dec.num r = 0
        · exact num_Parse_minus0 r w (by simp at hlen; omega) hg hz
        · exact absurd (by simp [hg, hz]) h2
      · exact num_Parse_bad1 _ r true w (by simp at hlen; omega) (by simpa using hg) (fun W => cut_minus r W)
  · rw [if_neg h1] at h
    split at h
    · cases h
    · rename_i h2
      exact num_Parse_bad1 l l false w hlen (by simpa using h2) (fun W => cut_none l W h1)
end Go.Proofs.YtgpkbembdflnmaaGreatDoor
