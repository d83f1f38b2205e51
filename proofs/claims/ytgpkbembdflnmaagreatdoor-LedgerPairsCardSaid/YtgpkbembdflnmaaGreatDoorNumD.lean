/- Walks: num.Add, Text, Parse. -/
import Derived.Test.YtgpkbembdflnmaaGreatDoorNumC
import Derived.Test.YtgpkbembdflnmaaGreatDoorNatB
namespace Go.Proofs.YtgpkbembdflnmaaGreatDoor
open Go.RowKit
open Go.Lib (decDigits)


set_option maxHeartbeats 2000000 in
theorem num_Add_ge_true (ao bo : Option Addr) (na nb ca cb x y : Nat) (w : World) (hx : Nt w (.slice ao na ca) x) (hy : Nt w (.slice bo nb cb) y)
    (hnx : Limb.nl B32 x ≤ 100000000000) (hny : Limb.nl B32 y ≤ 100000000000) (hxy : y ≤ x) :
    Calls Tryz.prog 29 #[.agg #[.slice ao na ca, .bool true], .agg #[.slice bo nb cb, .bool false]] w (RetNum w (signed true (x - y))) := by
  have hns : Limb.nl B32 (x - y) ≤ 1000000000000 := by have := Limb.nl_mono B32two (Nat.sub_le x y); omega
  have HM := Lib.hid fun (W : World) (ao : Option Addr) (n c : Nat) (h : Nt W (.slice ao n c) (x - y)) => num_Make true ao n c (x - y) W h hns
  go_enter Tryz.func29, Tryz.ntmps29
  go_wp2_with fail
  refine (nat_Sub_ok _ _ _ _ _ _ x y _ (((hx.alloc _).alloc _).alloc _) (((hy.alloc _).alloc _).alloc _) (by omega) (by omega) hxy).mono ?_
  rintro e w3 ⟨ao3, n3, c3, rfl, hN3, hbl3⟩
  have hb0 := below_box hbl3 (b := w.heap.size) (at_old (at_old (at_new rfl)))
  have hb2 := below_box hbl3 (b := w.heap.size + 2) (at_new (by simp))
  have hbel : Below w.heap.size w w3 := ((((Below.refl _ _).alloc (Nat.le_refl _) _).alloc (by simp) _).alloc (by simp; omega) _).trans (hbl3.mono (by simp; omega))
  have hc1 : w3.cell? ⟨w.heap.size, 1, none⟩ = some (.bool true) := box_cell (j := 1) hb0 rfl
  have HN3 := Lib.hid hN3
  have hlt : w.heap.size < w3.heap.size := (Array.getElem?_eq_some_iff.1 hb0).1
  have hlt2 : w.heap.size + 2 < w3.heap.size := (Array.getElem?_eq_some_iff.1 hb2).1
  have hal : (w3.alloc (Obj.cells #[Value.slice ao3 n3 c3] 66)).cell? ⟨w.heap.size, 1, none⟩ = some (.bool true) := box_cell (j := 1) (at_old hb0) rfl
  clear hN3 hbl3 hx hy hxy
  generalize signed true (x - y) = z at *
  go_wp2_with fail
  refine (HM.out _ _ _ _ (HN3.out.alloc _)).mono ?_
  rintro e w4 ⟨ao4, n4, c4, rfl, hN4, hbl4⟩
  have HB4 := (hbel.alloc hbel.size (Obj.cells #[.slice ao3 n3 c3] 66)).trans (hbl4.mono (by have := hbel.size; simp; omega))
  have hb2y := below_box hbl4 (at_old (o := Obj.cells #[.slice ao3 n3 c3] 66) hb2)
  have he0y := box_cell (j := 0) hb2y rfl
  have he1y := box_cell (j := 1) hb2y rfl
  have hf0y := box_free (j := 0) hb2y
  have hf1y := box_free (j := 1) hb2y
  go_wp2_with fail
  refine post_box Tryz.results29 rfl aggNum sizeNum rfl (box_set (j := 1) (.bool (decide (z < 0))) (box_set (j := 0) (.slice ao4 n4 c4) hb2y)) rfl ?_
  refine ⟨ao4, n4, c4, rfl, Row.set (Row.set hN4 hb2y (by decide) _) (box_set (j := 0) _ hb2y) (by decide) _, ?_⟩
  exact (HB4.setCell (by show w.heap.size ≤ w.heap.size + 2; omega) _).setCell (by show w.heap.size ≤ w.heap.size + 2; omega) _

set_option maxHeartbeats 2000000 in
theorem num_Add_ge_false (ao bo : Option Addr) (na nb ca cb x y : Nat) (w : World) (hx : Nt w (.slice ao na ca) x) (hy : Nt w (.slice bo nb cb) y)
    (hnx : Limb.nl B32 x ≤ 100000000000) (hny : Limb.nl B32 y ≤ 100000000000) (hxy : y ≤ x) :
    Calls Tryz.prog 29 #[.agg #[.slice ao na ca, .bool false], .agg #[.slice bo nb cb, .bool true]] w (RetNum w (signed false (x - y))) := by
  have hns : Limb.nl B32 (x - y) ≤ 1000000000000 := by have := Limb.nl_mono B32two (Nat.sub_le x y); omega
  have HM := Lib.hid fun (W : World) (ao : Option Addr) (n c : Nat) (h : Nt W (.slice ao n c) (x - y)) => num_Make false ao n c (x - y) W h hns
  go_enter Tryz.func29, Tryz.ntmps29
  go_wp2_with fail
  refine (nat_Sub_ok _ _ _ _ _ _ x y _ (((hx.alloc _).alloc _).alloc _) (((hy.alloc _).alloc _).alloc _) (by omega) (by omega) hxy).mono ?_
  rintro e w3 ⟨ao3, n3, c3, rfl, hN3, hbl3⟩
  have hb0 := below_box hbl3 (b := w.heap.size) (at_old (at_old (at_new rfl)))
  have hb2 := below_box hbl3 (b := w.heap.size + 2) (at_new (by simp))
  have hbel : Below w.heap.size w w3 := ((((Below.refl _ _).alloc (Nat.le_refl _) _).alloc (by simp) _).alloc (by simp; omega) _).trans (hbl3.mono (by simp; omega))
  have hc1 : w3.cell? ⟨w.heap.size, 1, none⟩ = some (.bool false) := box_cell (j := 1) hb0 rfl
  have HN3 := Lib.hid hN3
  have hlt : w.heap.size < w3.heap.size := (Array.getElem?_eq_some_iff.1 hb0).1
  have hlt2 : w.heap.size + 2 < w3.heap.size := (Array.getElem?_eq_some_iff.1 hb2).1
  have hal : (w3.alloc (Obj.cells #[Value.slice ao3 n3 c3] 66)).cell? ⟨w.heap.size, 1, none⟩ = some (.bool false) := box_cell (j := 1) (at_old hb0) rfl
  clear hN3 hbl3 hx hy hxy
  generalize signed false (x - y) = z at *
  go_wp2_with fail
  refine (HM.out _ _ _ _ (HN3.out.alloc _)).mono ?_
  rintro e w4 ⟨ao4, n4, c4, rfl, hN4, hbl4⟩
  have HB4 := (hbel.alloc hbel.size (Obj.cells #[.slice ao3 n3 c3] 66)).trans (hbl4.mono (by have := hbel.size; simp; omega))
  have hb2y := below_box hbl4 (at_old (o := Obj.cells #[.slice ao3 n3 c3] 66) hb2)
  have he0y := box_cell (j := 0) hb2y rfl
  have he1y := box_cell (j := 1) hb2y rfl
  have hf0y := box_free (j := 0) hb2y
  have hf1y := box_free (j := 1) hb2y
  go_wp2_with fail
  refine post_box Tryz.results29 rfl aggNum sizeNum rfl (box_set (j := 1) (.bool (decide (z < 0))) (box_set (j := 0) (.slice ao4 n4 c4) hb2y)) rfl ?_
  refine ⟨ao4, n4, c4, rfl, Row.set (Row.set hN4 hb2y (by decide) _) (box_set (j := 0) _ hb2y) (by decide) _, ?_⟩
  exact (HB4.setCell (by show w.heap.size ≤ w.heap.size + 2; omega) _).setCell (by show w.heap.size ≤ w.heap.size + 2; omega) _

set_option maxHeartbeats 2000000 in
theorem num_Add_lt_true (ao bo : Option Addr) (na nb ca cb x y : Nat) (w : World) (hx : Nt w (.slice ao na ca) x) (hy : Nt w (.slice bo nb cb) y)
    (hnx : Limb.nl B32 x ≤ 100000000000) (hny : Limb.nl B32 y ≤ 100000000000) (hxy : x < y) :
    Calls Tryz.prog 29 #[.agg #[.slice ao na ca, .bool true], .agg #[.slice bo nb cb, .bool false]] w (RetNum w (signed false (y - x))) := by
  have hns : Limb.nl B32 (y - x) ≤ 1000000000000 := by have := Limb.nl_mono B32two (Nat.sub_le y x); omega
  have HM := Lib.hid fun (W : World) (ao : Option Addr) (n d : Nat) (h : Nt W (.slice ao n d) (y - x)) => num_Make false ao n d (y - x) W h hns
  have HX := Lib.hid (((hx.alloc (Obj.cells #[Value.slice ao na ca, .bool true] 68)).alloc (Obj.cells #[Value.slice bo nb cb, .bool false] 68)).alloc (Obj.cells #[Value.slice none 0 0, Value.bool false] 68))
  have HY := Lib.hid (((hy.alloc (Obj.cells #[Value.slice ao na ca, .bool true] 68)).alloc (Obj.cells #[Value.slice bo nb cb, .bool false] 68)).alloc (Obj.cells #[Value.slice none 0 0, Value.bool false] 68))
  go_enter Tryz.func29, Tryz.ntmps29
  go_wp2_with fail
  refine (nat_Sub_below _ _ _ _ _ _ x y _ HX.out HY.out (by omega) (by omega) hxy).mono ?_
  rintro e w3 ⟨ao3, n3, c3, rfl, _, hbl3⟩
  have hb0 := below_box hbl3 (b := w.heap.size) (at_old (at_old (at_new rfl)))
  have hb1 := below_box hbl3 (b := w.heap.size + 1) (at_old (at_new (by simp)))
  have hb2 := below_box hbl3 (b := w.heap.size + 2) (at_new (by simp))
  have hbel : Below w.heap.size w w3 := ((((Below.refl _ _).alloc (Nat.le_refl _) _).alloc (by simp) _).alloc (by simp; omega) _).trans (hbl3.mono (by simp; omega))
  have hlt : w.heap.size < w3.heap.size := (Array.getElem?_eq_some_iff.1 hb0).1
  have hlt1 : w.heap.size + 1 < w3.heap.size := (Array.getElem?_eq_some_iff.1 hb1).1
  have hlt2 : w.heap.size + 2 < w3.heap.size := (Array.getElem?_eq_some_iff.1 hb2).1
  have hal : (w3.alloc (Obj.cells #[Value.slice ao3 n3 c3] 66)).cell? ⟨w.heap.size, 0, none⟩ = some (.slice ao na ca) := box_cell (j := 0) (at_old hb0) rfl
  have hal1 : (w3.alloc (Obj.cells #[Value.slice ao3 n3 c3] 66)).cell? ⟨w.heap.size + 1, 0, none⟩ = some (.slice bo nb cb) := box_cell (j := 0) (at_old hb1) rfl
  have HX3 := Lib.hid (Row.below HX.out hbl3)
  have HY3 := Lib.hid (Row.below HY.out hbl3)
  clear hbl3 hx hy HX HY
  generalize hz : signed false (y - x) = z at *
  go_wp2_with fail
  refine (nat_Sub_ok _ _ _ _ _ _ y x _ (HY3.out.alloc _) (HX3.out.alloc _) (by omega) (by omega) (by omega)).mono ?_
  rintro e w5 ⟨ao5, n5, c5, rfl, hN5, hbl5⟩
  have hbel5 := (hbel.alloc hbel.size (Obj.cells #[.slice ao3 n3 c3] 66)).trans (hbl5.mono (by have := hbel.size; simp; omega))
  have hb1x := below_box hbl5 (at_old (o := Obj.cells #[.slice ao3 n3 c3] 66) hb1)
  have hb2x := below_box hbl5 (at_old (o := Obj.cells #[.slice ao3 n3 c3] 66) hb2)
  have hlt5 : w.heap.size + 1 < w5.heap.size := (Array.getElem?_eq_some_iff.1 hb1x).1
  have hlt6 : w.heap.size + 2 < w5.heap.size := (Array.getElem?_eq_some_iff.1 hb2x).1
  have hal5 : (w5.alloc (Obj.cells #[Value.slice ao5 n5 c5] 66)).cell? ⟨w.heap.size + 1, 1, none⟩ = some (.bool false) := box_cell (j := 1) (at_old hb1x) rfl
  have HN5 := Lib.hid hN5
  clear hN5 hbl5 hal hal1
  go_wp2_with fail
  refine (HM.out _ _ _ _ (HN5.out.alloc _)).mono ?_
  rintro e w4 ⟨ao4, n4, c4, rfl, hN4, hbl4⟩
  have HB4 := (hbel5.alloc hbel5.size (Obj.cells #[.slice ao5 n5 c5] 66)).trans (hbl4.mono (by have := hbel5.size; simp; omega))
  have hb2y := below_box hbl4 (at_old (o := Obj.cells #[.slice ao5 n5 c5] 66) hb2x)
  have he0y := box_cell (j := 0) hb2y rfl
  have he1y := box_cell (j := 1) hb2y rfl
  have hf0y := box_free (j := 0) hb2y
  have hf1y := box_free (j := 1) hb2y
  go_wp2_with fail
  refine post_box Tryz.results29 rfl aggNum sizeNum rfl (box_set (j := 1) (.bool (decide (z < 0))) (box_set (j := 0) (.slice ao4 n4 c4) hb2y)) rfl ?_
  refine ⟨ao4, n4, c4, rfl, Row.set (Row.set hN4 hb2y (by decide) _) (box_set (j := 0) _ hb2y) (by decide) _, ?_⟩
  exact (HB4.setCell (by show w.heap.size ≤ w.heap.size + 2; omega) _).setCell (by show w.heap.size ≤ w.heap.size + 2; omega) _

set_option maxHeartbeats 2000000 in
theorem num_Add_lt_false (ao bo : Option Addr) (na nb ca cb x y : Nat) (w : World) (hx : Nt w (.slice ao na ca) x) (hy : Nt w (.slice bo nb cb) y)
    (hnx : Limb.nl B32 x ≤ 100000000000) (hny : Limb.nl B32 y ≤ 100000000000) (hxy : x < y) :
    Calls Tryz.prog 29 #[.agg #[.slice ao na ca, .bool false], .agg #[.slice bo nb cb, .bool true]] w (RetNum w (signed true (y - x))) := by
  have hns : Limb.nl B32 (y - x) ≤ 1000000000000 := by have := Limb.nl_mono B32two (Nat.sub_le y x); omega
  have HM := Lib.hid fun (W : World) (ao : Option Addr) (n d : Nat) (h : Nt W (.slice ao n d) (y - x)) => num_Make true ao n d (y - x) W h hns
  have HX := Lib.hid (((hx.alloc (Obj.cells #[Value.slice ao na ca, .bool false] 68)).alloc (Obj.cells #[Value.slice bo nb cb, .bool true] 68)).alloc (Obj.cells #[Value.slice none 0 0, Value.bool false] 68))
  have HY := Lib.hid (((hy.alloc (Obj.cells #[Value.slice ao na ca, .bool false] 68)).alloc (Obj.cells #[Value.slice bo nb cb, .bool true] 68)).alloc (Obj.cells #[Value.slice none 0 0, Value.bool false] 68))
  go_enter Tryz.func29, Tryz.ntmps29
  go_wp2_with fail
  refine (nat_Sub_below _ _ _ _ _ _ x y _ HX.out HY.out (by omega) (by omega) hxy).mono ?_
  rintro e w3 ⟨ao3, n3, c3, rfl, _, hbl3⟩
  have hb0 := below_box hbl3 (b := w.heap.size) (at_old (at_old (at_new rfl)))
  have hb1 := below_box hbl3 (b := w.heap.size + 1) (at_old (at_new (by simp)))
  have hb2 := below_box hbl3 (b := w.heap.size + 2) (at_new (by simp))
  have hbel : Below w.heap.size w w3 := ((((Below.refl _ _).alloc (Nat.le_refl _) _).alloc (by simp) _).alloc (by simp; omega) _).trans (hbl3.mono (by simp; omega))
  have hlt : w.heap.size < w3.heap.size := (Array.getElem?_eq_some_iff.1 hb0).1
  have hlt1 : w.heap.size + 1 < w3.heap.size := (Array.getElem?_eq_some_iff.1 hb1).1
  have hlt2 : w.heap.size + 2 < w3.heap.size := (Array.getElem?_eq_some_iff.1 hb2).1
  have hal : (w3.alloc (Obj.cells #[Value.slice ao3 n3 c3] 66)).cell? ⟨w.heap.size, 0, none⟩ = some (.slice ao na ca) := box_cell (j := 0) (at_old hb0) rfl
  have hal1 : (w3.alloc (Obj.cells #[Value.slice ao3 n3 c3] 66)).cell? ⟨w.heap.size + 1, 0, none⟩ = some (.slice bo nb cb) := box_cell (j := 0) (at_old hb1) rfl
  have HX3 := Lib.hid (Row.below HX.out hbl3)
  have HY3 := Lib.hid (Row.below HY.out hbl3)
  clear hbl3 hx hy HX HY
  generalize hz : signed true (y - x) = z at *
  go_wp2_with fail
  refine (nat_Sub_ok _ _ _ _ _ _ y x _ (HY3.out.alloc _) (HX3.out.alloc _) (by omega) (by omega) (by omega)).mono ?_
  rintro e w5 ⟨ao5, n5, c5, rfl, hN5, hbl5⟩
  have hbel5 := (hbel.alloc hbel.size (Obj.cells #[.slice ao3 n3 c3] 66)).trans (hbl5.mono (by have := hbel.size; simp; omega))
  have hb1x := below_box hbl5 (at_old (o := Obj.cells #[.slice ao3 n3 c3] 66) hb1)
  have hb2x := below_box hbl5 (at_old (o := Obj.cells #[.slice ao3 n3 c3] 66) hb2)
  have hlt5 : w.heap.size + 1 < w5.heap.size := (Array.getElem?_eq_some_iff.1 hb1x).1
  have hlt6 : w.heap.size + 2 < w5.heap.size := (Array.getElem?_eq_some_iff.1 hb2x).1
  have hal5 : (w5.alloc (Obj.cells #[Value.slice ao5 n5 c5] 66)).cell? ⟨w.heap.size + 1, 1, none⟩ = some (.bool true) := box_cell (j := 1) (at_old hb1x) rfl
  have HN5 := Lib.hid hN5
  clear hN5 hbl5 hal hal1
  go_wp2_with fail
  refine (HM.out _ _ _ _ (HN5.out.alloc _)).mono ?_
  rintro e w4 ⟨ao4, n4, c4, rfl, hN4, hbl4⟩
  have HB4 := (hbel5.alloc hbel5.size (Obj.cells #[.slice ao5 n5 c5] 66)).trans (hbl4.mono (by have := hbel5.size; simp; omega))
  have hb2y := below_box hbl4 (at_old (o := Obj.cells #[.slice ao5 n5 c5] 66) hb2x)
  have he0y := box_cell (j := 0) hb2y rfl
  have he1y := box_cell (j := 1) hb2y rfl
  have hf0y := box_free (j := 0) hb2y
  have hf1y := box_free (j := 1) hb2y
  go_wp2_with fail
  refine post_box Tryz.results29 rfl aggNum sizeNum rfl (box_set (j := 1) (.bool (decide (z < 0))) (box_set (j := 0) (.slice ao4 n4 c4) hb2y)) rfl ?_
  refine ⟨ao4, n4, c4, rfl, Row.set (Row.set hN4 hb2y (by decide) _) (box_set (j := 0) _ hb2y) (by decide) _, ?_⟩
  exact (HB4.setCell (by show w.heap.size ≤ w.heap.size + 2; omega) _).setCell (by show w.heap.size ≤ w.heap.size + 2; omega) _

/-- The sum of two whole numbers. -/
theorem num_Add (ao bo : Option Addr) (na nb ca cb : Nat) (x y : Int) (w : World) (hx : Nt w (.slice ao na ca) x.natAbs) (hy : Nt w (.slice bo nb cb) y.natAbs)
    (hnx : Limb.nl B32 x.natAbs ≤ 100000000000) (hny : Limb.nl B32 y.natAbs ≤ 100000000000) :
    Calls Tryz.prog 29 #[.agg #[.slice ao na ca, .bool (decide (x < 0))], .agg #[.slice bo nb cb, .bool (decide (y < 0))]] w (RetNum w (x + y)) := by
  by_cases p : x < 0 <;> by_cases q : y < 0
  · rw [decide_eq_true p, decide_eq_true q, show x + y = signed true (x.natAbs + y.natAbs) by simp [signed]; omega]
    exact num_Add_same_true _ _ _ _ _ _ _ _ w hx hy hnx hny
  · rw [decide_eq_true p, decide_eq_false q]
    rcases Nat.lt_or_ge x.natAbs y.natAbs with h | h
    · rw [show x + y = signed false (y.natAbs - x.natAbs) by simp [signed]; omega]
      exact num_Add_lt_true _ _ _ _ _ _ _ _ w hx hy hnx hny h
    · rw [show x + y = signed true (x.natAbs - y.natAbs) by simp [signed]; omega]
      exact num_Add_ge_true _ _ _ _ _ _ _ _ w hx hy hnx hny h
  · rw [decide_eq_false p, decide_eq_true q]
    rcases Nat.lt_or_ge x.natAbs y.natAbs with h | h
    · rw [show x + y = signed true (y.natAbs - x.natAbs) by simp [signed]; omega]
      exact num_Add_lt_false _ _ _ _ _ _ _ _ w hx hy hnx hny h
    · rw [show x + y = signed false (x.natAbs - y.natAbs) by simp [signed]; omega]
      exact num_Add_ge_false _ _ _ _ _ _ _ _ w hx hy hnx hny h
  · rw [decide_eq_false p, decide_eq_false q, show x + y = signed false (x.natAbs + y.natAbs) by simp [signed]; omega]
    exact num_Add_same_false _ _ _ _ _ _ _ _ w hx hy hnx hny

end Go.Proofs.YtgpkbembdflnmaaGreatDoor
