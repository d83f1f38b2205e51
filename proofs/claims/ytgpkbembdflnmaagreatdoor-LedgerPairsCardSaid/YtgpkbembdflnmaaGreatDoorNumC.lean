/- Walks: num.Add, Text, Parse. -/
import Derived.Test.YtgpkbembdflnmaaGreatDoorNumB
import Derived.Test.YtgpkbembdflnmaaGreatDoorNatB
namespace Go.Proofs.YtgpkbembdflnmaaGreatDoor
open Go.RowKit
open Go.Lib (decDigits)


set_option maxHeartbeats 2000000 in
theorem num_Add_same_true (ao bo : Option Addr) (na nb ca cb x y : Nat) (w : World) (hx : Nt w (.slice ao na ca) x) (hy : Nt w (.slice bo nb cb) y)
    (hnx : Limb.nl B32 x ≤ 100000000000) (hny : Limb.nl B32 y ≤ 100000000000) :
    Calls Tryz.prog 29 #[.agg #[.slice ao na ca, .bool true], .agg #[.slice bo nb cb, .bool true]] w (RetNum w (signed true (x + y))) := by
  have hns : Limb.nl B32 (x + y) ≤ 1000000000000 := by have := Limb.nl_add B32two x y; omega
  go_enter Tryz.func29, Tryz.ntmps29
  go_upto_region 2 with fail
  have HX := Lib.hid (((hx.alloc (Obj.cells #[Value.slice ao na ca, .bool true] 68)).alloc (Obj.cells #[Value.slice bo nb cb, .bool true] 68)).alloc (Obj.cells #[Value.slice none 0 0, Value.bool false] 68))
  have HY := Lib.hid (((hy.alloc (Obj.cells #[Value.slice ao na ca, .bool true] 68)).alloc (Obj.cells #[Value.slice bo nb cb, .bool true] 68)).alloc (Obj.cells #[Value.slice none 0 0, Value.bool false] 68))
  have hbel : Below w.heap.size w (((w.alloc (Obj.cells #[Value.slice ao na ca, .bool true] 68)).alloc (Obj.cells #[Value.slice bo nb cb, .bool true] 68)).alloc (Obj.cells #[Value.slice none 0 0, Value.bool false] 68)) := (((Below.refl _ _).alloc (Nat.le_refl _) _).alloc (by simp) _).alloc (by simp; omega) _
  have hb0 : (((w.alloc (Obj.cells #[Value.slice ao na ca, .bool true] 68)).alloc (Obj.cells #[Value.slice bo nb cb, .bool true] 68)).alloc (Obj.cells #[Value.slice none 0 0, Value.bool false] 68)).heap[w.heap.size]? = some (.cells #[Value.slice ao na ca, .bool true] 68 (0, 0)) := at_old (at_old (at_new rfl))
  have hb1 : (((w.alloc (Obj.cells #[Value.slice ao na ca, .bool true] 68)).alloc (Obj.cells #[Value.slice bo nb cb, .bool true] 68)).alloc (Obj.cells #[Value.slice none 0 0, Value.bool false] 68)).heap[w.heap.size + 1]? = some (.cells #[Value.slice bo nb cb, .bool true] 68 (0, 0)) := at_old (at_new (by simp))
  have hb2 : (((w.alloc (Obj.cells #[Value.slice ao na ca, .bool true] 68)).alloc (Obj.cells #[Value.slice bo nb cb, .bool true] 68)).alloc (Obj.cells #[Value.slice none 0 0, Value.bool false] 68)).heap[w.heap.size + 2]? = some (.cells #[Value.slice none 0 0, .bool false] 68 (0, 0)) := at_new (by simp)
  generalize (((w.alloc (Obj.cells #[Value.slice ao na ca, .bool true] 68)).alloc (Obj.cells #[Value.slice bo nb cb, .bool true] 68)).alloc (Obj.cells #[Value.slice none 0 0, Value.bool false] 68)) = W at *
  have hc0 := box_cell (j := 0) hb0 rfl
  have hc1 := box_cell (j := 1) hb0 rfl
  have hd0 := box_cell (j := 0) hb1 rfl
  have hnx2 : Limb.nl B32 x ≤ 1000000000000 := by omega
  have hny2 : Limb.nl B32 y ≤ 1000000000000 := by omega
  have hdr : Below W.heap.size W W.drew := ⟨rfl, rfl, rfl, Nat.le_refl _, fun _ _ => rfl⟩
  clear hx hy
  have HM := Lib.hid fun (W : World) (ao : Option Addr) (n c : Nat) (h : Nt W (.slice ao n c) (x + y)) => num_Make true ao n c (x + y) W h hns
  generalize signed true (x + y) = z at *
  go_region_held3 (fun w' => w'.cell? ⟨w.heap.size, 0, none⟩ = some (.slice ao na ca) ∧ w'.cell? ⟨w.heap.size, 1, none⟩ = some (.bool true) ∧ w'.cell? ⟨w.heap.size + 1, 0, none⟩ = some (.slice bo nb cb))
    (first
      | (exact ⟨hc0, hc1, hd0⟩)
      | (exact ⟨hc0y, hc1y, hd0y⟩)
      | (exact ⟨hc0x, hc1x, hd0x⟩)
      | (exact ⟨box_cell (j := 0) (box_far _ (box_far _ hb0y (by show w.heap.size ≠ w.heap.size + 1 + 1; omega)) (by show w.heap.size ≠ w.heap.size + 1 + 1; omega)) rfl,
          box_cell (j := 1) (box_far _ (box_far _ hb0y (by show w.heap.size ≠ w.heap.size + 1 + 1; omega)) (by show w.heap.size ≠ w.heap.size + 1 + 1; omega)) rfl,
          box_cell (j := 0) (box_far _ (box_far _ hb1y (by show w.heap.size + 1 ≠ w.heap.size + 1 + 1; omega)) (by show w.heap.size + 1 ≠ w.heap.size + 1 + 1; omega)) rfl⟩))
    (first
      | (go_at_call 42; refine (nat_Add _ _ _ _ _ _ x y _ (Row.below HX.out hdr) (Row.below HY.out hdr) hnx2 hny2).mono ?_; rintro e w3 ⟨ao3, n3, c3, rfl, hN3, hbl3⟩; have HN3 := Lib.hid hN3; have hb0x := below_box hbl3 hb0; have hb1x := below_box hbl3 hb1; have hb2x := below_box hbl3 hb2; have hc0x := box_cell (j := 0) hb0x rfl; have hc1x := box_cell (j := 1) hb0x rfl; have hd0x := box_cell (j := 0) hb1x rfl; have hbelx := (hbel.trans (hdr.mono hbel.size)).trans (hbl3.mono hbel.size); clear hN3)
      | (go_at_call 41; refine (HM.out _ _ _ _ HN3.out).mono ?_; rintro e w4 ⟨ao4, n4, c4, rfl, hN4, hbl4⟩; have HN4 := Lib.hid hN4; have hb0y := below_box hbl4 hb0x; have hb1y := below_box hbl4 hb1x; have hb2y := below_box hbl4 hb2x; have hc0y := box_cell (j := 0) hb0y rfl; have hc1y := box_cell (j := 1) hb0y rfl; have hd0y := box_cell (j := 0) hb1y rfl; have he0y := box_cell (j := 0) hb2y rfl; have he1y := box_cell (j := 1) hb2y rfl; have hf0y := box_free (j := 0) hb2y; have hf1y := box_free (j := 1) hb2y; have hbely := hbelx.trans (hbl4.mono hbelx.size); clear hN4))
  go_wp2_with fail
  refine post_box Tryz.results29 rfl aggNum sizeNum rfl (box_set (j := 1) (.bool (decide (z < 0))) (box_set (j := 0) (.slice ao4 n4 c4) hb2y)) rfl ?_
  refine ⟨ao4, n4, c4, rfl, Row.set (Row.set HN4.out hb2y (by decide) _) (box_set (j := 0) _ hb2y) (by decide) _, ?_⟩
  exact (hbely.setCell (by show w.heap.size ≤ w.heap.size + 2; omega) _).setCell (by show w.heap.size ≤ w.heap.size + 2; omega) _

set_option maxHeartbeats 2000000 in
theorem num_Add_same_false (ao bo : Option Addr) (na nb ca cb x y : Nat) (w : World) (hx : Nt w (.slice ao na ca) x) (hy : Nt w (.slice bo nb cb) y)
    (hnx : Limb.nl B32 x ≤ 100000000000) (hny : Limb.nl B32 y ≤ 100000000000) :
    Calls Tryz.prog 29 #[.agg #[.slice ao na ca, .bool false], .agg #[.slice bo nb cb, .bool false]] w (RetNum w (signed false (x + y))) := by
  have hns : Limb.nl B32 (x + y) ≤ 1000000000000 := by have := Limb.nl_add B32two x y; omega
  go_enter Tryz.func29, Tryz.ntmps29
  go_upto_region 2 with fail
  have HX := Lib.hid (((hx.alloc (Obj.cells #[Value.slice ao na ca, .bool false] 68)).alloc (Obj.cells #[Value.slice bo nb cb, .bool false] 68)).alloc (Obj.cells #[Value.slice none 0 0, Value.bool false] 68))
  have HY := Lib.hid (((hy.alloc (Obj.cells #[Value.slice ao na ca, .bool false] 68)).alloc (Obj.cells #[Value.slice bo nb cb, .bool false] 68)).alloc (Obj.cells #[Value.slice none 0 0, Value.bool false] 68))
  have hbel : Below w.heap.size w (((w.alloc (Obj.cells #[Value.slice ao na ca, .bool false] 68)).alloc (Obj.cells #[Value.slice bo nb cb, .bool false] 68)).alloc (Obj.cells #[Value.slice none 0 0, Value.bool false] 68)) := (((Below.refl _ _).alloc (Nat.le_refl _) _).alloc (by simp) _).alloc (by simp; omega) _
  have hb0 : (((w.alloc (Obj.cells #[Value.slice ao na ca, .bool false] 68)).alloc (Obj.cells #[Value.slice bo nb cb, .bool false] 68)).alloc (Obj.cells #[Value.slice none 0 0, Value.bool false] 68)).heap[w.heap.size]? = some (.cells #[Value.slice ao na ca, .bool false] 68 (0, 0)) := at_old (at_old (at_new rfl))
  have hb1 : (((w.alloc (Obj.cells #[Value.slice ao na ca, .bool false] 68)).alloc (Obj.cells #[Value.slice bo nb cb, .bool false] 68)).alloc (Obj.cells #[Value.slice none 0 0, Value.bool false] 68)).heap[w.heap.size + 1]? = some (.cells #[Value.slice bo nb cb, .bool false] 68 (0, 0)) := at_old (at_new (by simp))
  have hb2 : (((w.alloc (Obj.cells #[Value.slice ao na ca, .bool false] 68)).alloc (Obj.cells #[Value.slice bo nb cb, .bool false] 68)).alloc (Obj.cells #[Value.slice none 0 0, Value.bool false] 68)).heap[w.heap.size + 2]? = some (.cells #[Value.slice none 0 0, .bool false] 68 (0, 0)) := at_new (by simp)
  generalize (((w.alloc (Obj.cells #[Value.slice ao na ca, .bool false] 68)).alloc (Obj.cells #[Value.slice bo nb cb, .bool false] 68)).alloc (Obj.cells #[Value.slice none 0 0, Value.bool false] 68)) = W at *
  have hc0 := box_cell (j := 0) hb0 rfl
  have hc1 := box_cell (j := 1) hb0 rfl
  have hd0 := box_cell (j := 0) hb1 rfl
  have hnx2 : Limb.nl B32 x ≤ 1000000000000 := by omega
  have hny2 : Limb.nl B32 y ≤ 1000000000000 := by omega
  have hdr : Below W.heap.size W W.drew := ⟨rfl, rfl, rfl, Nat.le_refl _, fun _ _ => rfl⟩
  clear hx hy
  have HM := Lib.hid fun (W : World) (ao : Option Addr) (n c : Nat) (h : Nt W (.slice ao n c) (x + y)) => num_Make false ao n c (x + y) W h hns
  generalize signed false (x + y) = z at *
  go_region_held3 (fun w' => w'.cell? ⟨w.heap.size, 0, none⟩ = some (.slice ao na ca) ∧ w'.cell? ⟨w.heap.size, 1, none⟩ = some (.bool false) ∧ w'.cell? ⟨w.heap.size + 1, 0, none⟩ = some (.slice bo nb cb))
    (first
      | (exact ⟨hc0, hc1, hd0⟩)
      | (exact ⟨hc0y, hc1y, hd0y⟩)
      | (exact ⟨hc0x, hc1x, hd0x⟩)
      | (exact ⟨box_cell (j := 0) (box_far _ (box_far _ hb0y (by show w.heap.size ≠ w.heap.size + 1 + 1; omega)) (by show w.heap.size ≠ w.heap.size + 1 + 1; omega)) rfl,
          box_cell (j := 1) (box_far _ (box_far _ hb0y (by show w.heap.size ≠ w.heap.size + 1 + 1; omega)) (by show w.heap.size ≠ w.heap.size + 1 + 1; omega)) rfl,
          box_cell (j := 0) (box_far _ (box_far _ hb1y (by show w.heap.size + 1 ≠ w.heap.size + 1 + 1; omega)) (by show w.heap.size + 1 ≠ w.heap.size + 1 + 1; omega)) rfl⟩))
    (first
      | (go_at_call 42; refine (nat_Add _ _ _ _ _ _ x y _ (Row.below HX.out hdr) (Row.below HY.out hdr) hnx2 hny2).mono ?_; rintro e w3 ⟨ao3, n3, c3, rfl, hN3, hbl3⟩; have HN3 := Lib.hid hN3; have hb0x := below_box hbl3 hb0; have hb1x := below_box hbl3 hb1; have hb2x := below_box hbl3 hb2; have hc0x := box_cell (j := 0) hb0x rfl; have hc1x := box_cell (j := 1) hb0x rfl; have hd0x := box_cell (j := 0) hb1x rfl; have hbelx := (hbel.trans (hdr.mono hbel.size)).trans (hbl3.mono hbel.size); clear hN3)
      | (go_at_call 41; refine (HM.out _ _ _ _ HN3.out).mono ?_; rintro e w4 ⟨ao4, n4, c4, rfl, hN4, hbl4⟩; have HN4 := Lib.hid hN4; have hb0y := below_box hbl4 hb0x; have hb1y := below_box hbl4 hb1x; have hb2y := below_box hbl4 hb2x; have hc0y := box_cell (j := 0) hb0y rfl; have hc1y := box_cell (j := 1) hb0y rfl; have hd0y := box_cell (j := 0) hb1y rfl; have he0y := box_cell (j := 0) hb2y rfl; have he1y := box_cell (j := 1) hb2y rfl; have hf0y := box_free (j := 0) hb2y; have hf1y := box_free (j := 1) hb2y; have hbely := hbelx.trans (hbl4.mono hbelx.size); clear hN4))
  go_wp2_with fail
  refine post_box Tryz.results29 rfl aggNum sizeNum rfl (box_set (j := 1) (.bool (decide (z < 0))) (box_set (j := 0) (.slice ao4 n4 c4) hb2y)) rfl ?_
  refine ⟨ao4, n4, c4, rfl, Row.set (Row.set HN4.out hb2y (by decide) _) (box_set (j := 0) _ hb2y) (by decide) _, ?_⟩
  exact (hbely.setCell (by show w.heap.size ≤ w.heap.size + 2; omega) _).setCell (by show w.heap.size ≤ w.heap.size + 2; omega) _

end Go.Proofs.YtgpkbembdflnmaaGreatDoor
