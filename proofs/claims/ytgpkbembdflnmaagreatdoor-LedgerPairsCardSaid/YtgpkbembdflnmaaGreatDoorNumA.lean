/- Walks: num.Make, zero, Sign, Neg. -/
import Derived.Test.YtgpkbembdflnmaaGreatDoorNatE
import Derived.Test.YtgpkbembdflnmaaGreatDoorParseB
namespace Go.Proofs.YtgpkbembdflnmaaGreatDoor
open Go.RowKit
open Go.Lib (decDigits)

/-- A whole number from its sign and its size. -/
def signed (b : Bool) (x : Nat) : Int := if b then -(x : Int) else (x : Int)

theorem signed_abs (b : Bool) (x : Nat) : (signed b x).natAbs = x := by cases b <;> simp [signed]
theorem signed_neg (b : Bool) (x : Nat) : decide (signed b x < 0) = (b && decide (0 < x)) := by
  cases b
  · simp [signed]; first | done | omega
  · simp [signed]; first | done | omega

def RetNum (w : World) (z : Int) (e : Ending) (w' : World) : Prop := ∃ ao n c, e = .returned (.agg #[.slice ao n c, .bool (decide (z < 0))]) ∧ Nt w' (.slice ao n c) z.natAbs ∧ Below w.heap.size w w'

theorem aggNum : ∀ w, (isAgg 68).run Tryz.prog w = .ok true w := fun _ => by kernel_rfl
theorem sizeNum : ∀ w, (sizeOf 68).run Tryz.prog w = .ok 2 w := fun _ => by kernel_rfl

set_option maxHeartbeats 1000000 in
theorem num_Make_false (ao : Option Addr) (n c x : Nat) (w : World) (hx : Nt w (.slice ao n c) x) :
    Calls Tryz.prog 41 #[.bool false, .agg #[.slice ao n c]] w (RetNum w (signed false x)) := by
  go_enter Tryz.func41, Tryz.ntmps41
  go_upto_region 1 with fail
  have hb0 : ((w.alloc (Obj.cells #[Value.slice ao n c] 66)).alloc (Obj.cells #[Value.slice none 0 0, Value.bool false] 68)).heap[w.heap.size]? = some (.cells #[Value.slice ao n c] 66 (0, 0)) := at_old (at_new rfl)
  have hb1 : ((w.alloc (Obj.cells #[Value.slice ao n c] 66)).alloc (Obj.cells #[Value.slice none 0 0, Value.bool false] 68)).heap[w.heap.size + 1]? = some (.cells #[Value.slice none 0 0, Value.bool false] 68 (0, 0)) := at_new (by simp)
  have hbel : Below w.heap.size w ((w.alloc (Obj.cells #[Value.slice ao n c] 66)).alloc (Obj.cells #[Value.slice none 0 0, Value.bool false] 68)) := ((Below.refl _ _).alloc (Nat.le_refl _) _).alloc (by simp) _
  have HX := Lib.hid ((hx.alloc (Obj.cells #[Value.slice ao n c] 66)).alloc (Obj.cells #[Value.slice none 0 0, Value.bool false] 68))
  generalize ((w.alloc (Obj.cells #[Value.slice ao n c] 66)).alloc (Obj.cells #[Value.slice none 0 0, Value.bool false] 68)) = W at *
  have hc0 := box_cell (j := 0) hb0 rfl
  have hc1 := box_cell (j := 0) hb1 rfl
  have hc2 := box_cell (j := 1) hb1 rfl
  have hf1 := box_free (j := 0) hb1
  have hf2 := box_free (j := 1) hb1
  go_region_with (fail)
  all_goals
    go_wp2_with fail
    refine post_box Tryz.results41 rfl aggNum sizeNum rfl (below_box (below_drewN (Below.refl _ _) 1) (box_set (j := 1) (.bool false) (box_set (j := 0) (.slice ao n c) hb1))) rfl ?_
    refine ⟨ao, n, c, by simp [signed], ?_, ?_⟩
    · rw [signed_abs]
      exact Row.below (Row.set (Row.set HX.out hb1 (by decide) _) (box_set (j := 0) _ hb1) (by decide) _) (below_drewN (Below.refl _ _) 1)
    · exact below_drewN ((hbel.setCell (by show w.heap.size ≤ w.heap.size + 1; omega) _).setCell (by show w.heap.size ≤ w.heap.size + 1; omega) _) 1

set_option maxHeartbeats 1000000 in
theorem num_Make_true (ao : Option Addr) (n c x : Nat) (w : World) (hx : Nt w (.slice ao n c) x) (hn : Limb.nl B32 x ≤ 1000000000000) :
    Calls Tryz.prog 41 #[.bool true, .agg #[.slice ao n c]] w (RetNum w (signed true x)) := by
  go_enter Tryz.func41, Tryz.ntmps41
  go_upto_region 1 with fail
  have hb0 : ((w.alloc (Obj.cells #[Value.slice ao n c] 66)).alloc (Obj.cells #[Value.slice none 0 0, Value.bool false] 68)).heap[w.heap.size]? = some (.cells #[Value.slice ao n c] 66 (0, 0)) := at_old (at_new rfl)
  have hb1 : ((w.alloc (Obj.cells #[Value.slice ao n c] 66)).alloc (Obj.cells #[Value.slice none 0 0, Value.bool false] 68)).heap[w.heap.size + 1]? = some (.cells #[Value.slice none 0 0, Value.bool false] 68 (0, 0)) := at_new (by simp)
  have hbel : Below w.heap.size w ((w.alloc (Obj.cells #[Value.slice ao n c] 66)).alloc (Obj.cells #[Value.slice none 0 0, Value.bool false] 68)) := ((Below.refl _ _).alloc (Nat.le_refl _) _).alloc (by simp) _
  have HX := Lib.hid ((hx.alloc (Obj.cells #[Value.slice ao n c] 66)).alloc (Obj.cells #[Value.slice none 0 0, Value.bool false] 68))
  generalize ((w.alloc (Obj.cells #[Value.slice ao n c] 66)).alloc (Obj.cells #[Value.slice none 0 0, Value.bool false] 68)) = W at *
  have hc0 := box_cell (j := 0) hb0 rfl
  have hc1 := box_cell (j := 0) hb1 rfl
  have hc2 := box_cell (j := 1) hb1 rfl
  have hf1 := box_free (j := 0) hb1
  have hf2 := box_free (j := 1) hb1
  have hdr : Below W.heap.size W W.drew := ⟨rfl, rfl, rfl, Nat.le_refl _, fun _ _ => rfl⟩
  go_region_held3 (fun w' => w'.cell? ⟨w.heap.size, 0, none⟩ = some (.slice ao n c)) (first | (exact hc0) | (exact hc0x) | (go_keep)) (first | (go_at_call 52; refine (nat_Bits _ _ _ x W.drew (Row.below HX.out hdr) hn).mono ?_; rintro e w3 ⟨z, rfl, hz0, hz1, hz2, hbl⟩; have hb0x := below_box hbl hb0; have hb1x := below_box hbl hb1; have hc0x := box_cell (j := 0) hb0x rfl; have hc1x := box_cell (j := 0) hb1x rfl; have hc2x := box_cell (j := 1) hb1x rfl; have hf1x := box_free (j := 0) hb1x; have hf2x := box_free (j := 1) hb1x))
  have hsgn : decide (0 < z) = decide (signed true x < 0) := by
    rw [signed_neg, Bool.true_and]
    by_cases hx0 : x = 0
    · rw [hz0 hx0, hx0]; rfl
    · rw [decide_eq_true (hz1 hx0), decide_eq_true (by omega)]
  go_wp2_with fail
  refine post_box Tryz.results41 rfl aggNum sizeNum rfl (box_set (j := 1) (.bool (decide (0 < z))) (box_set (j := 0) (.slice ao n c) hb1x)) rfl ?_
  refine ⟨ao, n, c, ?_, ?_, ?_⟩
  · rw [← hsgn]; rfl
  · rw [signed_abs]
    exact Row.set (Row.set (Row.below (Row.below HX.out hdr) hbl) hb1x (by decide) _) (box_set (j := 0) _ hb1x) (by decide) _
  · exact (((hbel.trans (hdr.mono hbel.size)).trans (hbl.mono hbel.size)).setCell (by show w.heap.size ≤ w.heap.size + 1; omega) _).setCell (by show w.heap.size ≤ w.heap.size + 1; omega) _

theorem num_Make (b : Bool) (ao : Option Addr) (n c x : Nat) (w : World) (hx : Nt w (.slice ao n c) x) (hn : Limb.nl B32 x ≤ 1000000000000) :
    Calls Tryz.prog 41 #[.bool b, .agg #[.slice ao n c]] w (RetNum w (signed b x)) := by
  cases b
  · exact num_Make_false ao n c x w hx
  · exact num_Make_true ao n c x w hx hn
end Go.Proofs.YtgpkbembdflnmaaGreatDoor
