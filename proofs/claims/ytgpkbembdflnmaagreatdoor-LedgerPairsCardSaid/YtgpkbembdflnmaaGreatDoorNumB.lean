/- Walks: num.zero, Sign, Neg. -/
import Derived.Test.YtgpkbembdflnmaaGreatDoorNumA
namespace Go.Proofs.YtgpkbembdflnmaaGreatDoor
open Go.RowKit

set_option maxHeartbeats 1000000 in
theorem num_zero (b : Bool) (ao : Option Addr) (n c x : Nat) (w : World) (hx : Nt w (.slice ao n c) x) (hn : Limb.nl B32 x ≤ 1000000000000) :
    Calls Tryz.prog 53 #[.agg #[.slice ao n c, .bool b]] w fun e w' => e = .returned (.bool (decide (x = 0))) ∧ Below w.heap.size w w' := by
  go_enter Tryz.func53, Tryz.ntmps53
  go_wp2_with fail
  refine (nat_Bits _ _ _ x _ (hx.alloc _) hn).mono ?_
  rintro e w1 ⟨z, rfl, hz0, hz1, hz2, hbl⟩
  have hz : (z == 0) = decide (x = 0) := by
    by_cases h : x = 0
    · rw [hz0 h, h]; rfl
    · have := hz1 h; rw [decide_eq_false h]; simp; omega
  have HB : Below w.heap.size w w1 := ((Below.refl _ _).alloc (Nat.le_refl _) _).trans (hbl.mono (by simp))
  clear hz0 hz1 hbl
  go_wp2_with fail
  go_ret
  exact ⟨by rfl, HB⟩

set_option maxHeartbeats 1000000 in
theorem num_Sign (ao : Option Addr) (n c : Nat) (z : Int) (w : World) (hx : Nt w (.slice ao n c) z.natAbs) (hn : Limb.nl B32 z.natAbs ≤ 1000000000000) :
    Calls Tryz.prog 40 #[.agg #[.slice ao n c, .bool (decide (z < 0))]] w fun e w' => e = .returned (.int .i64 z.sign) ∧ Below w.heap.size w w' := by
  by_cases hz : z < 0
  · rw [decide_eq_true hz]
    have hs : z.sign = -1 := Int.sign_eq_neg_one_of_neg hz
    have HS := Lib.hid hs
    clear hz hs
    go_enter Tryz.func40, Tryz.ntmps40
    go_wp2_with fail
    go_ret
    exact ⟨by rw [HS.out]; rfl, (Below.refl _ _).alloc (Nat.le_refl _) _⟩
  · rw [decide_eq_false hz]
    by_cases h0 : z = 0
    · subst h0
      go_enter Tryz.func40, Tryz.ntmps40
      go_wp2_with fail
      refine (num_zero _ _ _ _ 0 _ (hx.alloc _) hn).mono ?_
      rintro e w1 ⟨rfl, hbl⟩
      have HB : Below w.heap.size w w1 := ((Below.refl _ _).alloc (Nat.le_refl _) _).trans (hbl.mono (by simp))
      go_wp2_with fail
      go_ret
      exact ⟨by rfl, HB⟩
    · have hs : z.sign = 1 := Int.sign_eq_one_of_pos (by omega)
      have HS := Lib.hid hs
      have hd : decide (z.natAbs = 0) = false := decide_eq_false (by omega)
      have HD := Lib.hid hd
      clear hz hs h0 hd
      go_enter Tryz.func40, Tryz.ntmps40
      go_wp2_with fail
      refine (num_zero _ _ _ _ z.natAbs _ (hx.alloc _) hn).mono ?_
      rintro e w1 ⟨rfl, hbl⟩
      rw [HD.out]
      have HB : Below w.heap.size w w1 := ((Below.refl _ _).alloc (Nat.le_refl _) _).trans (hbl.mono (by simp))
      go_wp2_with fail
      go_ret
      exact ⟨by rw [HS.out]; rfl, HB⟩

theorem signed_natAbs (z : Int) : signed (decide (z < 0)) z.natAbs = z := by
  by_cases h : z < 0
  · rw [decide_eq_true h]; simp [signed]; omega
  · rw [decide_eq_false h]; simp [signed]; omega

end Go.Proofs.YtgpkbembdflnmaaGreatDoor
