/- Walk: nat.Parse of what is no number. -/
import Derived.Test.YtgpkbembdflnmaaGreatDoorParse
namespace Go.Proofs.YtgpkbembdflnmaaGreatDoor
open Go.RowKit
open Go.Lib (decDigits)

set_option maxHeartbeats 4000000 in
set_option maxRecDepth 100000 in
theorem nat_Parse_bad (l : List UInt8) (w : World) (hlen : l.length ≤ 1000000000) (hg : Dec.good l = false) :
    Calls Tryz.prog 51 #[str l] w (RetNtE w 0 10) := by
  cases l with
  | nil =>
    go_enter Tryz.func51, Tryz.ntmps51
    go_wp2_with fail
    exact post_box1 Tryz.results51 rfl rfl aggNat sizeNat rfl (at_new rfl) rfl ⟨none, 0, 0, rfl, Nt.nil _, (Below.refl _ _).alloc (Nat.le_refl _) _⟩
  | cons c0 l0 =>
    have hsz0 : 0 < (⟨(c0 :: l0).toArray⟩ : ByteArray).size := by show 0 < (c0 :: l0).toArray.size; simp
    have hi : (⟨(c0 :: l0).toArray⟩ : ByteArray)[0] = c0 := rfl
    by_cases hz : c0 = 48
    · subst hz
      have hl0 : l0 ≠ [] := by rintro rfl; exact absurd hg (by decide)
      have hz3 : ((((⟨((48 : UInt8) :: l0).toArray⟩ : ByteArray)[0]).toNat : Int) == 48) = true := rfl
      obtain ⟨c1, r, rfl⟩ := List.exists_cons_of_ne_nil hl0
      go_enter Tryz.func51, Tryz.ntmps51
      go_wp2_with fail
      exact post_box1 Tryz.results51 rfl rfl aggNat sizeNat rfl (at_new rfl) rfl ⟨none, 0, 0, rfl, Nt.nil _, (Below.refl _ _).alloc (Nat.le_refl _) _⟩
    · have htrim : Lib.trimS (c0 :: l0) digits10 ≠ [] := by
        rw [Ne, trim_nil]
        intro h
        unfold Dec.good at hg
        simp only [h, List.isEmpty_cons, Bool.not_false, Bool.true_and, Bool.or_eq_false_iff] at hg
        apply hz
        simpa using hg.2
      obtain ⟨t0, tr, ht⟩ := List.exists_cons_of_ne_nil htrim
      have hcon := fun W => trim_any (c0 :: l0) W (by simp at hlen ⊢; omega)
      rw [ht] at hcon
      have HC := Lib.hid hcon
      clear htrim ht hg hcon
      have hz2 : ((c0.toNat : Int) == 48) = false := by
        rw [beq_eq_false_iff_ne]
        intro e
        exact hz (UInt8.toNat_inj.1 (by simpa using (show c0.toNat = 48 by omega)))
      have hz3 : ((((⟨(c0 :: l0).toArray⟩ : ByteArray)[0]).toNat : Int) == 48) = false := hz2
      have hz4 : (c0 == 48) = false := by simpa using hz
      clear hz
      go_enter Tryz.func51, Tryz.ntmps51
      go_wp2_with fail
      refine (HC.out _).mono ?_
      rintro e w1 ⟨rfl, hbl⟩
      have hb0 := below_box hbl (b := w.heap.size) (at_new rfl)
      have hce := box_cell (j := 0) hb0 rfl
      have hfr := box_free (j := 0) hb0
      go_wp2_with fail
      exact post_box1 Tryz.results51 rfl rfl aggNat sizeNat rfl (box_set (j := 0) (.slice none 0 0) hb0) rfl ⟨none, 0, 0, rfl, Nt.nil _, (((Below.refl _ _).alloc (Nat.le_refl _) _).trans (hbl.mono (by simp))).setCell (Nat.le_refl _) _⟩
end Go.Proofs.YtgpkbembdflnmaaGreatDoor
