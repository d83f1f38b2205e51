/- Walk: ledger.Account: which names may be. -/
import Derived.Test.YtgpkbembdflnmaaGreatDoorRow
import Derived.Laws.RangeString
import Derived.Laws.RangeAny
namespace Go.Proofs.YtgpkbembdflnmaaGreatDoor
open Go.RowKit

/-- Which runes a name may have. -/
def okRune (r : Nat) : Bool := decide (97 ≤ r ∧ r ≤ 122) || decide (945 ≤ r ∧ r ≤ 969) || decide (48 ≤ r ∧ r ≤ 57) || decide (r = 45)

def accFrom (s : ByteArray) : Nat → Nat → Nat → Bool
  | 0, _, n => decide (1 ≤ n ∧ n ≤ 24)
  | b + 1, pos, n => if pos < s.size then (if okRune (Utf8.decode s pos).1 then accFrom s b (pos + (Utf8.decode s pos).2) (n + 1) else false) else decide (1 ≤ n ∧ n ≤ 24)

/-- Is it a name? -/
def account (s : ByteArray) : Bool := accFrom s s.size 0 0

theorem width_pos (s : ByteArray) (pos : Nat) (h : pos < s.size) : 1 ≤ (Utf8.decode s pos).2 := by
  by_cases ha : (s[pos]'h).toNat < 128
  · rw [decode_ascii s pos h ha]
    exact Nat.le_refl _
  · exact (decode_high s pos h (by omega)).2

theorem _root_.Go.World.iter_below (w : World) (s : ByteArray) (pos : Nat) : Below w.heap.size w (w.iter s pos) := (Below.refl _ _).alloc (Nat.le_refl _) _

theorem acc_end (s : ByteArray) (b pos n : Nat) (h : ¬ pos < s.size) : accFrom s b pos n = decide (1 ≤ n ∧ n ≤ 24) := by
  cases b with
  | zero => rfl
  | succ b => simp [accFrom, h]

theorem acc_good {s : ByteArray} {b pos k : Nat} {x : Bool} (hp : pos < s.size) (h : accFrom s (b + 1) pos k = x) (hr : okRune (Utf8.decode s pos).1 = true) : accFrom s b (pos + (Utf8.decode s pos).2) (k + 1) = x := by
  rw [← h]; simp [accFrom, hp, hr]
theorem acc_bad {s : ByteArray} {b pos k : Nat} {x : Bool} (hp : pos < s.size) (h : accFrom s (b + 1) pos k = x) (hr : okRune (Utf8.decode s pos).1 = false) : x = false := by
  rw [← h]; simp [accFrom, hp, hr]
theorem okRune_of {r : Nat} (h : (97 ≤ r ∧ r ≤ 122) ∨ (945 ≤ r ∧ r ≤ 969) ∨ (48 ≤ r ∧ r ≤ 57) ∨ r = 45) : okRune r = true := by
  unfold okRune; simp; omega
theorem okRune_not {r : Nat} (h : ¬ ((97 ≤ r ∧ r ≤ 122) ∨ (945 ≤ r ∧ r ≤ 969) ∨ (48 ≤ r ∧ r ≤ 57) ∨ r = 45)) : okRune r = false := by
  unfold okRune; simp; omega

theorem ne45 {r : Nat} (h : ((r : Int) == 45) = false) : r ≠ 45 := by rintro rfl; simp at h

set_option maxHeartbeats 2000000 in
theorem ledger_Account (s : ByteArray) (w : World) (hs : s.size ≤ 1000000000000) :
    Calls Tryz.prog 21 #[.string s] w fun e w' => e = .returned (.bool (account s)) ∧ Below w.heap.size w w' := by
  go_enter Tryz.func21, Tryz.ntmps21
  go_wp2_with fail
  go_loopw [3] (fun n w' => ∃ (pos b k : Nat), w' = w.iter s pos ∧ n = .int .i64 (k : Int) ∧ Hid (accFrom s b pos k = account s) ∧ s.size ≤ pos + b ∧ k + b ≤ s.size) (fun _ w' => s.size - w'.iterPos w.heap.size)
  case atStart => exact ⟨0, s.size, 0, rfl, rfl, rfl, by omega, by omega⟩
  case round =>
    obtain ⟨pos, b, k, rfl, rfl, HC, hb, hkb⟩ := hrel
    by_cases hp : pos < s.size
    · obtain ⟨b, rfl⟩ : ∃ b', b = b' + 1 := ⟨b - 1, by omega⟩
      have hnx : ∀ ty, (Instr.next (.pointer (some ⟨w.heap.size, 0, none⟩)) true ty).run Tryz.prog (w.iter s pos) = _ := fun ty => run_next_any w s pos ty hp
      have hwd := width_pos s pos hp
      have HG := Lib.hid fun hr => acc_good hp HC.out hr
      have HF := Lib.hid fun hr => acc_bad hp HC.out hr
      generalize hgr : (Utf8.decode s pos).1 = r at *
      generalize (Utf8.decode s pos).2 = d at *
      clear hgr
      go_wp2_with fail
      all_goals first
        | (refine ⟨⟨pos + d, b, k + 1, rfl, rfl, HG.out (okRune_of ?_), by omega, by omega⟩, ?_⟩
           · first | omega | (simp_all; omega)
           · simp; omega)
        | (go_ret
           refine ⟨?_, w.iter_below s _⟩
           have h45 := ne45 (r := r) (by first | assumption | (simp_all; done))
           rw [HF.out (okRune_not (by omega))]
           rfl)
    · have hnx : ∀ ty, (Instr.next (.pointer (some ⟨w.heap.size, 0, none⟩)) true ty).run Tryz.prog (w.iter s pos) = _ := fun ty => run_next_end w s pos ty hp
      have hend := acc_end s b pos k hp
      rw [HC.out] at hend
      have HE := Lib.hid hend
      clear hend
      go_wp2_with fail
      all_goals (go_ret; refine ⟨?_, w.iter_below s _⟩; rw [HE.out]; show Ending.returned (Value.bool _) = Ending.returned (Value.bool _); congr 2; rw [Bool.eq_iff_iff]; simp; omega)
end Go.Proofs.YtgpkbembdflnmaaGreatDoor
