/- Walks: ledger.New, Len, Balance. -/
import Derived.Test.YtgpkbembdflnmaaGreatDoorBook
import Derived.Test.YtgpkbembdflnmaaGreatDoorAcct
namespace Go.Proofs.YtgpkbembdflnmaaGreatDoor
open Go.RowKit

/-- A ledger in memory: its struct in block L, its balances in block b. -/
structure Led (w : World) (L b n posts : Nat) (dom : List UInt8 → Bool) (bal : List UInt8 → Int) (B : Nat) : Prop where
  box : w.heap[L]? = some (.cells #[.map (some b), .int .i64 (posts : Int)] 58 (0, 0))
  book : Book w b n dom bal B

theorem Led.below {w w' : World} {L b n posts : Nat} {dom : List UInt8 → Bool} {bal : List UInt8 → Int} {B : Nat} (h : Led w L b n posts dom bal B) (hb : Below w.heap.size w w') : Led w' L b n posts dom bal B :=
  ⟨below_box hb h.box, h.book.below hb⟩
theorem Led.lt {w : World} {L b n posts : Nat} {dom : List UInt8 → Bool} {bal : List UInt8 → Int} {B : Nat} (h : Led w L b n posts dom bal B) : L < w.heap.size := (Array.getElem?_eq_some_iff.1 h.box).1

set_option maxHeartbeats 1000000 in
theorem ledger_New (w : World) : Calls Tryz.prog 7 #[] w fun e w' => e = .returned (.pointer (some ⟨w.heap.size + 1, 0, none⟩)) ∧ Led w' (w.heap.size + 1) w.heap.size 0 0 (fun _ => false) (fun _ => 0) 0 ∧ Below w.heap.size w w' := by
  have hmm := @run_makeMap Tryz.prog
  go_enter Tryz.func7, Tryz.ntmps7
  go_wp2_with fail
  go_ret
  refine ⟨by first | rfl | (simp; done), ⟨at_new (by simp), (Book.made w).alloc _⟩, ((Below.refl _ _).alloc (Nat.le_refl _) _).alloc (by simp) _⟩

set_option maxHeartbeats 1000000 in
theorem ledger_Len (w : World) {L b n posts : Nat} {dom : List UInt8 → Bool} {bal : List UInt8 → Int} {B : Nat} (h : Led w L b n posts dom bal B) :
    Calls Tryz.prog 13 #[.pointer (some ⟨L, 0, none⟩)] w fun e w' => e = .returned (.int .i64 (posts : Int)) ∧ w' = w := by
  have hc := box_cell (j := 1) h.box rfl
  go_enter Tryz.func13, Tryz.ntmps13
  go_wp2_with fail
  go_ret
  exact ⟨by first | rfl | (simp; done), rfl⟩

set_option maxHeartbeats 1000000 in
theorem ledger_Balance (w : World) {L b n posts : Nat} {dom : List UInt8 → Bool} {bal : List UInt8 → Int} {B : Nat} (h : Led w L b n posts dom bal B) (s : List UInt8) (hs : s.length ≤ maxLen) (hB : B ≤ 100000000000) (htab : Tab w) :
    Calls Tryz.prog 12 #[.pointer (some ⟨L, 0, none⟩), str s] w fun e w' => e = .returned (str (numText (bal s))) ∧ Below w.heap.size w w' := by
  have hc := box_cell (j := 0) h.box rfl
  obtain ⟨ao, m, c, hrun, hN, hnl⟩ := h.book.look s hs
  have HN := Lib.hid hN
  have HL := Lib.hid hnl
  clear hN hnl
  go_enter Tryz.func12, Tryz.ntmps12
  go_wp2_with fail
  refine (num_Text ao m c (bal s) _ HN.out (Nat.le_trans HL.out hB) htab).mono ?_
  rintro e w1 ⟨rfl, hbl⟩
  go_wp2_with fail
  go_ret
  exact ⟨by first | rfl | (simp; done), hbl⟩
end Go.Proofs.YtgpkbembdflnmaaGreatDoor
