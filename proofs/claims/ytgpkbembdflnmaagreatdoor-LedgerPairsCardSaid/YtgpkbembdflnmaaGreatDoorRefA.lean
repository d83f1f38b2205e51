/- Walk: the reference's trim (made from XNatA). -/
import Derived.Test.YtgpkbembdflnmaaGreatDoorRowI
namespace Go.Proofs.YtgpkbembdflnmaaGreatDoor
open Go.RowKit

set_option maxHeartbeats 400000 in
/-- 'trimmed' leaves the limbs of the row's value. -/
theorem rtrim_some (g n c : Nat) (l : List Nat) (w : World) (h : RRow w (.slice (some ⟨g, 0, none⟩) n c) l) (hn : l.length ≤ 1099511627776) (hl : n = l.length) :
    Calls Tryz.prog 48 #[.slice (some ⟨g, 0, none⟩) n c] w fun e w' => e = .returned (.agg #[.slice (some ⟨g, 0, none⟩) (Limb.keep l n) c]) ∧ Below w.heap.size w w' := by
  obtain ⟨ao, c', e0, hlc, hcm, hcells⟩ := h.form
  simp only [Value.slice.injEq] at e0
  obtain ⟨rfl, _, rfl⟩ := e0
  have HL : Hid (n = l.length) := hl
  have hn' : n ≤ 1099511627776 := by omega
  have hnc : n ≤ c := by omega
  have HC : Hid (∀ j, j < n → g < w.heap.size ∧ w.cell? ⟨g, j, none⟩ = some (.int .i64 ((l.getD j 0 : Nat) : Int))) := fun j hj => by
    obtain ⟨g', e, h1, h2⟩ := hcells j (by omega)
    simp only [Option.some.injEq, Addr.mk.injEq, and_true] at e
    subst e; exact ⟨h1, h2⟩
  clear hl hcells hlc h
  go_enter Tryz.func48, Tryz.ntmps48
  go_wp2
  go_loopw [0] (fun v wr => ∃ k : Nat, k ≤ n ∧ v = .slice (some ⟨g, 0, none⟩) k c ∧ Limb.keep l k = Limb.keep l n ∧ wr.cell? ⟨w.heap.size, 0, none⟩ = some (.slice none 0 0) ∧ wr.frozen? ⟨w.heap.size, 0, none⟩ = false ∧ Below w.heap.size w wr) (fun v _ => match v with | .slice _ k _ => k | _ => 0)
  case atStart =>
    exact ⟨n, Nat.le_refl _, rfl, rfl, by simp [World.cell?_alloc_new], by simp [World.frozen?_alloc_new], (Below.refl _ _).alloc (Nat.le_refl _) _⟩
  case round =>
    obtain ⟨k, hk, rfl, hkk, hce, hfr, hb⟩ := hrel
    have HK := Lib.hid hkk
    clear hkk
    by_cases h0 : 0 < k
    · obtain ⟨hg, hcell⟩ := HC.out (k - 1) (by omega)
      have hc1 : wr.cell? ⟨g, k - 1, none⟩ = some (.int .i64 ((l.getD (k - 1) 0 : Nat) : Int)) := (hb.cell hg).trans hcell
      by_cases hz : l.getD (k - 1) 0 = 0
      · have hzb : (((l.getD (k - 1) 0 : Nat) : Int) == 0) = true := by rw [hz]; rfl
        have hkeep : Limb.keep l k = Limb.keep l (k - 1) := by
          obtain ⟨q, rfl⟩ : ∃ q, k = q + 1 := ⟨k - 1, by omega⟩
          simp only [Limb.keep, Nat.add_sub_cancel] at hz ⊢
          rw [if_pos hz]
        have HE := Lib.hid hkeep
        have HZ := Lib.hid hz
        clear hkeep hz
        generalize hd : l.getD (k - 1) 0 = d at *
        have HD := Lib.hid hd
        clear hd
        go_wp2
        go_roundw
        case rel => exact ⟨k - 1, by omega, by first | rfl | (congr 1; omega), by rw [← HE.out]; exact HK.out, hce, hfr, hb⟩
        case measure => show k - 1 < k; omega
      · have hzb : (((l.getD (k - 1) 0 : Nat) : Int) == 0) = false := by simpa using hz
        have hkeep : Limb.keep l k = k := by
          obtain ⟨q, rfl⟩ : ∃ q, k = q + 1 := ⟨k - 1, by omega⟩
          simp only [Limb.keep, Nat.add_sub_cancel] at hz ⊢
          rw [if_neg hz]
        have HE := Lib.hid hkeep
        have HZ := Lib.hid hz
        clear hkeep hz
        generalize hd : l.getD (k - 1) 0 = d at *
        have HD := Lib.hid hd
        clear hd
        go_wp2
        refine bodyPost_ret (v := .agg #[.slice (some ⟨g, 0, none⟩) k c]) (by simp [results, Tryz.results48, World.cell?_setCell_same _ _ _ hce, go_sem]) rfl ⟨?_, hb.setCell (Nat.le_refl _) _⟩
        rw [← HK.out, HE.out]
    · have hk0 : k = 0 := by omega
      subst hk0
      go_wp2
      refine bodyPost_ret (v := .agg #[.slice (some ⟨g, 0, none⟩) 0 c]) (by simp [results, Tryz.results48, World.cell?_setCell_same _ _ _ hce, go_sem]) rfl ⟨?_, hb.setCell (Nat.le_refl _) _⟩
      rw [← HK.out]
      rfl

set_option maxHeartbeats 400000 in
theorem rtrim_nil (w : World) : Calls Tryz.prog 48 #[.slice none 0 0] w fun e w' => e = .returned (.agg #[.slice none 0 0]) ∧ Below w.heap.size w w' := by
  go_enter Tryz.func48, Tryz.ntmps48
  go_wp2
  refine wp_loop_rounds 1 ?_
  rw [rounds_succ]
  go_wp2
  refine bodyPost_ret (v := .agg #[.slice none 0 0]) (by simp [results, Tryz.results48, go_sem]) rfl ⟨rfl, (Below.refl _ _).alloc (Nat.le_refl _) _⟩

/-- What a function hands back that makes a number: its limbs; what was there stands. -/
def RetRNt (w : World) (x : Nat) (e : Ending) (w' : World) : Prop := ∃ ao n c, e = .returned (.agg #[.slice ao n c]) ∧ RNt w' (.slice ao n c) x ∧ Below w.heap.size w w'

theorem rtrim_any (v : Value) (l : List Nat) (x : Nat) (w : World) (h : RRow w v l) (hlt : ∀ d ∈ l, d < B9) (hx : Limb.val B9 l = x) (hn : l.length ≤ 1099511627776) :
    Calls Tryz.prog 48 #[v] w (RetRNt w x) := by
  rcases h.2 with ⟨rfl, hl⟩ | ⟨g, cap, cur, rfl, rest⟩
  · refine (rtrim_nil w).mono ?_
    rintro e w' ⟨he, hb⟩
    have : l = [] := List.length_eq_zero_iff.1 hl
    subst this
    subst hx
    exact ⟨_, _, _, he, by unfold RNt; rw [show Limb.val B9 [] = 0 from rfl, Limb.limbs_zero]; exact World.ownsRow_nil _ _ _ _, hb⟩
  · refine (rtrim_some g l.length cap l w h hn rfl).mono ?_
    rintro e w' ⟨he, hb⟩
    refine ⟨_, _, _, he, ?_, hb⟩
    unfold RNt
    rw [Limb.limbs_trim' (by decide) hx hlt]
    exact (RRow.below h hb).take _ (Limb.keep_le _ _)

end Go.Proofs.YtgpkbembdflnmaaGreatDoor
