/- Walks: nat.Cmp. -/
import Derived.Test.YtgpkbembdflnmaaGreatDoorNatA
namespace Go.Proofs.YtgpkbembdflnmaaGreatDoor
open Go.RowKit

theorem ret_i64 {a b : Int} (h : a = b) : Ending.returned (.int .i64 a) = .returned (.int .i64 b) := by rw [h]

set_option maxHeartbeats 1000000 in
theorem nat_Cmp (ao bo : Option Addr) (na nb ca cb x y : Nat) (w : World) (ha : Nt w (.slice ao na ca) x) (hb : Nt w (.slice bo nb cb) y)
    (hx : Limb.nl B32 x ≤ 1000000000000) (hy : Limb.nl B32 y ≤ 1000000000000) :
    Calls Tryz.prog 55 #[.agg #[.slice ao na ca], .agg #[.slice bo nb cb]] w fun e w' => e = .returned (.int .i64 (Limb.cmp x y)) ∧ Below w.heap.size w w' := by
  obtain ⟨ena, hca, hcm⟩ := Row.get ha
  obtain ⟨enb, hcb, hcm2⟩ := Row.get hb
  have na1 : na ≤ 1000000000000 := by unfold Limb.nl at hx; omega
  have nb1 : nb ≤ 1000000000000 := by unfold Limb.nl at hy; omega
  have HNA := Lib.hid ena
  have HNB := Lib.hid enb
  clear ena enb hcm hcm2 hca hcb
  by_cases hlt : na < nb
  · have hc : Limb.cmp x y = -1 := Limb.cmp_lt (Limb.lt_of_nl B32two (by unfold Limb.nl; rw [← HNA.out, ← HNB.out]; exact hlt))
    have HC := Lib.hid hc
    clear hc
    go_enter Tryz.func55, Tryz.ntmps55
    go_wp2
    go_ret
    exact ⟨ret_i64 HC.out.symm, ((Below.refl _ _).alloc (Nat.le_refl _) _).alloc (by simp) _⟩
  · by_cases hgt : nb < na
    · have hc : Limb.cmp x y = 1 := Limb.cmp_gt (Limb.lt_of_nl B32two (by unfold Limb.nl; rw [← HNA.out, ← HNB.out]; exact hgt))
      have HC := Lib.hid hc
      clear hc
      go_enter Tryz.func55, Tryz.ntmps55
      go_wp2
      go_ret
      exact ⟨ret_i64 HC.out.symm, ((Below.refl _ _).alloc (Nat.le_refl _) _).alloc (by simp) _⟩
    · obtain rfl : nb = na := by omega
      clear hlt hgt
      go_enter Tryz.func55, Tryz.ntmps55
      go_wp2_with fail
      go_loopw [5] (fun s5 wr => ∃ k : Nat, k ≤ nb ∧ s5 = .int .i64 ((k : Int) - 1) ∧ Hid (∀ j, k ≤ j → j < nb → (Limb.limbs B32 x).getD j 0 = (Limb.limbs B32 y).getD j 0) ∧
          wr.heap[w.heap.size]? = some (.cells #[.slice ao nb ca] 66 (0, 0)) ∧ wr.heap[w.heap.size + 1]? = some (.cells #[.slice bo nb cb] 66 (0, 0)) ∧ Below w.heap.size w wr)
        (fun s5 _ => (intOf s5 + 1).toNat)
      case atStart =>
        exact ⟨nb, Nat.le_refl _, rfl, fun j h1 h2 => by omega, at_old (at_new rfl), at_new (by simp), ((Below.refl _ _).alloc (Nat.le_refl _) _).alloc (by simp) _⟩
      case round =>
        obtain ⟨k, hk, rfl, HE, hb0, hb1, hbel⟩ := hrel
        have hc0 := box_cell (j := 0) hb0 rfl
        have hc1 := box_cell (j := 0) hb1 rfl
        by_cases h0 : 0 < k
        · obtain ⟨q, rfl⟩ : ∃ q, k = q + 1 := ⟨k - 1, by omega⟩
          obtain ⟨ga, rfl, hga, hca⟩ := Row.at ha (k := q) (by omega)
          obtain ⟨gb, rfl, hgb, hcb⟩ := Row.at hb (k := q) (by omega)
          have hca1 := (hbel.cell hga).trans hca
          have hcb1 := (hbel.cell hgb).trans hcb
          clear hca hcb
          generalize hA : (Limb.limbs B32 x).getD q 0 = d at *
          generalize hB : (Limb.limbs B32 y).getD q 0 = e at *
          have HA := Lib.hid hA
          have HB := Lib.hid hB
          clear hA hB
          have hq1 : (0 : Int) ≤ (q : Int) := by omega
          have hq2 : (q : Int) < (nb : Int) := by omega
          have hq3 : ((q + 1 : Nat) : Int) - 1 = (q : Int) := by omega
          rw [hq3] at *
          have hlen : (Limb.limbs B32 x).length = (Limb.limbs B32 y).length := by rw [← HNA.out, ← HNB.out]
          rcases Nat.lt_trichotomy d e with hde | hde | hde
          · have hxy : x < y := by
              have := Limb.lt_at (b := B32) hlen (Limb.limbs_lt B32two x) q (by rw [← HNA.out]; omega) (fun j h1 h2 => HE.out j (by omega) (by rw [HNA.out]; exact h2)) (by rw [HA.out, HB.out]; exact hde)
              rwa [Limb.val_limbs B32two, Limb.val_limbs B32two] at this
            have HC := Lib.hid (Limb.cmp_lt hxy)
            clear hxy hlen
            have t1 : (((d : Nat) : Int) == ((e : Nat) : Int)) = false := by simp; omega
            have t2 : (((d : Nat) : Int) != ((e : Nat) : Int)) = true := by simp; omega
            have t3 : ((d : Nat) : Int) < ((e : Nat) : Int) := by omega
            go_wp2_with fail
            go_quiet (fail)
            go_wp2_with fail
            go_quiet (fail)
            go_wp2_with fail
            go_ret
            exact ⟨ret_i64 HC.out.symm, by first | exact below_drewN (below_drewN hbel _) _ | exact below_drewN hbel _⟩
          · subst hde
            have HE2 : Hid (∀ j, q ≤ j → j < nb → (Limb.limbs B32 x).getD j 0 = (Limb.limbs B32 y).getD j 0) := fun j h1 h2 => by
              by_cases e : j = q
              · subst e; rw [HA.out, HB.out]
              · exact HE.out j (by omega) h2
            clear hlen
            go_wp2_with fail
            go_quiet (fail)
            go_wp2_with fail
            go_roundw
            case rel => exact ⟨q, by omega, by go_num, HE2, hb0, hb1, below_drewN hbel _⟩
            case measure => simp [intOf]
          · have hxy : y < x := by
              have := Limb.lt_at (b := B32) hlen.symm (Limb.limbs_lt B32two y) q (by rw [← HNB.out]; omega) (fun j h1 h2 => (HE.out j (by omega) (by rw [HNB.out]; exact h2)).symm) (by rw [HA.out, HB.out]; exact hde)
              rwa [Limb.val_limbs B32two, Limb.val_limbs B32two] at this
            have HC := Lib.hid (Limb.cmp_gt hxy)
            clear hxy hlen
            have t1 : (((d : Nat) : Int) == ((e : Nat) : Int)) = false := by simp; omega
            have t2 : (((d : Nat) : Int) != ((e : Nat) : Int)) = true := by simp; omega
            have t3 : ¬ ((d : Nat) : Int) < ((e : Nat) : Int) := by omega
            have t4 : decide (((d : Nat) : Int) < ((e : Nat) : Int)) = false := by simp; omega
            have t5 : decide (d < e) = false := by simp; omega
            go_wp2_with fail
            go_quiet (fail)
            go_wp2_with fail
            go_quiet (fail)
            go_wp2_with fail
            go_ret
            exact ⟨ret_i64 HC.out.symm, by first | exact below_drewN (below_drewN hbel _) _ | exact below_drewN hbel _⟩
        · obtain rfl : k = 0 := by omega
          have hxy : x = y := Limb.inj B32two (Limb.eq_all (by rw [← HNA.out, ← HNB.out]) (fun j h => HE.out j (Nat.zero_le _) (by rw [HNA.out]; exact h)))
          have HC := Lib.hid (Limb.cmp_eq hxy)
          clear hxy
          go_wp2_with fail
          go_ret
          exact ⟨ret_i64 HC.out.symm, hbel⟩
end Go.Proofs.YtgpkbembdflnmaaGreatDoor
