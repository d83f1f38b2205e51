/- Walks: nat.scaled, nat.parted. -/
import Derived.Test.YtgpkbembdflnmaaGreatDoorNatA
namespace Go.Proofs.YtgpkbembdflnmaaGreatDoor
open Go.RowKit

structure ScaledAt (w wr : World) (g n : Nat) (la r : List Nat) (by' more k c : Nat) : Prop where
  wr : Wr w wr g (n + 1) (n + 1) r
  sum : Limb.val B32 (r.take k) + B32 ^ k * c = Limb.val B32 (la.take k) * by' + more

theorem ScaledAt.step {w wr : World} {g n : Nat} {la r : List Nat} {b m k c d t : Nat} (h : ScaledAt w wr g n la r b m k c) (hk : k < n) (hd : la.getD k 0 = d) (ht : c + d * b = t) :
    ScaledAt w (wr.setCell ⟨g, k, none⟩ (.int .u32 ((t % B32 : Nat) : Int))) g n la (r.set k (t % B32)) b m (k + 1) (t / B32) := by
  have hl := h.wr.len
  refine ⟨h.wr.set k _ (Nat.mod_lt _ (by decide)), ?_⟩
  rw [Limb.val_take_set _ _ _ _ (by omega), Limb.val_take_next, hd, Nat.add_mul]
  have := h.sum
  have e1 : B32 ^ (k + 1) * (t / B32) + B32 ^ k * (t % B32) = B32 ^ k * t := by
    rw [Nat.pow_succ, Nat.mul_assoc, ← Nat.mul_add, Nat.div_add_mod]
  have e2 : B32 ^ k * t = B32 ^ k * c + B32 ^ k * d * b := by rw [← ht, Nat.mul_add, Nat.mul_assoc]
  omega

theorem ScaledAt.last {w wr : World} {g n : Nat} {la r : List Nat} {b m c : Nat} (h : ScaledAt w wr g n la r b m n c) (hc : c < B32) (hn : n = la.length) :
    Wr w (wr.setCell ⟨g, n, none⟩ (.int .u32 (c : Int))) g (n + 1) (n + 1) (r.set n c) ∧ Limb.val B32 (r.set n c) = Limb.val B32 la * b + m := by
  have hl := h.wr.len
  refine ⟨h.wr.set n c hc, ?_⟩
  have e := Limb.val_take_set B32 r n c (by omega)
  rw [List.take_of_length_le (by simp [hl])] at e
  have := h.sum
  rw [List.take_of_length_le (l := la) (by omega)] at this
  omega

set_option maxHeartbeats 1000000 in
theorem nat_scaled (ao : Option Addr) (na ca x b m : Nat) (w : World) (ha : Nt w (.slice ao na ca) x) (hx : Limb.nl B32 x ≤ 1000000000000) (hb : b < 4294967296) (hm : m < 4294967296) :
    Calls Tryz.prog 69 #[.agg #[.slice ao na ca], .int .u32 (b : Int), .int .u32 (m : Int)] w (RetNt w (x * b + m)) := by
  obtain ⟨ena, hca, hcm⟩ := Row.get ha
  have na1 : na ≤ 1000000000000 := by unfold Limb.nl at hx; omega
  have HNA := Lib.hid ena
  clear ena hcm hca
  go_enter Tryz.func69, Tryz.ntmps69
  go_wp2_with (at_make; refine make_u32 (w := w) rfl _ _ rfl (na + 1) rfl rfl (by omega) (by omega) (by omega) (((Below.refl _ _).alloc (Nat.le_refl _) _).alloc (by simp) _) ?_; intro w1 HW hgrow; have hb2 := grown_box hgrow (b := w.heap.size) (at_old (at_new rfl)) (by simp); have hb3 := grown_box hgrow (b := w.heap.size + 1) (at_new (by simp)) (by simp); have hc2 := box_cell (j := 0) hb2 rfl; clear hgrow)
  go_loopw [8, 21] (fun s8 s21 wr => ∃ (k c : Nat) (r : List Nat), k ≤ na ∧ c < 4294967296 ∧ s8 = .int .u64 c ∧ s21 = .int .i64 k ∧ Hid (ScaledAt w wr (w.heap.size + 1 + 1) na (Limb.limbs B32 x) r b m k c) ∧
        wr.heap[w.heap.size]? = some (.cells #[.slice ao na ca] 66 (0, 0)) ∧ wr.heap[w.heap.size + 1]? = some (.cells #[.slice none 0 0] 66 (0, 0)))
      (fun _ s21 _ => na - (intOf s21).toNat)
  case atStart => exact ⟨0, m, _, Nat.zero_le _, hm, rfl, rfl, ⟨by simpa using HW.out, by simp [Limb.val]⟩, hb2, hb3⟩
  case round =>
    obtain ⟨k, c, r, hk, hc, rfl, rfl, HR, hb2, hb3⟩ := hrel
    have hc2 := box_cell (j := 0) hb2 rfl
    by_cases hlt : k < na
    · have hcr := HR.out.wr.cell k (by omega)
      have hfr := HR.out.wr.free k
      obtain ⟨ga, rfl, hga, hca⟩ := Row.at ha hlt
      have hca1 := (HR.out.wr.below.cell hga).trans hca
      have hda := Limb.getD_lt B32two (Limb.limbs_lt B32two x) k
      clear hca
      generalize hA : (Limb.limbs B32 x).getD k 0 = d at *
      generalize hR : r.getD k 0 = q at *
      have HA := Lib.hid hA
      clear hA hR
      unfold B32 at hda
      have hmul : d * b ≤ 4294967295 * 4294967295 := Nat.mul_le_mul (by omega) (by omega)
      have hmul2 : (d : Int) * (b : Int) ≤ 18446744065119617025 := by have : ((d * b : Nat) : Int) ≤ 18446744065119617025 := by omega
                                                                      rwa [Int.natCast_mul] at this
      have hmul0 : 0 ≤ (d : Int) * (b : Int) := by have : (0 : Int) ≤ ((d * b : Nat) : Int) := by omega
                                                   rwa [Int.natCast_mul] at this
      go_wp2
      go_roundw
      case rel =>
        have st := HR.out.step hlt HA.out (t := c + d * b) rfl
        have e : (c : Int) + d * b = ((c + d * b : Nat) : Int) := by simp
        have e2 : c + d * b < 4294967296 * 4294967296 := by omega
        rw [e]
        rw [show (((c + d * b : Nat) : Int)) % 4294967296 = (((c + d * b) % B32 : Nat) : Int) by unfold B32; omega]
        exact ⟨k + 1, (c + d * b) / B32, _, by omega, by unfold B32; omega, by unfold B32; go_num, by go_num, st, box_far _ hb2 (by simp <;> omega), box_far _ hb3 (by simp <;> omega)⟩
      case measure => simp [intOf]; omega
    · obtain rfl : k = na := by omega
      have hcr := HR.out.wr.cell k (by omega)
      have hfr := HR.out.wr.free k
      generalize hR : r.getD k 0 = q at *
      clear hR
      go_wp2_with fail
      obtain ⟨hw, hval⟩ := HR.out.last (by unfold B32; omega) HNA.out
      rw [Limb.val_limbs B32two] at hval
      refine (trimmed_any _ _ (x * b + m) _ hw.row hw.lt hval (by rw [hw.len]; omega)).mono ?_
      rintro e w2 ⟨ao2, n2, c2, rfl, hv, hbl⟩
      have hbx := below_box hbl (box_far (p := ⟨w.heap.size + 1 + 1, k, none⟩) (.int .u32 c) hb3 (by simp <;> omega))
      have hce := box_cell (j := 0) hbx rfl
      have hfr := box_free (j := 0) hbx
      go_wp2
      refine post_box Tryz.results69 rfl aggNat sizeNat rfl (box_set (j := 0) (.slice ao2 n2 c2) hbx) rfl ⟨ao2, n2, c2, rfl, Row.set hv hbx (by decide) _, ?_⟩
      exact (hw.below.trans (hbl.mono hw.below.size)).setCell (by show w.heap.size ≤ w.heap.size + 1; omega) _

structure PartedAt (w wr : World) (g n : Nat) (la r : List Nat) (b k c : Nat) : Prop where
  wr : Wr w wr g n n r
  sum : Limb.val B32 (r.drop k) * b + c = Limb.val B32 (la.drop k)

theorem PartedAt.step {w wr : World} {g n : Nat} {la r : List Nat} {b k c d t : Nat} (h : PartedAt w wr g n la r b (k + 1) c) (hk : k < n) (hn : n = la.length) (hd : la.getD k 0 = d) (ht : c * 4294967296 + d = t) (hq : t / b < B32) :
    PartedAt w (wr.setCell ⟨g, k, none⟩ (.int .u32 ((t / b : Nat) : Int))) g n la (r.set k (t / b)) b k (t % b) := by
  have hl := h.wr.len
  refine ⟨h.wr.set k _ hq, ?_⟩
  rw [Limb.val_drop_set (by omega), Limb.val_drop (l := la) (by omega), hd, Nat.add_mul]
  have := h.sum
  have e1 : t / b * b + t % b = t := by rw [Nat.mul_comm]; exact Nat.div_add_mod t b
  have e2 : B32 * Limb.val B32 (r.drop (k + 1)) * b + B32 * c = B32 * Limb.val B32 (la.drop (k + 1)) := by rw [← this, Nat.mul_add, Nat.mul_assoc]
  unfold B32 at *
  omega

def RetParted (w : World) (x b : Nat) (e : Ending) (w' : World) : Prop :=
  ∃ ao n c, e = .returned (.tuple #[.agg #[.slice ao n c], .int .u32 ((x % b : Nat) : Int)]) ∧ Nt w' (.slice ao n c) (x / b) ∧ Below w.heap.size w w'

set_option maxHeartbeats 1000000 in
theorem nat_parted (ao : Option Addr) (na ca x b : Nat) (w : World) (ha : Nt w (.slice ao na ca) x) (hx : Limb.nl B32 x ≤ 1000000000000) (hb : b < 4294967296) (hb0 : 0 < b) :
    Calls Tryz.prog 58 #[.agg #[.slice ao na ca], .int .u32 (b : Int)] w (RetParted w x b) := by
  obtain ⟨ena, hca, hcm⟩ := Row.get ha
  have na1 : na ≤ 1000000000000 := by unfold Limb.nl at hx; omega
  have HNA := Lib.hid ena
  clear ena hcm hca
  go_enter Tryz.func58, Tryz.ntmps58
  go_wp2_with (at_make; refine make_u32 (w := w) rfl _ _ rfl na rfl rfl (by omega) (by omega) (by omega) (((Below.refl _ _).alloc (Nat.le_refl _) _).alloc (by simp) _) ?_; intro w1 HW hgrow; have hb2 := grown_box hgrow (b := w.heap.size) (at_old (at_new rfl)) (by simp); have hb3 := grown_box hgrow (b := w.heap.size + 1) (at_new (by simp)) (by simp); have hc2 := box_cell (j := 0) hb2 rfl; clear hgrow)
  go_loopw [7, 8] (fun s7 s8 wr => ∃ (k c : Nat) (r : List Nat), k ≤ na ∧ c < b ∧ s7 = .int .u64 c ∧ s8 = .int .i64 ((k : Int) - 1) ∧ Hid (PartedAt w wr (w.heap.size + 1 + 1) na (Limb.limbs B32 x) r b k c) ∧
        wr.heap[w.heap.size]? = some (.cells #[.slice ao na ca] 66 (0, 0)) ∧ wr.heap[w.heap.size + 1]? = some (.cells #[.slice none 0 0] 66 (0, 0)))
      (fun _ s8 _ => (intOf s8 + 1).toNat)
  case atStart => exact ⟨na, 0, _, Nat.le_refl _, hb0, rfl, rfl, ⟨by simpa using HW.out, by rw [List.drop_of_length_le (by simp), List.drop_of_length_le (by rw [HNA.out]; exact Nat.le_refl _)]; simp [Limb.val]⟩, hb2, hb3⟩
  case round =>
    obtain ⟨k, c, r, hk, hc, rfl, rfl, HR, hb2, hb3⟩ := hrel
    have hc2 := box_cell (j := 0) hb2 rfl
    by_cases h0 : 0 < k
    · obtain ⟨q, rfl⟩ : ∃ q, k = q + 1 := ⟨k - 1, by omega⟩
      have hcr := HR.out.wr.cell q (by omega)
      have hfr := HR.out.wr.free q
      obtain ⟨ga, rfl, hga, hca⟩ := Row.at ha (k := q) (by omega)
      have hca1 := (HR.out.wr.below.cell hga).trans hca
      have hda := Limb.getD_lt B32two (Limb.limbs_lt B32two x) q
      clear hca
      generalize hA : (Limb.limbs B32 x).getD q 0 = d at *
      generalize hR : r.getD q 0 = old at *
      have HA := Lib.hid hA
      clear hA hR
      unfold B32 at hda
      have hq3 : ((q + 1 : Nat) : Int) - 1 = (q : Int) := by omega
      rw [hq3] at *
      obtain ⟨t, ht⟩ : ∃ t, c * 4294967296 + d = t := ⟨_, rfl⟩
      have hor : bits BinOp.or IntKind.u64 ((c : Int) * 4294967296) (d : Int) = (t : Int) := by rw [or32 c d (by omega) hda, ht]
      have htb : t < 4294967296 * b := by
        have : (c + 1) * 4294967296 ≤ b * 4294967296 := Nat.mul_le_mul_right _ hc
        omega
      obtain ⟨z, hz⟩ : ∃ z, t / b = z := ⟨_, rfl⟩
      obtain ⟨y, hy⟩ : ∃ y, t % b = y := ⟨_, rfl⟩
      have hzb : z < 4294967296 := by rw [← hz]; exact (Nat.div_lt_iff_lt_mul hb0).2 htb
      have hyb : y < b := by rw [← hy]; exact Nat.mod_lt _ hb0
      have hdiv : (t : Int) / (b : Int) = (z : Int) := by rw [← hz]; simp
      have hmod : (t : Int) % (b : Int) = (y : Int) := by rw [← hy]; simp
      have st := HR.out.step (by omega) HNA.out HA.out ht (by rw [hz]; exact hzb)
      rw [hz, hy] at st
      have HT := Lib.hid ht
      have ST := Lib.hid st
      clear hz hy ht st htb
      go_wp2
      go_roundw
      case rel => exact ⟨q, y, _, by omega, hyb, by first | rfl | rw [hmod], by first | rfl | go_num, by first | exact ST.out | (rw [hdiv]; exact ST.out), box_far _ hb2 (by simp <;> omega), box_far _ hb3 (by simp <;> omega)⟩
      case measure => simp [intOf]
    · obtain rfl : k = 0 := by omega
      have hmod : c = x % b ∧ Limb.val B32 r = x / b := by
        have h1 := HR.out.sum
        simp only [List.drop_zero] at h1
        rw [Limb.val_limbs B32two] at h1
        have h2 : x / b = Limb.val B32 r := by
          rw [← h1, Nat.add_comm, Nat.add_mul_div_right _ _ hb0, Nat.div_eq_of_lt hc]; omega
        have h3 : x % b = c := by
          rw [← h1, Nat.add_comm, Nat.add_mul_mod_self_right, Nat.mod_eq_of_lt hc]
        exact ⟨h3.symm, h2.symm⟩
      obtain ⟨hcx, hval⟩ := hmod
      have HC := Lib.hid hcx
      clear hcx
      have hcb : c < 4294967296 := by omega
      go_wp2_with fail
      refine (trimmed_any _ _ (x / b) _ HR.out.wr.row HR.out.wr.lt hval (by rw [HR.out.wr.len]; omega)).mono ?_
      rintro e w2 ⟨ao2, n2, c2, rfl, hv, hbl⟩
      have hbx := below_box hbl hb3
      have hce := box_cell (j := 0) hbx rfl
      have hfr := box_free (j := 0) hbx
      go_wp2
      refine post_box1 Tryz.results58 rfl rfl aggNat sizeNat rfl (box_set (j := 0) (.slice ao2 n2 c2) hbx) rfl ⟨ao2, n2, c2, ?_, Row.set hv hbx (by decide) _, ?_⟩
      · rw [← HC.out]; rfl
      · exact (HR.out.wr.below.trans (hbl.mono HR.out.wr.below.size)).setCell (by show w.heap.size ≤ w.heap.size + 1; omega) _
end Go.Proofs.YtgpkbembdflnmaaGreatDoor
