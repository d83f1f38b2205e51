/- Walks: nat.Add. -/
import Derived.Test.YtgpkbembdflnmaaGreatDoorNatA
namespace Go.Proofs.YtgpkbembdflnmaaGreatDoor
open Go.RowKit

/-- The two numbers of a sum, the longer one first. -/
structure Pair (w : World) (x y : Nat) (ao bo : Option Addr) (na nb ca cb : Nat) (la lb : List Nat) : Prop where
  ra : Row w (.slice ao na ca) la
  rb : Row w (.slice bo nb cb) lb
  ea : na = la.length
  eb : nb = lb.length
  le : nb ≤ na
  da : ∀ d ∈ la, d < B32
  db : ∀ d ∈ lb, d < B32
  sum : Limb.val B32 la + Limb.val B32 lb = x + y

/-- What a sum has become behind k limbs: r is the row that is written, c what is carried. -/
structure SumAt (w wr : World) (g na : Nat) (la lb r : List Nat) (k c : Nat) : Prop where
  own : wr.ownsRow g 95 1 (.slice (some ⟨g, 0, none⟩) (na + 1) (na + 1)) (na + 1) (u32s r)
  len : r.length = na + 1
  lt : ∀ d ∈ r, d < B32
  sum : Limb.val B32 (r.take k) + B32 ^ k * c = Limb.val B32 (la.take k) + Limb.val B32 (lb.take k)
  below : Below w.heap.size w wr

theorem SumAt.step {w wr : World} {g na : Nat} {la lb r : List Nat} {k c d e t : Nat} (h : SumAt w wr g na la lb r k c) (hk : k < na) (hg : w.heap.size ≤ g)
    (hd : la.getD k 0 = d) (he : lb.getD k 0 = e) (ht : c + d + e = t) : SumAt w (wr.setCell ⟨g, k, none⟩ (.int .u32 ((t % B32 : Nat) : Int))) g na la lb (r.set k (t % B32)) (k + 1) (t / B32) := by
  have hl := h.len
  refine ⟨?_, by simp [hl], ?_, ?_, h.below.setCell hg _⟩
  · have := (h.own.stored k (.int .u32 ((t % B32 : Nat) : Int))).1
    simpa [u32s, List.map_set] using this
  · intro q hq
    rcases List.mem_or_eq_of_mem_set hq with hq | rfl
    · exact h.lt q hq
    · exact Nat.mod_lt _ (by decide)
  · rw [Limb.val_take_set _ _ _ _ (by omega), Limb.val_take_next, Limb.val_take_next, hd, he]
    have := h.sum
    have e1 : B32 ^ (k + 1) * (t / B32) + B32 ^ k * (t % B32) = B32 ^ k * t := by
      rw [Nat.pow_succ, Nat.mul_assoc, ← Nat.mul_add, Nat.div_add_mod]
    have e2 : B32 ^ k * t = B32 ^ k * c + B32 ^ k * d + B32 ^ k * e := by rw [← ht, Nat.mul_add, Nat.mul_add]
    omega

theorem SumAt.last {w wr : World} {g na : Nat} {la lb r : List Nat} {c : Nat} (h : SumAt w wr g na la lb r na c) (hg : w.heap.size ≤ g) (hc : c < B32) (hla : la.length ≤ na) (hlb : lb.length ≤ na) :
    Row (wr.setCell ⟨g, na, none⟩ (.int .u32 (c : Int))) (.slice (some ⟨g, 0, none⟩) (na + 1) (na + 1)) (r.set na c) ∧ Limb.val B32 (r.set na c) = Limb.val B32 la + Limb.val B32 lb ∧ (∀ d ∈ r.set na c, d < B32) ∧
      (r.set na c).length = na + 1 ∧ Below w.heap.size w (wr.setCell ⟨g, na, none⟩ (.int .u32 (c : Int))) := by
  have hl := h.len
  refine ⟨?_, ?_, ?_, by simp [hl], h.below.setCell hg _⟩
  · have := (h.own.stored na (.int .u32 (c : Int))).1
    have e : u32s (r.set na c) = (u32s r).set na (.int .u32 (c : Int)) := by simp [u32s, List.map_set]
    have e2 : (r.set na c).length = na + 1 := by simp [hl]
    unfold Row
    rw [e, e2]
    exact ⟨this.1, this.2.imp id (fun ⟨g, cap, cur, a1, _, a3⟩ => ⟨g, cap, cur, a1, Nat.zero_le _, a3⟩)⟩
  · have e := Limb.val_take_set B32 r na c (by omega)
    rw [List.take_of_length_le (by simp [hl])] at e
    have := h.sum
    rw [List.take_of_length_le hla, List.take_of_length_le hlb] at this
    omega
  · intro q hq
    rcases List.mem_or_eq_of_mem_set hq with hq | rfl
    · exact h.lt q hq
    · exact hc

theorem row_cell {wr : World} {g n : Nat} {r : List Nat} (h : wr.ownsRow g 95 1 (.slice (some ⟨g, 0, none⟩) n n) n (u32s r)) (hl : r.length = n) (k : Nat) (hk : k < n) :
    wr.cell? ⟨g, k, none⟩ = some (.int .u32 ((r.getD k 0 : Nat) : Int)) := by
  rw [h.cellAt k (by omega)]
  simp [u32s, List.getD, show k < r.length by omega]

set_option maxHeartbeats 1000000 in
theorem nat_Add (ao bo : Option Addr) (na nb ca cb x y : Nat) (w : World) (ha : Nt w (.slice ao na ca) x) (hb : Nt w (.slice bo nb cb) y)
    (hx : Limb.nl B32 x ≤ 1000000000000) (hy : Limb.nl B32 y ≤ 1000000000000) :
    Calls Tryz.prog 42 #[.agg #[.slice ao na ca], .agg #[.slice bo nb cb]] w (RetNt w (x + y)) := by
  obtain ⟨_, _, e1, la1, la2, la3⟩ := Row.form ha
  obtain ⟨_, _, e2, lb1, lb2, lb3⟩ := Row.form hb
  simp only [Value.slice.injEq] at e1 e2
  obtain ⟨rfl, ena, rfl⟩ := e1
  obtain ⟨rfl, enb, rfl⟩ := e2
  have HNA := Lib.hid ena
  have HNB := Lib.hid enb
  have na1 : na ≤ 1000000000000 := by unfold Limb.nl at hx; omega
  have nb1 : nb ≤ 1000000000000 := by unfold Limb.nl at hy; omega
  clear ena enb la1 la2 la3 lb1 lb2 lb3
  go_enter Tryz.func42, Tryz.ntmps42
  go_upto_if 15 with fail
  go_cut [] (fun wx => ∃ ao bo na nb ca cb la lb, Hid (Pair w x y ao bo na nb ca cb la lb) ∧ na ≤ 1000000000000 ∧ wx = ((w.alloc (.cells #[.slice ao na ca] 66)).alloc (.cells #[.slice bo nb cb] 66)).alloc (.cells #[.slice none 0 0] 66))
  case first =>
    go_wp2_with fail
    · have hlt : na < nb := by assumption
      go_meet
      refine ⟨bo, ao, nb, na, cb, ca, _, _, (⟨hb, ha, HNB.out, HNA.out, Nat.le_of_lt hlt, Limb.limbs_lt (by decide) _, Limb.limbs_lt (by decide) _, ?_⟩ : Pair w x y _ _ _ _ _ _ _ _), nb1, ?_⟩
      · rw [Limb.val_limbs (by decide), Limb.val_limbs (by decide)]; omega
      · rfl
    · have hge : ¬ na < nb := by assumption
      have hge := Nat.le_of_not_lt hge
      go_meet
      refine ⟨ao, bo, na, nb, ca, cb, _, _, (⟨ha, hb, HNA.out, HNB.out, hge, Limb.limbs_lt (by decide) _, Limb.limbs_lt (by decide) _, ?_⟩ : Pair w x y _ _ _ _ _ _ _ _), na1, rfl⟩
      · rw [Limb.val_limbs (by decide), Limb.val_limbs (by decide)]
  case rest =>
    obtain ⟨ao, bo, na, nb, ca, cb, la, lb, HP, hna, rfl⟩ := hcut
    obtain ⟨i0, hi, hz0, hz1, hz2⟩ := info_parts u32info
    have hH := Lib.hid hi
    go_wp2_with (at_make; refine wpList_make_full _ rfl _ _ 64 rfl (w.heap.size + 3) 95 i0 (.int .u32 0) 1 Tryz.underlying64 hi hz0 hz1 _ _ _ _ (na + 1) rfl rfl (by omega) (by omega) (by rw [hz2]; omega) (by unfold maxLen; omega) (by simp) ?_; intro w1 hown hgrow; have hb2 := grown_box hgrow (b := w.heap.size) (at_old (at_old (at_new rfl))) (by simp); have hb3 := grown_box hgrow (b := w.heap.size + 1) (at_old (at_new (by simp))) (by simp); have hb4 := grown_box hgrow (b := w.heap.size + 2) (at_new (by simp)) (by simp); have hc2 := box_cell (j := 0) hb2 rfl; have hc3 := box_cell (j := 0) hb3 rfl; have HO := Lib.hid hown; clear hown; have HG := Lib.hid hgrow; clear hgrow)
    have hsu : SumAt w w1 (w.heap.size + 1 + 1 + 1) na la lb (List.replicate (na + 1) 0) 0 0 := by
      have ho := HO.out
      simp at ho
      refine ⟨?_, by simp, by simp [B32], by simp [Limb.val], ?_⟩
      · have e : (madeCells (Value.int IntKind.u32 0).cells (na + 1)).toList = List.replicate (na + 1) (Value.int IntKind.u32 0) := toList_madeCells_one _ _
        rw [e] at ho
        simpa [u32s] using ho
      · exact ((((Below.refl _ _).alloc (Nat.le_refl _) _).alloc (by simp) _).alloc (by simp; omega) _).grown HG.out (by simp; omega) (by simp)
    have HS := Lib.hid hsu
    clear hsu HO HG
    go_loopw [6, 26] (fun s6 s26 wr => ∃ (k c : Nat) (r : List Nat), k ≤ na ∧ c ≤ 1 ∧ s6 = .int .u64 c ∧ s26 = .int .i64 k ∧ Hid (SumAt w wr (w.heap.size + 1 + 1 + 1) na la lb r k c) ∧
        wr.heap[w.heap.size]? = some (.cells #[.slice ao na ca] 66 (0, 0)) ∧ wr.heap[w.heap.size + 1]? = some (.cells #[.slice bo nb cb] 66 (0, 0)) ∧ wr.heap[w.heap.size + 2]? = some (.cells #[.slice none 0 0] 66 (0, 0)))
      (fun _ s26 _ => na - (intOf s26).toNat)
    case atStart => exact ⟨0, 0, _, Nat.zero_le _, Nat.zero_le _, rfl, rfl, HS, hb2, hb3, hb4⟩
    case round =>
      obtain ⟨k, c, r, hk, hc, rfl, rfl, HR, hb2, hb3, hb4⟩ := hrel
      have hc2 := box_cell (j := 0) hb2 rfl
      have hc3 := box_cell (j := 0) hb3 rfl
      by_cases hlt : k < na
      · have hcr := row_cell HR.out.own HR.out.len k (by omega)
        have hfr := HR.out.own.frozenAt k
        have ha := (Row.form HP.out.ra)
        obtain ⟨_, _, e1, _, _, ha⟩ := ha
        obtain ⟨ga, ega, hga, hca⟩ := ha k (by rw [← HP.out.ea]; exact hlt)
        simp only [Value.slice.injEq] at e1
        obtain ⟨rfl, -, -⟩ := e1
        subst ega
        have hca1 : wr.cell? ⟨ga, k, none⟩ = some (.int .u32 ((la.getD k 0 : Nat) : Int)) := (HR.out.below.cell hga).trans hca
        have hda := Limb.getD_lt (by decide) HP.out.da k
        have hdb := Limb.getD_lt (by decide) HP.out.db k
        unfold B32 at hda hdb
        clear hca ha
        generalize hA : la.getD k 0 = d at *
        generalize hR : r.getD k 0 = q at *
        have HA := Lib.hid hA
        have HQ := Lib.hid hR
        clear hA hR
        by_cases hlb : k < nb
        · have hb := (Row.form HP.out.rb)
          obtain ⟨_, _, e1, _, _, hb⟩ := hb
          obtain ⟨gb, egb, hgb, hcb⟩ := hb k (by rw [← HP.out.eb]; exact hlb)
          simp only [Value.slice.injEq] at e1
          obtain ⟨rfl, -, -⟩ := e1
          subst egb
          have hcb1 : wr.cell? ⟨gb, k, none⟩ = some (.int .u32 ((lb.getD k 0 : Nat) : Int)) := (HR.out.below.cell hgb).trans hcb
          clear hcb hb
          generalize hB : lb.getD k 0 = e at *
          have HB := Lib.hid hB
          clear hB
          go_wp2
          go_roundw
          case rel =>
            have st := HR.out.step hlt (by omega) HA.out HB.out (t := c + d + e) rfl
            rw [show ((c : Int) + d + e) % 4294967296 = (((c + d + e) % B32 : Nat) : Int) by unfold B32; omega]
            exact ⟨k + 1, (c + d + e) / B32, _, by omega, by unfold B32; omega, by unfold B32; go_num, by go_num, st, box_far _ hb2 (by simp <;> omega), box_far _ hb3 (by simp <;> omega), box_far _ hb4 (by simp <;> omega)⟩
          case measure => simp [intOf]; omega
        · have hb0 : lb.getD k 0 = 0 := by
            have := HP.out.eb
            simp [List.getD, show lb.length ≤ k by omega]
          have HB := Lib.hid hb0
          clear hb0
          go_wp2
          go_roundw
          case rel =>
            have st := HR.out.step hlt (by omega) HA.out HB.out (t := c + d) rfl
            rw [show ((c : Int) + d) % 4294967296 = (((c + d) % B32 : Nat) : Int) by unfold B32; omega]
            exact ⟨k + 1, (c + d) / B32, _, by omega, by unfold B32; omega, by unfold B32; go_num, by go_num, st, box_far _ hb2 (by simp <;> omega), box_far _ hb3 (by simp <;> omega), box_far _ hb4 (by simp <;> omega)⟩
          case measure => simp [intOf]; omega
      · obtain rfl : k = na := by omega
        have hcr := row_cell HR.out.own HR.out.len k (by omega)
        have hfr := HR.out.own.frozenAt k
        generalize hR : r.getD k 0 = q at *
        have HQ := Lib.hid hR
        clear hR
        go_wp2_with fail
        obtain ⟨hrow, hval, hlt2, hlen, hbel⟩ := HR.out.last (by omega) (by unfold B32; omega) (by rw [← HP.out.ea]; omega) (by rw [← HP.out.eb]; exact HP.out.le)
        refine (trimmed_any _ _ (x + y) _ hrow hlt2 (by rw [hval]; exact HP.out.sum) (by rw [hlen]; omega)).mono ?_
        rintro e w2 ⟨ao2, n2, c2, rfl, hv, hbl⟩
        have hbx : w2.heap[w.heap.size + 2]? = some (.cells #[.slice none 0 0] 66 (0, 0)) := below_box hbl (box_far _ hb4 (by simp <;> omega))
        have hce := box_cell (j := 0) hbx rfl
        have hfr := box_free (j := 0) hbx
        go_wp2
        refine post_box Tryz.results42 rfl aggNat sizeNat rfl (box_set (j := 0) (.slice ao2 n2 c2) hbx) rfl ⟨ao2, n2, c2, rfl, Row.set hv hbx (by decide) _, ?_⟩
        exact (hbel.trans (hbl.mono (by have := hbel.size; omega))).setCell (by show w.heap.size ≤ w.heap.size + 2; omega) _
end Go.Proofs.YtgpkbembdflnmaaGreatDoor
