/- Walk: the reference's Text (layer 1). -/
import Derived.Test.YtgpkbembdflnmaaGreatDoorRefC
namespace Go.Proofs.YtgpkbembdflnmaaGreatDoor
open Go.RowKit
open Go.Lib (decDigits)

theorem dig_nat (m : Nat) (h : m < 10) : (48 : Int) + (m : Int) = ((Dec.dig m).toNat : Int) := by
  unfold Dec.dig
  rw [UInt8.toNat_ofNat']
  omega

theorem TextR.fin {x a d k : Nat} {l : List UInt8} (h : TextR x a l) (hne : a ≠ 0) (had : a = d) (hM : 0 = d / 10 ^ k) (hP : k = 0 ∨ d / 10 ^ (k - 1) ≠ 0) : TextR x 0 (l ++ low k d) := by
  subst had
  cases k with
  | zero => simp at hM; omega
  | succ k =>
    have hp1 : 0 < 10 ^ (k + 1) := Nat.pow_pos (by omega)
    have hp2 : 0 < 10 ^ k := Nat.pow_pos (by omega)
    refine h.last ?_ ?_
    · rcases Nat.lt_or_ge a (10 ^ (k + 1)) with h1 | h1
      · exact h1
      · have := Nat.div_pos h1 hp1; omega
    · rcases Nat.lt_or_ge a (10 ^ k) with h1 | h1
      · rcases hP with h2 | h2
        · omega
        · exact absurd (Nat.div_eq_of_lt h1) h2
      · exact h1

set_option maxRecDepth 100000 in
set_option maxHeartbeats 4000000 in
theorem ref01_Text (ao : Option Addr) (n c x : Nat) (w : World) (h : RNt w (.slice ao n c) x) (hn : Limb.nl B9 x ≤ 100000000000) :
    Calls Tryz.prog 30 #[.agg #[.slice ao n c]] w fun e w' => e = .returned (str (decDigits x)) ∧ Below w.heap.size w w' := by
  obtain ⟨ena, hnc, hcm⟩ := RRow.get h
  have hn2 : n ≤ 100000000000 := by unfold Limb.nl at hn; omega
  have HNA := Lib.hid ena
  have HH := Lib.hid h
  clear ena h hn
  by_cases hx : x = 0
  · have hn0 : n = 0 := by rw [HNA.out, hx, Limb.limbs_zero]; rfl
    subst hn0
    have hd : decDigits x = [48] := by rw [hx, Dec.dec_lt (by omega)]; rfl
    rw [hd]
    clear hx hd HNA HH
    go_enter Tryz.func30, Tryz.ntmps30
    go_wp2_with fail
    go_ret
    exact ⟨rfl, (Below.refl _ _).alloc (Nat.le_refl _) _⟩
  · have hn0 : ¬ n = 0 := by
      rw [HNA.out]; intro e; exact hx ((Limb.limbs_nil B9two).1 (List.length_eq_zero_iff.1 e))
    have hz10 : ((n : Int) == 0) = false := by simp; omega
    go_enter Tryz.func30, Tryz.ntmps30
    go_wp2_with fail
    clear hz10
    go_loopw [3, 4] (fun s3 s4 wr => ∃ (i a : Nat) (l : List UInt8), s4 = .int .i64 (i : Int) ∧ i ≤ n ∧ Hid ((Limb.limbs B9 x).drop i = Limb.limbs B9 a) ∧ Hid (TextR x a l) ∧ l.length ≤ 9 * i ∧ Hid (BRow wr (w.heap.size + 1) s3 l) ∧ wr.heap[w.heap.size]? = some (.cells #[.slice ao n c] 29 (0, 0)) ∧ Below w.heap.size w wr) (fun _ s4 _ => n - (intOf s4).toNat)
    case atStart =>
      refine ⟨0, x, [], rfl, Nat.zero_le _, rfl, ?_, Nat.zero_le _, ?_, at_old (at_new rfl), ((Below.refl _ _).alloc (Nat.le_refl _) _).alloc (by simp) _⟩
      · show decDigits x = _
        rw [if_neg hx]; simp
      · have := World.ownsRow_lit (base := w.heap.size + 1) (e := 5) (size := 1) (w.alloc (Obj.cells #[Value.slice ao n c] 29)) #[] 0 (by simp) (by simp [maxLen]) rfl
        exact Lib.hid (by simpa [BRow, u8s] using this)
    case round =>
      obtain ⟨i, a, l, rfl, hi, HD, HT, hll, HB, hbx, hbel⟩ := hrel
      have hb0 := box_cell (j := 0) hbx rfl
      have hb0f := (Array.getElem?_eq_some_iff.1 hbx).1
      by_cases hlt : i < n
      · have hne : a ≠ 0 := by
          intro e
          have h1 := congrArg List.length HD.out
          rw [e, Limb.limbs_zero, List.length_drop, ← HNA.out] at h1
          simp at h1; omega
        have hla := Limb.limbs_pos B9two hne
        have hdrop : (Limb.limbs B9 x).drop (i + 1) = Limb.limbs B9 (a / B9) := by
          rw [← List.tail_drop, HD.out, hla]; rfl
        have hdi : (Limb.limbs B9 x).getD i 0 = a % B9 := by
          have h1 := congrArg (fun l => l.getD 0 0) HD.out
          simp only [hla] at h1
          simpa [List.getD] using h1
        have hnq : i + 1 < n ↔ a / B9 ≠ 0 := by
          have h1 := congrArg List.length hdrop
          rw [List.length_drop, ← HNA.out] at h1
          constructor
          · intro h2 e; rw [e, Limb.limbs_zero] at h1; simp at h1; omega
          · intro h2
            have h3 : (Limb.limbs B9 (a / B9)).length ≠ 0 := fun e => h2 ((Limb.limbs_nil B9two).1 (List.length_eq_zero_iff.1 e))
            omega
        obtain ⟨g, rfl, hg, hcell⟩ := HH.out.at hlt
        rw [hdi] at hcell
        have hcl : wr.cell? ⟨g, i, none⟩ = some (.int .i64 ((a % B9 : Nat) : Int)) := by rw [(bcell hbel).1 _ _ hg]; exact hcell
        have hdlt : a % B9 < 1000000000 := Nat.mod_lt _ (by decide)
        have HDR := Lib.hid hdrop
        have HNQ := Lib.hid hnq
        clear hla hdrop hdi hcell HD hnq
        obtain ⟨d, hd⟩ : ∃ d, a % B9 = d := ⟨_, rfl⟩
        rw [hd] at hcl hdlt
        have HDD := Lib.hid hd
        clear hd
        by_cases hq : a / B9 = 0
        · have hni : ¬ i + 1 < n := fun h2 => HNQ.out.1 h2 hq
          have had : a = d := by
            have h1 := Nat.div_add_mod a B9
            rw [hq, HDD.out] at h1; omega
          have HAD := Lib.hid had
          have HQ := Lib.hid hq
          clear hq had HNQ
          go_wp2_with fail
          go_loopw [3, 5, 6] (fun s3 s5 s6 wy => ∃ (k m : Nat), s6 = .int .i64 (k : Int) ∧ k ≤ 9 ∧ s5 = .int .i64 (m : Int) ∧ m ≤ d ∧ Hid (m = d / 10 ^ k) ∧ Hid (k = 0 ∨ d / 10 ^ (k - 1) ≠ 0) ∧ Hid (BRow wy (w.heap.size + 1) s3 (l ++ low k d)) ∧ wy.heap[w.heap.size]? = some (.cells #[.slice (some ⟨g, 0, none⟩) n c] 29 (0, 0)) ∧ Below w.heap.size w wy) (fun _ _ s6 _ => 9 - (intOf s6).toNat)
          case atStart => exact ⟨0, d, rfl, by omega, rfl, Nat.le_refl _, by show d = d / 10 ^ 0; simp, Or.inl rfl, by rw [show low 0 d = [] from rfl, List.append_nil]; exact HB, hbx, hbel⟩
          case round =>
            obtain ⟨k, m, rfl, hk, rfl, hmd, HM, HP, HY, hby, hbely⟩ := hrel
            have hc0 := box_cell (j := 0) hby rfl
            have hf0 := (Array.getElem?_eq_some_iff.1 hby).1
            have hlk : (l ++ low k d).length ≤ 9 * i + 9 := by rw [List.length_append, low_length]; omega
            by_cases hm : 0 < m
            · have hk9 : k < 9 := by
                rcases Nat.lt_or_ge k 9 with h1 | h1
                · exact h1
                · exfalso
                  have h2 : k = 9 := by omega
                  have h3 := HM.out
                  rw [h2, Nat.div_eq_of_lt (by simpa using hdlt)] at h3
                  omega
              obtain ⟨C, hC⟩ : ∃ C, Dec.dig (m % 10) = C := ⟨_, rfl⟩
              have hdig := dig_nat (m % 10) (Nat.mod_lt _ (by decide))
              rw [hC] at hdig
              have hdig2 : (48 : Int) + (m : Int) % 10 = (C.toNat : Int) := by rw [← hdig]; simp
              have hCl : C.toNat < 256 := UInt8.toNat_lt C
              have hlow : (l ++ low k d) ++ [C] = l ++ low (k + 1) d := by rw [← hC, HM.out]; simp [low]
              have HLOW := Lib.hid hlow
              have hm2 : m / 10 = d / 10 ^ (k + 1) := by rw [HM.out, Nat.div_div_eq_div_mul, Nat.pow_succ]
              have HM2 := Lib.hid hm2
              have HPN : Hid (k + 1 = 0 ∨ d / 10 ^ (k + 1 - 1) ≠ 0) := Or.inr (by rw [Nat.add_sub_cancel, ← HM.out]; omega)
              clear hlow hm2 hdig hC
              go_wp2_with (at_builtin; refine append_byte rfl _ _ rfl (w.heap.size + 1) u3 (l ++ low k d) C rfl rfl HY.out (by omega) hf0 ?_; intro v' w4 hs4 hg4; have HS4 := Lib.hid hs4; have HG4 := Lib.hid hg4; clear hs4 hg4)
              all_goals
                rw [HLOW.out] at HS4
                have hbel4 : Below w.heap.size w w4 := (hbely.alloc hbely.size (Obj.cells #[.int .u8 (C.toNat : Int)] 5)).grown HG4.out (by have := hbely.size; simp; omega) (fun j e => by have := (HY.out.lt j e).1; omega)
                have hb4 := grown_box HG4.out (at_old (o := Obj.cells #[.int .u8 (C.toNat : Int)] 5) hby) (fun e => by have := (HY.out.lt _ e.symm).1; omega)
                exact ⟨⟨k + 1, m / 10, by go_num, by omega, by rw [Int.natCast_ediv]; rfl, by omega, HM2, HPN, HS4, hb4, hbel4⟩, by simp [intOf]; omega⟩
            · have hm0 : m = 0 := by omega
              subst hm0
              by_cases hk9 : k < 9
              · go_wp2_with fail
                exact ⟨⟨i + 1, 0, l ++ low k d, by go_num, by omega, Lib.hid (by rw [HDR.out, HQ.out]), HT.out.fin hne HAD.out HM.out HP.out, by omega, HY, hby, hbely⟩, by simp [intOf]; omega⟩
              · go_wp2_with fail
                exact ⟨⟨i + 1, 0, l ++ low k d, by go_num, by omega, Lib.hid (by rw [HDR.out, HQ.out]), HT.out.fin hne HAD.out HM.out HP.out, by omega, HY, hby, hbely⟩, by simp [intOf]; omega⟩
        · have hni : i + 1 < n := HNQ.out.2 hq
          have HQ := Lib.hid hq
          clear hq HNQ
          go_wp2_with fail
          go_loopw [3, 5, 6] (fun s3 s5 s6 wy => ∃ (k m : Nat), s6 = .int .i64 (k : Int) ∧ k ≤ 9 ∧ s5 = .int .i64 (m : Int) ∧ m ≤ d ∧ Hid (m = d / 10 ^ k) ∧ Hid (True) ∧ Hid (BRow wy (w.heap.size + 1) s3 (l ++ low k d)) ∧ wy.heap[w.heap.size]? = some (.cells #[.slice (some ⟨g, 0, none⟩) n c] 29 (0, 0)) ∧ Below w.heap.size w wy) (fun _ _ s6 _ => 9 - (intOf s6).toNat)
          case atStart => exact ⟨0, d, rfl, by omega, rfl, Nat.le_refl _, by show d = d / 10 ^ 0; simp, trivial, by rw [show low 0 d = [] from rfl, List.append_nil]; exact HB, hbx, hbel⟩
          case round =>
            obtain ⟨k, m, rfl, hk, rfl, hmd, HM, HP, HY, hby, hbely⟩ := hrel
            have hc0 := box_cell (j := 0) hby rfl
            have hf0 := (Array.getElem?_eq_some_iff.1 hby).1
            have hlk : (l ++ low k d).length ≤ 9 * i + 9 := by rw [List.length_append, low_length]; omega
            by_cases hk9 : k < 9
            · by_cases hm : 0 < m
              · obtain ⟨C, hC⟩ : ∃ C, Dec.dig (m % 10) = C := ⟨_, rfl⟩
                have hdig := dig_nat (m % 10) (Nat.mod_lt _ (by decide))
                rw [hC] at hdig
                have hdig2 : (48 : Int) + (m : Int) % 10 = (C.toNat : Int) := by rw [← hdig]; simp
                have hCl : C.toNat < 256 := UInt8.toNat_lt C
                have hlow : (l ++ low k d) ++ [C] = l ++ low (k + 1) d := by rw [← hC, HM.out]; simp [low]
                have HLOW := Lib.hid hlow
                have hm2 : m / 10 = d / 10 ^ (k + 1) := by rw [HM.out, Nat.div_div_eq_div_mul, Nat.pow_succ]
                have HM2 := Lib.hid hm2
                have HPN : Hid (True) := trivial
                clear hlow hm2 hdig hC
                go_wp2_with (at_builtin; refine append_byte rfl _ _ rfl (w.heap.size + 1) u3 (l ++ low k d) C rfl rfl HY.out (by omega) hf0 ?_; intro v' w4 hs4 hg4; have HS4 := Lib.hid hs4; have HG4 := Lib.hid hg4; clear hs4 hg4)
                all_goals
                  rw [HLOW.out] at HS4
                  have hbel4 : Below w.heap.size w w4 := (hbely.alloc hbely.size (Obj.cells #[.int .u8 (C.toNat : Int)] 5)).grown HG4.out (by have := hbely.size; simp; omega) (fun j e => by have := (HY.out.lt j e).1; omega)
                  have hb4 := grown_box HG4.out (at_old (o := Obj.cells #[.int .u8 (C.toNat : Int)] 5) hby) (fun e => by have := (HY.out.lt _ e.symm).1; omega)
                  exact ⟨⟨k + 1, m / 10, by go_num, by omega, by rw [Int.natCast_ediv]; rfl, by omega, HM2, HPN, HS4, hb4, hbel4⟩, by simp [intOf]; omega⟩
              · obtain ⟨C, hC⟩ : ∃ C, Dec.dig (m % 10) = C := ⟨_, rfl⟩
                have hdig := dig_nat (m % 10) (Nat.mod_lt _ (by decide))
                rw [hC] at hdig
                have hdig2 : (48 : Int) + (m : Int) % 10 = (C.toNat : Int) := by rw [← hdig]; simp
                have hCl : C.toNat < 256 := UInt8.toNat_lt C
                have hlow : (l ++ low k d) ++ [C] = l ++ low (k + 1) d := by rw [← hC, HM.out]; simp [low]
                have HLOW := Lib.hid hlow
                have hm2 : m / 10 = d / 10 ^ (k + 1) := by rw [HM.out, Nat.div_div_eq_div_mul, Nat.pow_succ]
                have HM2 := Lib.hid hm2
                have HPN : Hid (True) := trivial
                clear hlow hm2 hdig hC
                go_wp2_with (at_builtin; refine append_byte rfl _ _ rfl (w.heap.size + 1) u3 (l ++ low k d) C rfl rfl HY.out (by omega) hf0 ?_; intro v' w4 hs4 hg4; have HS4 := Lib.hid hs4; have HG4 := Lib.hid hg4; clear hs4 hg4)
                all_goals
                  rw [HLOW.out] at HS4
                  have hbel4 : Below w.heap.size w w4 := (hbely.alloc hbely.size (Obj.cells #[.int .u8 (C.toNat : Int)] 5)).grown HG4.out (by have := hbely.size; simp; omega) (fun j e => by have := (HY.out.lt j e).1; omega)
                  have hb4 := grown_box HG4.out (at_old (o := Obj.cells #[.int .u8 (C.toNat : Int)] 5) hby) (fun e => by have := (HY.out.lt _ e.symm).1; omega)
                  exact ⟨⟨k + 1, m / 10, by go_num, by omega, by rw [Int.natCast_ediv]; rfl, by omega, HM2, HPN, HS4, hb4, hbel4⟩, by simp [intOf]; omega⟩
            · obtain rfl : k = 9 := by omega
              go_wp2_with fail
              exact ⟨⟨i + 1, a / B9, l ++ low 9 d, by go_num, by omega, HDR, Lib.hid (by rw [← HDD.out]; exact HT.out.more hne HQ.out), by omega, HY, hby, hbely⟩, by simp [intOf]; omega⟩
      · obtain rfl : i = n := by omega
        have ha : a = 0 := by
          have h1 := HD.out
          rw [List.drop_eq_nil_of_le (by rw [← HNA.out]; exact Nat.le_refl _)] at h1
          exact (Limb.limbs_nil B9two).1 h1.symm
        subst ha
        have hfin := HT.out.done
        have HFIN := Lib.hid hfin
        obtain ⟨bo, bc, rfl, hbcell⟩ := HB.out.form
        have HBC := Lib.hid hbcell
        clear hfin hbcell HT HD HH HNA
        generalize wr = wA at *
        go_wp2_with fail
        go_loopw [7, 8] (fun s7 s8 wr => ∃ j : Nat, s8 = .int .i64 ((j : Int) - 1) ∧ j ≤ l.length ∧ Hid (BRow wr wA.heap.size s7 (l.drop j).reverse) ∧ Below wA.heap.size wA wr) (fun _ s8 _ => (intOf s8 + 1).toNat)
        case atStart =>
          refine ⟨l.length, rfl, Nat.le_refl _, ?_, (Below.refl _ _).alloc (Nat.le_refl _) _⟩
          have := World.ownsRow_lit (base := wA.heap.size) (e := 5) (size := 1) wA #[] 0 (Nat.le_refl _) (by simp [maxLen]) rfl
          exact Lib.hid (by rw [List.drop_length]; simpa [BRow, u8s] using this)
        case round =>
          obtain ⟨j, rfl, hj, HZ, hbz⟩ := hrel
          by_cases hj0 : j = 0
          · subst hj0
            have hz := HZ.out
            rw [List.drop_zero, HFIN.out] at hz
            have hpos := Dec.dec_length_pos x
            obtain ⟨zo, zc, rfl, hzc⟩ := hz.form
            obtain ⟨zg, rfl, _, _⟩ := hzc 0 hpos
            have hconv := string_of_row hz
            have hbelz := hbel.trans (hbz.mono hbel.size)
            clear hzc hz HZ HBC HB hbz
            go_wp2_with fail
            go_ret
            exact ⟨by rfl, hbelz⟩
          · obtain ⟨bg, rfl, hbg, hbc⟩ := HBC.out (j - 1) (by omega)
            obtain ⟨C, hC⟩ : ∃ C, l.getD (j - 1) 0 = C := ⟨_, rfl⟩
            rw [hC] at hbc
            have hz1 : wr.cell? ⟨bg, j - 1, none⟩ = some (.int .u8 (C.toNat : Int)) := by rw [(bcell hbz).1 _ _ hbg]; exact hbc
            obtain ⟨q, rfl⟩ : ∃ q, j = q + 1 := ⟨j - 1, by omega⟩
            rw [Nat.add_sub_cancel] at hz1 hC
            have hgq : l[q]'(by omega) = C := by rw [← hC]; simp [List.getD, show q < l.length by omega]
            have hstep : (l.drop (q + 1)).reverse ++ [C] = (l.drop q).reverse := by
              rw [List.drop_eq_getElem_cons (show q < l.length by omega), hgq, List.reverse_cons]
            have HST := Lib.hid hstep
            have hq1 : ((q : Int) + 1 - 1) = (q : Int) := by omega
            have hplen : (l.drop (q + 1)).reverse.length ≤ 100000000000000 := by simp; omega
            have hbzs := hbz.size
            have hbw : w.heap.size + 1 ≤ wA.heap.size := by omega
            clear hbc hC hgq hstep
            go_wp2_with (at_builtin; refine append_byte rfl _ _ rfl wA.heap.size u7 ((l.drop (q + 1)).reverse) C rfl rfl HZ.out hplen hbzs ?_; intro v' w4 hs4 hg4; have HS4 := Lib.hid hs4; have HG4 := Lib.hid hg4; clear hs4 hg4)
            rw [HST.out] at HS4
            have hb4 : Below wA.heap.size wA w4 := (hbz.alloc hbzs (Obj.cells #[.int .u8 (C.toNat : Int)] 5)).grown HG4.out (by simp; omega) (fun jj e => by have := (HZ.out.lt jj e).1; omega)
            exact ⟨⟨q, rfl, by omega, HS4, hb4⟩, by simp [intOf]⟩
end Go.Proofs.YtgpkbembdflnmaaGreatDoor
