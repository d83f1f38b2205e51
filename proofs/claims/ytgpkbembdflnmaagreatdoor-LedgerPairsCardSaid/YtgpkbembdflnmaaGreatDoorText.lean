/- Walk: nat.Text. -/
import Derived.Test.YtgpkbembdflnmaaGreatDoorNatD
import Derived.Test.YtgpkbembdflnmaaGreatDoorFmt
import Derived.Test.YtgpkbembdflnmaaGreatDoorStr
import Derived.Test.YtgpkbembdflnmaaGreatDoorDec
namespace Go.Proofs.YtgpkbembdflnmaaGreatDoor
open Go.RowKit
open Go.Lib (decDigits)

theorem Tab.below {w w' : World} (h : Tab w) (hb : Below w.heap.size w w') : Tab w' := by
  unfold Tab Lib.TabIs World.var? at *
  cases hg : Tryz.prog.globalNamed "internal/strconv.uint64pow10" with
  | none => simp [hg] at h
  | some g =>
    simp only [hg, Option.bind_some] at h ⊢
    have hlt : g < w.heap.size := by
      rcases Nat.lt_or_ge g w.heap.size with h' | h'
      · exact h'
      · rw [Array.getElem?_eq_none h'] at h; simp at h
    rw [hb.block g hlt]
    exact h

/-- What of a number's text is there: 'ps' its last pieces, the lowest first; a what is left of it. -/
structure TextN (x a : Nat) (ps : List (List UInt8)) (M : Nat) : Prop where
  eq : decDigits x = (if a = 0 then [] else decDigits a) ++ ps.reverse.flatten
  lt : a < 1000000000 ^ (M - ps.length)
  le : ps.length ≤ M

def piece (a : Nat) : List UInt8 := if a / 1000000000 = 0 then decDigits (a % 1000000000) else List.replicate (9 - (decDigits (a % 1000000000)).length) 48 ++ decDigits (a % 1000000000)

theorem piece_length (a : Nat) : (piece a).length ≤ 9 := by
  have h := Dec.dec_length_le 8 (a % 1000000000) (Nat.mod_lt _ (by decide))
  unfold piece
  split
  · exact h
  · simp; omega

theorem TextN.step {x a : Nat} {ps : List (List UInt8)} {M : Nat} (h : TextN x a ps M) (ha : a ≠ 0) : TextN x (a / 1000000000) (ps ++ [piece a]) M ∧ ps.length < M := by
  have hlt : ps.length < M := by
    rcases Nat.lt_or_ge ps.length M with h' | h'
    · exact h'
    · have := h.lt
      rw [show M - ps.length = 0 by omega] at this
      simp at this
      omega
  refine ⟨⟨?_, ?_, by simp; omega⟩, hlt⟩
  · rw [h.eq, if_neg ha]
    simp only [List.reverse_append, List.reverse_cons, List.reverse_nil, List.nil_append, List.cons_append, List.flatten_cons]
    rw [← List.append_assoc]
    congr 1
    unfold piece
    have hd := Nat.div_add_mod a 1000000000
    by_cases h0 : a / 1000000000 = 0
    · rw [if_pos h0, if_pos h0, List.nil_append]
      congr 1
      rw [h0] at hd
      omega
    · rw [if_neg h0, if_neg h0, Dec.pad_dec 8 _ (Nat.mod_lt _ (by decide)), ← Dec.dec_cut 9 _ _ (by omega) (Nat.mod_lt _ (by decide))]
      congr 1
      show a = a / 1000000000 * 1000000000 + a % 1000000000
      omega
  · have := h.lt
    rw [show M - ps.length = (M - (ps ++ [piece a]).length) + 1 by simp; omega, Nat.pow_succ] at this
    exact (Nat.div_lt_iff_lt_mul (by decide)).2 this

theorem text_start (x : Nat) : TextN x x [] (2 * Limb.nl B32 x) ∨ x = 0 := by
  by_cases h : x = 0
  · exact .inr h
  · refine .inl ⟨by simp [h], ?_, Nat.zero_le _⟩
    have h1 := Limb.lt_pow_nl B32two x
    have h2 : B32 ^ Limb.nl B32 x ≤ (1000000000 ^ 2) ^ Limb.nl B32 x := Nat.pow_le_pow_left (by decide) _
    rw [← Nat.pow_mul] at h2
    simp only [List.length_nil, Nat.sub_zero]
    omega

theorem flatten_le (ps : List (List UInt8)) (h : ∀ p ∈ ps, p.length ≤ 9) : ps.flatten.length ≤ 9 * ps.length := by
  induction ps with
  | nil => simp
  | cons p ps ih =>
    have h1 := h p (by simp)
    have h2 := ih (fun q hq => h q (by simp [hq]))
    simp only [List.flatten_cons, List.length_append, List.length_cons]
    omega

theorem repeat_zero (k : Nat) : Lib.repeatL [48] k = List.replicate k 48 := by
  induction k with
  | zero => rfl
  | succ k ih => rw [Lib.repeatL, ih, List.replicate_succ]; rfl

theorem join_empty (ps : List (List UInt8)) : Lib.join ps [] = ps.flatten := by
  unfold Lib.join
  induction ps with
  | nil => rfl
  | cons p ps ih =>
    cases ps with
    | nil => simp
    | cons q ps => rw [List.intercalate_cons_cons, ih]; simp

/-- The pieces turned round: what the library's Reverse leaves. -/
theorem turned {w wr : World} {g : Nat} {ps : List (List UInt8)} (n : Nat) (hb : Below w.heap.size w wr) (hg : w.heap.size ≤ g)
    (hc : ∀ j, j < ps.length → wr.cell? ⟨g, j, none⟩ = some (str (ps.getD j []))) (hf : ∀ j, wr.frozen? ⟨g, j, none⟩ = false) :
    Sort.Holds encStr wr g 0 ps.toArray ∧ (∀ (j : Nat) x, (ps.reverse.map fun l => (⟨l.toArray⟩ : ByteArray))[j]? = some x → (Sort.putRow encStr (Sort.ahead wr n) g 0 ps.reverse.toArray).cell? ⟨g, 0 + j, none⟩ = some (.string x)) ∧
      Below w.heap.size w (Sort.putRow encStr (Sort.ahead wr n) g 0 ps.reverse.toArray) := by
  have hH : Sort.Holds encStr wr g 0 ps.toArray := fun j hj => by
    have hj' : j < ps.length := by simpa using hj
    rw [Nat.zero_add]
    refine ⟨?_, hf j⟩
    rw [hc j hj', getElem!_pos _ j hj]
    simp [List.getD, hj']
  refine ⟨hH, fun j x hx => ?_, hb.trans ⟨rfl, rfl, rfl, by simp [Sort.putRow, Sort.mapBlock, Sort.ahead], fun k hk => ?_⟩⟩
  · have hj : j < ps.reverse.length := by
      have := (List.getElem?_eq_some_iff.1 hx).1
      simpa using this
    rw [Sort.cell?_putRow encStr _ g 0 ps.toArray ps.reverse.toArray (Sort.holds_ahead encStr wr n g 0 _ hH) (by simp) j (by simpa using hj), getElem!_pos _ j (by simpa using hj)]
    simp only [List.getElem?_map, List.getElem?_eq_getElem hj, Option.map_some, Option.some.injEq] at hx
    rw [← hx]
    simp
  · simp only [Sort.putRow, Sort.mapBlock, Sort.ahead, Array.getElem?_modify]
    rw [if_neg (by omega)]

/-- A round of Text, behind its append. -/
theorem text_round {w w3 w4 : World} {x a q M n c : Nat} {ao : Option Addr} {ps : List (List UInt8)} {u v' : Value} {l : List UInt8} (hst : TextN x q (ps ++ [piece a]) M) (hl : piece a = l) (hlt : ps.length < M)
    (hp : ∀ p ∈ ps, p.length ≤ 9) (hql : Limb.nl B32 q ≤ 100000000000) (hs3 : Strs w3 (w.heap.size + 1) u ps) (hv : Nt w3 (.slice ao n c) q)
    (hb : w3.heap[w.heap.size]? = some (.cells #[.slice ao n c] 66 (0, 0))) (hbel : Below w.heap.size w w3) (hs4 : Strs w4 (w.heap.size + 1) v' (ps ++ [l]))
    (hg : (w3.alloc (.cells #[str l] 9)).grownBy w4 u.ownBlock) :
    (∃ (a : Nat) (ps : List (List UInt8)) (ao : Option Addr) (n c : Nat), Hid (TextN x a ps M) ∧ Hid (∀ p ∈ ps, p.length ≤ 9) ∧ Hid (a ≠ 0 ∨ ps ≠ []) ∧ Hid (Limb.nl B32 a ≤ 100000000000) ∧ Hid (Strs w4 (w.heap.size + 1) v' ps) ∧ Hid (Nt w4 (.slice ao n c) a) ∧
            w4.heap[w.heap.size]? = some (.cells #[.slice ao n c] 66 (0, 0)) ∧ Below w.heap.size w w4) ∧ M - sliceLen v' < M - sliceLen u := by
  have hsa : Strs (w3.alloc (.cells #[str l] 9)) (w.heap.size + 1) u ps := World.ownsRow.alloc hs3 _
  refine ⟨⟨q, ps ++ [l], ao, n, c, by rw [← hl]; exact hst, ?_, .inr (by simp), hql, hs4, Row.grown (hv.alloc _) hsa hg, grown_box hg (at_old hb) (hs3.ne (Nat.lt_succ_self _)), ?_⟩, ?_⟩
  · intro p hpm
    rcases List.mem_append.1 hpm with h | h
    · exact hp p h
    · simp at h
      subst h
      rw [← hl]; exact piece_length a
  · exact (hbel.alloc hbel.size _).grown hg (by simp; have := hbel.size; omega) (fun k hk => by have := (hs3.lt k hk).1; omega)
  · rw [hs3.len, hs4.len]
    simp
    omega

set_option maxHeartbeats 2000000 in
set_option maxRecDepth 100000 in
theorem nat_Text (ao : Option Addr) (na ca x : Nat) (w : World) (ha : Nt w (.slice ao na ca) x) (hx : Limb.nl B32 x ≤ 100000000000) (htab : Tab w) :
    Calls Tryz.prog 44 #[.agg #[.slice ao na ca]] w fun e w' => e = .returned (.string ⟨(decDigits x).toArray⟩) ∧ Below w.heap.size w w' := by
  obtain ⟨ena, hca, hcm⟩ := Row.get ha
  have HNA := Lib.hid ena
  clear hcm hca
  rcases text_start x with hst | hx0
  · by_cases hn0 : na = 0
    · have hx0 : x = 0 := by
        rw [hn0] at HNA
        exact (Limb.limbs_nil B32two).1 (List.length_eq_zero_iff.1 HNA.out.symm)
      have hd : decDigits x = [48] := by rw [hx0, Dec.dec_lt (by omega)]; rfl
      have HD := Lib.hid hd
      clear hd hx0 ena hst
      subst hn0
      go_enter Tryz.func44, Tryz.ntmps44
      go_wp2
      go_ret
      exact ⟨by rw [HD.out]; rfl, (Below.refl _ _).alloc (Nat.le_refl _) _⟩
    · have hnb : ((na : Int) == 0) = false := by simp; omega
      have na1 : na ≤ 100000000000 := by unfold Limb.nl at hx; omega
      have HST := Lib.hid hst
      have hM : 2 * Limb.nl B32 x ≤ 200000000000 := by omega
      generalize 2 * Limb.nl B32 x = M at *
      clear hst ena
      go_enter Tryz.func44, Tryz.ntmps44
      go_wp2_with fail
      go_loopw [3] (fun s3 wr => ∃ (a : Nat) (ps : List (List UInt8)) (ao : Option Addr) (n c : Nat), Hid (TextN x a ps M) ∧ Hid (∀ p ∈ ps, p.length ≤ 9) ∧ Hid (a ≠ 0 ∨ ps ≠ []) ∧ Hid (Limb.nl B32 a ≤ 100000000000) ∧ Hid (Strs wr (w.heap.size + 1) s3 ps) ∧ Hid (Nt wr (.slice ao n c) a) ∧
            wr.heap[w.heap.size]? = some (.cells #[.slice ao n c] 66 (0, 0)) ∧ Below w.heap.size w wr)
          (fun s3 _ => M - sliceLen s3)
      case atStart =>
        exact ⟨x, [], ao, na, ca, HST.out, Lib.hid (by intro p hp; cases hp), .inl (by rintro rfl; rw [Limb.limbs_zero] at HNA; exact hn0 HNA.out), hx, Strs.nil _ _, ha.alloc _, at_new rfl, (Below.refl _ _).alloc (Nat.le_refl _) _⟩
      case round =>
        obtain ⟨a, ps, ao, n, c, HT, HP, HZ, HL, HS, HA, hb0, hbel⟩ := hrel
        have hc0 := box_cell (j := 0) hb0 rfl
        have hf0 := box_free (j := 0) hb0
        have hlen := (Row.get HA.out).1
        have hT := Tab.below htab hbel
        by_cases ha0 : a = 0
        · have hn : n = 0 := by rw [hlen, ha0, Limb.limbs_zero]; rfl
          have hfl : decDigits x = ps.reverse.flatten := by rw [HT.out.eq, if_pos ha0]; rfl
          have hps : ps ≠ [] := by
            rcases HZ.out with h | h
            · exact absurd ha0 h
            · exact h
          have HFL := Lib.hid hfl
          have HPS := Lib.hid hps
          clear hlen hfl hps
          subst hn
          go_wp2_with fail
          rcases HS.out.form with ⟨_, h⟩ | ⟨g, cc, hu, hg1, hg2, hg3, hcells, hfree⟩
          · exact absurd h HPS.out
          · subst hu
            have hpl : ps.length ≤ 200000000000 := by have := HT.out.le; omega
            have htu := fun n => turned n hbel (g := g) (by omega) hcells hfree
            have HTU := Lib.hid htu
            have HREV := Lib.hid (Tryz.slices_Reverse_string g 0 cc ps wr (htu 0).1 (by omega))
            clear htu
            refine HREV.out.mono ?_
            rintro e w5 ⟨rfl, k, rfl⟩
            have h5 := (HTU.out k).2
            have hlen5 : (Lib.join ((ps.reverse.map fun l => (⟨l.toArray⟩ : ByteArray)).map (·.data.toList)) []) = ps.reverse.flatten := by
              rw [join_empty, List.map_map]
              congr 1
              rw [show ((fun x : ByteArray => x.data.toList) ∘ fun l : List UInt8 => (⟨l.toArray⟩ : ByteArray)) = id from funext fun l => by simp, List.map_id]
            have hj := Tryz.strings_Join g 0 cc (ps.reverse.map fun l => (⟨l.toArray⟩ : ByteArray)) ⟨#[]⟩ (Sort.putRow encStr (Sort.ahead wr k) g 0 ps.reverse.toArray) h5.1 (by simp [Sort.putRow, Sort.mapBlock, Sort.ahead]; omega) (by simp; omega) (by simpa using hg3)
              (by rw [show (⟨#[]⟩ : ByteArray).data.toList = [] from rfl, hlen5]; have := flatten_le ps.reverse (fun p hp => HP.out p (by simpa using hp)); simp at this ⊢; omega)
            rw [show (⟨#[]⟩ : ByteArray).data.toList = [] from rfl, hlen5, ← HFL.out] at hj
            simp only [List.length_map, List.length_reverse] at hj
            have HJ := Lib.hid hj
            have hbel5 := h5.2
            clear hj h5 hlen5 hcells hfree
            go_wp2_with fail
            refine HJ.out.mono ?_
            rintro e w6 ⟨rfl, hbl6⟩
            have hbel6 := hbel5.trans (hbl6.mono hbel5.size)
            clear hbl6
            go_wp2_with fail
            go_ret
            exact ⟨rfl, hbel6⟩
        · obtain ⟨hstep, hltM⟩ := HT.out.step ha0
          have hn : 0 < n := by
            rcases Nat.eq_zero_or_pos n with h | h
            · rw [h] at hlen
              exact absurd ((Limb.limbs_nil B32two).1 (List.length_eq_zero_iff.1 hlen.symm)) ha0
            · exact h
          have HStep := Lib.hid hstep
          clear hlen hstep
          go_wp2_with fail
          refine (nat_parted ao n c a 1000000000 _ HA.out (by have := HL.out; omega) (by decide) (by decide)).mono ?_
          rintro e w1 ⟨ao1, n1, c1, rfl, hv1, hbl1⟩
          have hb1 := below_box hbl1 hb0
          have hc1 := box_cell (j := 0) hb1 rfl
          have hf1 := box_free (j := 0) hb1
          have hbel1 := hbel.trans (hbl1.mono hbel.size)
          have HL1 := Lib.hid (Row.get hv1).1
          have hb2 := box_set (j := 0) (.slice ao1 n1 c1) hb1
          have HV2 := Lib.hid (Row.set hv1 (p := ⟨w.heap.size, 0, none⟩) hb1 (by decide) (.slice ao1 n1 c1))
          have HS2 := Lib.hid ((HS.out.kept hbl1).far (p := ⟨w.heap.size, 0, none⟩) (Nat.lt_succ_self _) (.slice ao1 n1 c1))
          have hbel2 := hbel1.setCell (p := ⟨w.heap.size, 0, none⟩) (Nat.le_refl _) (.slice ao1 n1 c1)
          have hT2 := Tab.below htab hbel2
          obtain ⟨r, hr⟩ : ∃ r, a % 1000000000 = r := ⟨_, rfl⟩
          obtain ⟨q, hq⟩ : ∃ q, a / 1000000000 = q := ⟨_, rfl⟩
          have hrb : r < 1000000000 := by rw [← hr]; exact Nat.mod_lt _ (by decide)
          have hrl : (decDigits r).length ≤ 9 := Dec.dec_length_le 8 r hrb
          rw [hr]
          have hpc : piece a = if q = 0 then decDigits r else List.replicate (9 - (decDigits r).length) 48 ++ decDigits r := by unfold piece; rw [hq, hr]
          rw [hq] at HV2 HL1 HStep
          have hql : Limb.nl B32 q ≤ 100000000000 := by rw [← hq]; exact Nat.le_trans (Limb.nl_mono B32two (Nat.div_le_self _ _)) HL.out
          have HQL := Lib.hid hql
          have HPC := Lib.hid hpc
          have hpl : ps.length ≤ 200000000000 := by omega
          clear hv1 hr hq hpc hql
          go_wp2_with fail
          generalize w1.setCell ⟨w.heap.size, 0, none⟩ (.slice ao1 n1 c1) = W2 at *
          clear hbl1 hb1 hc1 hf1 hbel1 HS hb0 hc0 hf0 hbel hT
          refine (strconv_FormatUint r (by omega) W2 hT2).mono ?_
          rintro e w3 ⟨rfl, hbl3⟩
          have hb3 := below_box hbl3 hb2
          have hc3 := box_cell (j := 0) hb3 rfl
          have HS3 := Lib.hid (HS2.out.kept hbl3)
          have HV3 := Lib.hid (Row.below HV2.out hbl3)
          have hbel3 := hbel2.trans (hbl3.mono hbel2.size)
          have hsz3 : w.heap.size + 1 ≤ w3.heap.size := (Array.getElem?_eq_some_iff.1 hb3).1
          clear hbl3 HS2 HV2 hbel2 hb2 hT2
          by_cases hq0 : q = 0
          · have hn1 : n1 = 0 := by rw [HL1.out, hq0, Limb.limbs_zero]; rfl
            have hpiece : piece a = decDigits r := by rw [HPC.out, if_pos hq0]
            have HPI := Lib.hid hpiece
            clear hpiece
            subst hn1
            go_wp2_with (at_builtin; refine append_str rfl _ _ rfl (w.heap.size + 1) u3 ps (decDigits r) rfl rfl HS3.out (by omega) hsz3 ?_; intro v' w4 hs4 hg4; have HS4 := Lib.hid hs4; have HG4 := Lib.hid hg4; clear hs4 hg4)
            exact text_round HStep.out HPI.out hltM HP.out HQL.out HS3.out HV3.out hb3 hbel3 HS4.out HG4.out
          · have hn1 : 0 < n1 := by
              rcases Nat.eq_zero_or_pos n1 with h | h
              · have := HL1.out
                rw [h] at this
                exact absurd ((Limb.limbs_nil B32two).1 (List.length_eq_zero_iff.1 this.symm)) hq0
              · exact h
            have hpiece : piece a = List.replicate (9 - (decDigits r).length) 48 ++ decDigits r := by rw [HPC.out, if_neg hq0]
            have HPI := Lib.hid hpiece
            clear hpiece
            obtain ⟨k9, hk9⟩ : ∃ k, 9 - (decDigits r).length = k := ⟨_, rfl⟩
            have hk9' : (9 : Int) - ((decDigits r).length : Int) = (k9 : Int) := by omega
            rw [hk9] at HPI
            have hk9b : k9 ≤ 9 := by omega
            have HK9 := Lib.hid hk9
            clear hk9
            go_wp2_with fail
            refine (Tryz.strings_Repeat ⟨#[48]⟩ k9 w3 (by omega) (by show 1 * k9 ≤ _; omega)).mono ?_
            rintro e w5 ⟨rfl, hbl5⟩
            have hb5 := below_box hbl5 hb3
            have hc5 := box_cell (j := 0) hb5 rfl
            have HS5 := Lib.hid (HS3.out.kept hbl5)
            have HV5 := Lib.hid (Row.below HV3.out hbl5)
            have hbel5 := hbel3.trans (hbl5.mono hbel3.size)
            have hsz5 : w.heap.size + 1 ≤ w5.heap.size := (Array.getElem?_eq_some_iff.1 hb5).1
            clear hbl5 HS3 HV3 hbel3 hb3 hc3 hsz3
            rw [show (⟨#[48]⟩ : ByteArray).data.toList = [48] from rfl, repeat_zero]
            obtain ⟨L, hL⟩ : ∃ L : List UInt8, List.replicate k9 48 ++ decDigits r = L := ⟨_, rfl⟩
            have hcat : (⟨Array.replicate k9 48⟩ : ByteArray) ++ ⟨(decDigits r).toArray⟩ = ⟨L.toArray⟩ := by
              rw [← hL]
              apply ByteArray.ext
              simp
            rw [hL] at HPI
            clear hL
            go_wp2_with (at_builtin; refine append_str rfl _ _ rfl (w.heap.size + 1) u3 ps L rfl rfl HS5.out (by omega) hsz5 ?_; intro v' w6 hs4 hg4; have HS4 := Lib.hid hs4; have HG4 := Lib.hid hg4; clear hs4 hg4)
            exact text_round HStep.out HPI.out hltM HP.out HQL.out HS5.out HV5.out hb5 hbel5 HS4.out HG4.out
  · have hn0 : na = 0 := by rw [HNA.out, hx0, Limb.limbs_zero]; rfl
    have hd : decDigits x = [48] := by rw [hx0, Dec.dec_lt (by omega)]; rfl
    have HD := Lib.hid hd
    clear hd hx0 ena
    subst hn0
    go_enter Tryz.func44, Tryz.ntmps44
    go_wp2
    go_ret
    exact ⟨by rw [HD.out]; rfl, (Below.refl _ _).alloc (Nat.le_refl _) _⟩
end Go.Proofs.YtgpkbembdflnmaaGreatDoor
