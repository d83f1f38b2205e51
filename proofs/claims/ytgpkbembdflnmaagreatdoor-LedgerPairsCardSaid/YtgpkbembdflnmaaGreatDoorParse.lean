/- Walk: nat.Parse. -/
import Derived.Test.YtgpkbembdflnmaaGreatDoorNatE
import Derived.Test.YtgpkbembdflnmaaGreatDoorText
import Derived.Shelf.Strings.SlTrimAscii
namespace Go.Proofs.YtgpkbembdflnmaaGreatDoor
open Go.RowKit
open Go.Lib (decDigits)

abbrev digits10 : List UInt8 := [48, 49, 50, 51, 52, 53, 54, 55, 56, 57]

theorem contains_digits (c : UInt8) : digits10.contains c = Dec.isDig c := by
  have h : ∀ n : Fin 256, digits10.contains (UInt8.ofNat n.val) = Dec.isDig (UInt8.ofNat n.val) := by decide +kernel
  have := h ⟨c.toNat, UInt8.toNat_lt c⟩
  simpa using this

theorem dropWhile_nil {l : List UInt8} {p : UInt8 → Bool} : l.dropWhile p = [] ↔ ∀ c ∈ l, p c = true := by
  induction l with
  | nil => simp
  | cons a l ih =>
    by_cases h : p a = true
    · rw [List.dropWhile_cons_of_pos h, ih]; simp [h]
    · rw [List.dropWhile_cons_of_neg h]; simp [h]

/-- What is trimmed of its digits is empty just where there are only digits. -/
theorem trim_nil (l : List UInt8) : Lib.trimS l digits10 = [] ↔ l.all Dec.isDig = true := by
  have hp : (fun x => digits10.contains x) = Dec.isDig := funext contains_digits
  unfold Lib.trimS Lib.trimLeftS Lib.trimRightS
  rw [hp, dropWhile_nil]
  rw [List.all_eq_true]
  constructor
  · intro h c hc
    by_cases hd : Dec.isDig c = true
    · exact hd
    · exfalso
      -- what is no digit stays
      have : (l.reverse.dropWhile Dec.isDig) ≠ [] := fun e => hd (dropWhile_nil.1 e c (by simpa using hc))
      obtain ⟨a, r, e⟩ := List.exists_cons_of_ne_nil this
      have h1 : Dec.isDig a = false := by
        have := List.head_dropWhile_not Dec.isDig this
        simpa [e] using this
      have h2 := h a (by rw [e]; simp)
      rw [h1] at h2; cases h2
  · intro h c hc
    have : c ∈ l.reverse.dropWhile Dec.isDig := by simpa using hc
    exact h c (by have := (List.dropWhile_suffix Dec.isDig).subset this; simpa using this)

theorem trim_any (l : List UInt8) (w : World) (hl : l.length ≤ 100000000000) :
    Calls Tryz.prog 67 #[str l, .string ⟨#[48, 49, 50, 51, 52, 53, 54, 55, 56, 57]⟩] w fun e w' => e = .returned (str (Lib.trimS l digits10)) ∧ Below w.heap.size w w' := by
  have := Any.strings_Trim_laid Tryz.laysTrim (by kernel_rfl) ⟨l.toArray⟩ ⟨#[48, 49, 50, 51, 52, 53, 54, 55, 56, 57]⟩ w (by show l.toArray.size ≤ _; simp; omega) (by decide) (fun j b h => by
    have hm : b ∈ digits10 := List.mem_of_getElem? h
    have : ∀ b ∈ digits10, b.toNat < 128 := by decide
    exact this b hm)
  exact this

theorem below_bytesWorld (w : World) (e : TypeId) (s : ByteArray) : Below w.heap.size w (Lib.bytesWorld w e s) := by
  refine ⟨?_, ?_, ?_, by rw [Lib.bytesWorld_size]; omega, fun k hk => Lib.bytesWorld_at_old w e s k hk⟩
  all_goals (unfold Lib.bytesWorld World.freeze; simp only [show (1 : Nat) ≠ 0 by decide, if_false]; rfl)

theorem parseUint_num (l : List UInt8) : ∀ (acc : Nat), (∀ c ∈ l, Dec.isDig c = true) → acc * 10 ^ l.length + Dec.num l < 1000000000 → Lib.parseUintM (2 ^ 32 - 1) acc l = .ok (acc * 10 ^ l.length + Dec.num l) := by
  induction l with
  | nil => intro acc _ _; simp [Lib.parseUintM, Dec.num]
  | cons c l ih =>
    intro acc hd hlt
    have hc := hd c (by simp)
    simp only [Dec.isDig, Bool.and_eq_true, decide_eq_true_eq] at hc
    have e : acc * 10 ^ (c :: l).length + Dec.num (c :: l) = (acc * 10 + (c.toNat - 48)) * 10 ^ l.length + Dec.num l := by
      rw [show c :: l = [c] ++ l from rfl, Dec.num_append]
      simp only [List.length_append, List.length_cons, List.length_nil, Nat.zero_add, Nat.add_comm 1, Nat.pow_succ]
      rw [show Dec.num [c] = c.toNat - 48 by simp [Dec.num], Nat.add_mul, Nat.mul_comm (10 ^ l.length) 10, ← Nat.mul_assoc]
      omega
    rw [e] at hlt ⊢
    have hp : 0 < 10 ^ l.length := Nat.pow_pos (by omega)
    have h1 : acc * 10 + (c.toNat - 48) ≤ (acc * 10 + (c.toNat - 48)) * 10 ^ l.length := Nat.le_mul_of_pos_right _ hp
    unfold Lib.parseUintM
    rw [if_pos hc, if_neg (by omega), if_neg (by have : (2 : Nat) ^ 32 - 1 = 4294967295 := by decide
                                                 omega)]
    exact ih _ (fun d hd' => hd d (by simp [hd'])) hlt

theorem parse_chunk (l : List UInt8) (w : World) (hne : l ≠ []) (hl : l.length ≤ 9) (hd : ∀ c ∈ l, Dec.isDig c = true) :
    Calls Tryz.prog 68 #[str l, .int .i64 10, .int .i64 32] w fun e w' => e = .returned (.tuple #[.int .u64 ((Dec.num l : Nat) : Int), .nilIface]) ∧ Below w.heap.size w w' := by
  have hlt : Dec.num l < 1000000000 := Nat.lt_of_lt_of_le (Dec.num_lt l hd) (Nat.pow_le_pow_right (n := 10) (by omega) hl)
  have hp : Lib.parseUintB 32 l = .ok (Dec.num l) := by
    unfold Lib.parseUintB
    rw [if_neg hne]
    have := parseUint_num l 0 hd (by simpa using hlt)
    simpa using this
  refine (Tryz.strconv_ParseUint_10_at32_ok ⟨l.toArray⟩ (by show l.toArray.size ≤ _; simp; omega) (Dec.num l) hp w).mono ?_
  rintro e w' ⟨rfl, rfl | rfl⟩
  · exact ⟨rfl, Below.refl _ _⟩
  · exact ⟨rfl, below_bytesWorld _ _ _⟩
/-- What Parse has read: 'pre' is behind it, 'rest' lies ahead, a is what it comes to. -/
structure ParseN (l rest : List UInt8) (a : Nat) : Prop where
  ex : ∃ pre, l = pre ++ rest ∧ a = Dec.num pre

theorem num_nl {l : List UInt8} (h : ∀ c ∈ l, Dec.isDig c = true) : Limb.nl B32 (Dec.num l) ≤ l.length := by
  refine Limb.nl_le B32two _ _ (Nat.lt_of_lt_of_le (Dec.num_lt l h) (Nat.pow_le_pow_left (by decide) _))

theorem ParseN.step {l rest : List UInt8} {a : Nat} (h : ParseN l rest a) (n : Nat) : ParseN l (rest.drop n) (a * 10 ^ (rest.take n).length + Dec.num (rest.take n)) := by
  obtain ⟨pre, e1, e2⟩ := h.ex
  refine ⟨pre ++ rest.take n, by rw [List.append_assoc, List.take_append_drop]; exact e1, by rw [Dec.num_append, e2]⟩

theorem ParseN.small {l rest : List UInt8} {a : Nat} (h : ParseN l rest a) (hd : ∀ c ∈ l, Dec.isDig c = true) : Limb.nl B32 a ≤ l.length := by
  obtain ⟨pre, e1, e2⟩ := h.ex
  rw [e2]
  refine Nat.le_trans (num_nl (fun c hc => hd c (by rw [e1]; simp [hc]))) ?_
  rw [e1]; simp

theorem ParseN.rest {l rest : List UInt8} {a : Nat} (h : ParseN l rest a) (hd : ∀ c ∈ l, Dec.isDig c = true) : ∀ c ∈ rest, Dec.isDig c = true := by
  obtain ⟨pre, e1, e2⟩ := h.ex
  exact fun c hc => hd c (by rw [e1]; simp [hc])

theorem ParseN.len {l rest : List UInt8} {a : Nat} (h : ParseN l rest a) : rest.length ≤ l.length := by
  obtain ⟨pre, e1, e2⟩ := h.ex
  rw [e1]; simp

theorem ParseN.done {l : List UInt8} {a : Nat} (h : ParseN l [] a) : a = Dec.num l := by
  obtain ⟨pre, e1, e2⟩ := h.ex
  rw [List.append_nil] at e1
  rw [e1, e2]

theorem extract_drop (l : List UInt8) (n : Nat) : (⟨l.toArray⟩ : ByteArray).extract n (⟨l.toArray⟩ : ByteArray).size = ⟨(l.drop n).toArray⟩ := by
  apply ByteArray.ext
  have : (⟨l.toArray⟩ : ByteArray).size = l.length := rfl
  simp [this, List.take_of_length_le]

theorem extract_take (l : List UInt8) (n : Nat) : (⟨l.toArray⟩ : ByteArray).extract 0 n = ⟨(l.take n).toArray⟩ := by
  apply ByteArray.ext
  simp

def strLen : Value → Nat
  | .string s => s.size
  | _ => 0

set_option maxHeartbeats 4000000 in
set_option maxRecDepth 100000 in
/-- The way of a good text. -/
theorem nat_Parse_ok (c0 : UInt8) (l0 : List UInt8) (w : World) (hlen : l0.length ≤ 1000000000) (hg : Dec.good (c0 :: l0) = true) :
    Calls Tryz.prog 51 #[str (c0 :: l0)] w (RetNtE w (Dec.num (c0 :: l0)) 0) := by
  have hd : (c0 :: l0).all Dec.isDig = true := by
    unfold Dec.good at hg
    simp only [Bool.and_eq_true] at hg
    exact hg.1.2
  have htrim : Lib.trimS (c0 :: l0) digits10 = [] := (trim_nil _).2 hd
  have hdig : ∀ c ∈ (c0 :: l0), Dec.isDig c = true := List.all_eq_true.1 hd
  have hz : (c0 == 48) = false ∨ (c0 = 48 ∧ l0 = []) := by
    unfold Dec.good at hg
    simp only [Bool.and_eq_true, Bool.or_eq_true] at hg
    rcases hg.2 with h | h
    · have := eq_of_beq h
      simp only [List.cons.injEq] at this
      exact .inr this
    · left
      cases h0 : c0 == 48 with
      | false => rfl
      | true => rw [eq_of_beq h0] at h; simp at h
  have HT := Lib.hid htrim
  have HD := Lib.hid hdig
  have hcon := fun W => trim_any (c0 :: l0) W (by simp; omega)
  rw [HT.out] at hcon
  have HC := Lib.hid hcon
  clear htrim hdig hd hg hcon
  have hsz0 : 0 < (⟨(c0 :: l0).toArray⟩ : ByteArray).size := by show 0 < (c0 :: l0).toArray.size; simp
  have hi : (⟨(c0 :: l0).toArray⟩ : ByteArray)[0] = c0 := rfl
  have hll : (c0 :: l0).length ≤ 1000000001 := by simp; omega
  rcases hz with hz | hz
  · have hz1 : ¬ c0 = 48 := by intro e; rw [e] at hz; simp at hz
    have hz2 : ((c0.toNat : Int) == 48) = false := by
      rw [beq_eq_false_iff_ne]
      intro e
      exact hz1 (UInt8.toNat_inj.1 (by simpa using (show c0.toNat = 48 by omega)))
    have hz3 : ((((⟨(c0 :: l0).toArray⟩ : ByteArray)[0]).toNat : Int) == 48) = false := hz2
    go_enter Tryz.func51, Tryz.ntmps51
    go_wp2_with fail
    refine (HC.out _).mono ?_
    rintro e w1 ⟨rfl, hbl⟩
    have hb0 := below_box hbl (b := w.heap.size) (at_new rfl)
    have hbel : Below w.heap.size w w1 := ((Below.refl _ _).alloc (Nat.le_refl _) _).trans (hbl.mono (by simp))
    have hsz : w.heap.size + 1 ≤ w1.heap.size := by have := hbl.size; simp at this; omega
    clear hbl hz hz1 hz2 hz3 hi hsz0
    go_wp2_with fail
    generalize c0 :: l0 = L at *
    go_loopw [0] (fun s0 wr => ∃ (rest : List UInt8) (a : Nat) (ao : Option Addr) (n c : Nat), s0 = str rest ∧ Hid (ParseN L rest a) ∧ Hid (Nt wr (.slice ao n c) a) ∧ wr.heap[w1.heap.size]? = some (.cells #[.slice ao n c] 66 (0, 0)) ∧
          wr.heap[w.heap.size]? = some (.cells #[.slice none 0 0] 66 (0, 0)) ∧ Below w.heap.size w wr) (fun s0 _ => strLen s0)
    case atStart => exact ⟨L, 0, none, 0, 0, rfl, Lib.hid ⟨[], rfl, rfl⟩, Nt.nil _, at_new rfl, at_old hb0, hbel.alloc hbel.size _⟩
    case round =>
      obtain ⟨rest, a, ao, n, c, rfl, HP, HA, hb1, hb0, hbel⟩ := hrel
      have hc1 := box_cell (j := 0) hb1 rfl
      have hf1 := box_free (j := 0) hb1
      have hlr := HP.out.len
      cases rest with
      | nil =>
        have hfin := HP.out.done
        have HF := Lib.hid hfin
        have hce := box_cell (j := 0) hb0 rfl
        have hfr := box_free (j := 0) hb0
        clear hfin
        go_wp2_with fail
        refine post_box1 Tryz.results51 rfl rfl aggNat sizeNat rfl (box_set (j := 0) (.slice ao n c) hb0) rfl ⟨ao, n, c, rfl, ?_, hbel.setCell (Nat.le_refl _) _⟩
        rw [← HF.out]
        exact Row.set HA.out hb0 (by decide) _
      | cons c1 r =>
        have hl1 : ((c1 :: r).length : Int) = (r.length : Int) + 1 := by simp
        obtain ⟨q, hq⟩ : ∃ q, r.length % 9 = q := ⟨_, rfl⟩
        have hq8 : q ≤ 8 := by omega
        have hqr : q ≤ r.length := by rw [← hq]; exact Nat.mod_le _ _
        have hmod : (r.length : Int) % 9 = (q : Int) := by omega
        have HQ := Lib.hid hq
        clear hq
        have hp10 : ∀ i, i ≤ 9 → 10 ^ i ≤ 1000000000 := fun i hi => Nat.pow_le_pow_right (n := 10) (by omega) hi
        have HP10 := Lib.hid hp10
        clear hp10
        go_upto_block 2 with fail
        clear hmod
        go_cut [6] (fun s6 wx => ∃ p : Nat, s6 = .int .u32 (p : Int) ∧ p ≤ 1000000000 ∧ Hid (10 ^ (q + 1) = p) ∧ wx = wr)
        case first =>
          go_wp2_with fail
          go_loop [6, 34] (fun s6 s34 => ∃ (i p : Nat), i ≤ q + 1 ∧ p ≤ 1000000000 ∧ s6 = .int .u32 (p : Int) ∧ s34 = .int .i64 (i : Int) ∧ Hid (10 ^ i = p)) (fun _ s34 => q + 1 - (intOf s34).toNat)
          case atStart => exact ⟨0, 1, Nat.zero_le _, by omega, rfl, rfl, rfl⟩
          case round =>
            obtain ⟨i, p, hi, hp, rfl, rfl, HI⟩ := hrel
            by_cases hlt : i < q + 1
            · have hp2 : p * 10 ≤ 1000000000 := by
                have := HP10.out (i + 1) (by omega)
                rw [Nat.pow_succ, HI.out] at this
                exact this
              have HI2 : Hid (10 ^ (i + 1) = p * 10) := by
                show 10 ^ (i + 1) = p * 10
                rw [Nat.pow_succ, HI.out]
              go_wp2_with fail
              go_round
              case rel => exact ⟨i + 1, p * 10, by omega, hp2, by go_num, by go_num, HI2⟩
              case measure => simp [intOf]; omega
            · obtain rfl : i = q + 1 := by omega
              go_wp2_with fail
              go_meet
              exact ⟨p, rfl, hp, HI, rfl⟩
        case rest =>
          obtain ⟨p, rfl, hp, HI, rfl⟩ := hcut
          obtain ⟨C, hC⟩ : ∃ C, (c1 :: r).take (q + 1) = C := ⟨_, rfl⟩
          have hex : (⟨(c1 :: r).toArray⟩ : ByteArray).extract 0 (q + 1) = ⟨C.toArray⟩ := by rw [← hC]; exact extract_take _ _
          have hCl : C.length = q + 1 := by rw [← hC]; simp; omega
          have hCd : ∀ c ∈ C, Dec.isDig c = true := fun c hc => HP.out.rest HD.out c (by rw [← hC] at hc; exact List.mem_of_mem_take hc)
          have hcon := parse_chunk C wc (by intro e; rw [e] at hCl; simp at hCl) (by omega) hCd
          have hnum : Dec.num C < 1000000000 := Nat.lt_of_lt_of_le (Dec.num_lt C hCd) (by rw [hCl, HI.out]; exact hp)
          have hst := HP.out.step (q + 1)
          rw [hC, hCl, HI.out] at hst
          have HST := Lib.hid hst
          have HCON := Lib.hid hcon
          generalize Dec.num C = v at *
          clear hC hCl hCd hcon hst
          go_wp2_with fail
          refine HCON.out.mono ?_
          rintro e w2 ⟨rfl, hbl⟩
          have hb1' := below_box hbl hb1
          have hb0' := below_box hbl hb0
          have hc1' := box_cell (j := 0) hb1' rfl
          have hf1' := box_free (j := 0) hb1'
          have hbel2 := hbel.trans (hbl.mono hbel.size)
          have HA2 := Lib.hid (Row.below HA.out hbl)
          clear hb1 hb0 hc1 hf1 hbel HA hbl
          have hq1 : (0 : Int) ≤ (q : Int) + 1 := by omega
          have hq2 : (q : Int) + 1 ≤ ((c1 :: r).length : Int) := by omega
          have hq3 : (q : Int) + 1 ≤ (r.length : Int) + 1 := by omega
          have hex2 : (⟨(c1 :: r).toArray⟩ : ByteArray).extract (q + 1) (⟨(c1 :: r).toArray⟩ : ByteArray).size = ⟨((c1 :: r).drop (q + 1)).toArray⟩ := extract_drop _ _
          have hvm : (v : Int) % 4294967296 = (v : Int) := by omega
          go_upto_region 12 with fail
          have hstr : (⟨(c1 :: r).toArray⟩ : ByteArray).size = r.length + 1 := rfl
          have hsn : Limb.nl B32 a ≤ 1000000000000 := Nat.le_trans (HP.out.small HD.out) (by omega)
          have hsc := fun W' h => nat_scaled ao n c a p v W' h hsn (by omega) (by omega)
          have HSC := Lib.hid hsc
          clear hsc hsn
          have hvw : IntKind.u32.wrap (v : Int) = (v : Int) := Go.IntWalk.u32_in _ (by omega)
          clear hvm
          have HA3 : Hid (Nt w2.drew (.slice ao n c) a) := Row.below HA2.out (⟨rfl, rfl, rfl, Nat.le_refl _, fun _ _ => rfl⟩ : Below w2.heap.size w2 w2.drew)
          go_region_with (first | (go_at_call 69; refine (HSC.out _ HA3.out).mono ?_; rintro e w3 ⟨ao2, n2, c2, rfl, hN2, hbl3⟩; have hb1x := below_box hbl3 hb1'; have hb0x := below_box hbl3 hb0'; have hc1x := box_cell (j := 0) hb1x rfl; have hf1x := box_free (j := 0) hb1x))
          have hex3 : (⟨(c1 :: r).toArray⟩ : ByteArray).extract (q + 1) (r.length + 1) = ⟨((c1 :: r).drop (q + 1)).toArray⟩ := hex2
          go_simp
          clear hex hex2 hvw hl1
          refine ⟨?_, ?measure⟩
          (repeat apply Exists.intro)
          refine ⟨?rel, rfl⟩
          case rel =>
            refine ⟨r.drop q, a * p + v, ao2, n2, c2, rfl, HST, Lib.hid (Row.set hN2 hb1x (by decide) _), box_set (j := 0) _ hb1x, box_far _ hb0x (by show w.heap.size ≠ w1.heap.size; omega), ?_⟩
            have hdr : Below w.heap.size w2 w2.drew := ⟨rfl, rfl, rfl, Nat.le_refl _, fun _ _ => rfl⟩
            exact ((hbel2.trans hdr).trans (hbl3.mono hbel2.size)).setCell (by show w.heap.size ≤ w1.heap.size; omega) _
          case measure =>
            show (r.drop q).toArray.size < (c1 :: r).toArray.size
            simp; omega
  · have hz2 : ((c0.toNat : Int) == 48) = true := by rw [hz.1]; rfl
    have hz3 : ((((⟨(c0 :: l0).toArray⟩ : ByteArray)[0]).toNat : Int) == 48) = true := hz2
    have hz4 : (!c0 == 48 || !l0.isEmpty) = false := by rw [hz.1, hz.2]; rfl
    have HZ := Lib.hid hz
    clear hz
    go_enter Tryz.func51, Tryz.ntmps51
    go_wp2_with fail
    refine (HC.out _).mono ?_
    rintro e w1 ⟨rfl, hbl⟩
    have hb0 := below_box hbl (b := w.heap.size) (at_new rfl)
    have hbel : Below w.heap.size w w1 := ((Below.refl _ _).alloc (Nat.le_refl _) _).trans (hbl.mono (by simp))
    have hsz : w.heap.size + 1 ≤ w1.heap.size := by have := hbl.size; simp at this; omega
    clear hbl hz2 hz3 hz4 hi hsz0 HZ
    go_wp2_with fail
    generalize c0 :: l0 = L at *
    go_loopw [0] (fun s0 wr => ∃ (rest : List UInt8) (a : Nat) (ao : Option Addr) (n c : Nat), s0 = str rest ∧ Hid (ParseN L rest a) ∧ Hid (Nt wr (.slice ao n c) a) ∧ wr.heap[w1.heap.size]? = some (.cells #[.slice ao n c] 66 (0, 0)) ∧
          wr.heap[w.heap.size]? = some (.cells #[.slice none 0 0] 66 (0, 0)) ∧ Below w.heap.size w wr) (fun s0 _ => strLen s0)
    case atStart => exact ⟨L, 0, none, 0, 0, rfl, Lib.hid ⟨[], rfl, rfl⟩, Nt.nil _, at_new rfl, at_old hb0, hbel.alloc hbel.size _⟩
    case round =>
      obtain ⟨rest, a, ao, n, c, rfl, HP, HA, hb1, hb0, hbel⟩ := hrel
      have hc1 := box_cell (j := 0) hb1 rfl
      have hf1 := box_free (j := 0) hb1
      have hlr := HP.out.len
      cases rest with
      | nil =>
        have hfin := HP.out.done
        have HF := Lib.hid hfin
        have hce := box_cell (j := 0) hb0 rfl
        have hfr := box_free (j := 0) hb0
        clear hfin
        go_wp2_with fail
        refine post_box1 Tryz.results51 rfl rfl aggNat sizeNat rfl (box_set (j := 0) (.slice ao n c) hb0) rfl ⟨ao, n, c, rfl, ?_, hbel.setCell (Nat.le_refl _) _⟩
        rw [← HF.out]
        exact Row.set HA.out hb0 (by decide) _
      | cons c1 r =>
        have hl1 : ((c1 :: r).length : Int) = (r.length : Int) + 1 := by simp
        obtain ⟨q, hq⟩ : ∃ q, r.length % 9 = q := ⟨_, rfl⟩
        have hq8 : q ≤ 8 := by omega
        have hqr : q ≤ r.length := by rw [← hq]; exact Nat.mod_le _ _
        have hmod : (r.length : Int) % 9 = (q : Int) := by omega
        have HQ := Lib.hid hq
        clear hq
        have hp10 : ∀ i, i ≤ 9 → 10 ^ i ≤ 1000000000 := fun i hi => Nat.pow_le_pow_right (n := 10) (by omega) hi
        have HP10 := Lib.hid hp10
        clear hp10
        go_upto_block 2 with fail
        clear hmod
        go_cut [6] (fun s6 wx => ∃ p : Nat, s6 = .int .u32 (p : Int) ∧ p ≤ 1000000000 ∧ Hid (10 ^ (q + 1) = p) ∧ wx = wr)
        case first =>
          go_wp2_with fail
          go_loop [6, 34] (fun s6 s34 => ∃ (i p : Nat), i ≤ q + 1 ∧ p ≤ 1000000000 ∧ s6 = .int .u32 (p : Int) ∧ s34 = .int .i64 (i : Int) ∧ Hid (10 ^ i = p)) (fun _ s34 => q + 1 - (intOf s34).toNat)
          case atStart => exact ⟨0, 1, Nat.zero_le _, by omega, rfl, rfl, rfl⟩
          case round =>
            obtain ⟨i, p, hi, hp, rfl, rfl, HI⟩ := hrel
            by_cases hlt : i < q + 1
            · have hp2 : p * 10 ≤ 1000000000 := by
                have := HP10.out (i + 1) (by omega)
                rw [Nat.pow_succ, HI.out] at this
                exact this
              have HI2 : Hid (10 ^ (i + 1) = p * 10) := by
                show 10 ^ (i + 1) = p * 10
                rw [Nat.pow_succ, HI.out]
              go_wp2_with fail
              go_round
              case rel => exact ⟨i + 1, p * 10, by omega, hp2, by go_num, by go_num, HI2⟩
              case measure => simp [intOf]; omega
            · obtain rfl : i = q + 1 := by omega
              go_wp2_with fail
              go_meet
              exact ⟨p, rfl, hp, HI, rfl⟩
        case rest =>
          obtain ⟨p, rfl, hp, HI, rfl⟩ := hcut
          obtain ⟨C, hC⟩ : ∃ C, (c1 :: r).take (q + 1) = C := ⟨_, rfl⟩
          have hex : (⟨(c1 :: r).toArray⟩ : ByteArray).extract 0 (q + 1) = ⟨C.toArray⟩ := by rw [← hC]; exact extract_take _ _
          have hCl : C.length = q + 1 := by rw [← hC]; simp; omega
          have hCd : ∀ c ∈ C, Dec.isDig c = true := fun c hc => HP.out.rest HD.out c (by rw [← hC] at hc; exact List.mem_of_mem_take hc)
          have hcon := parse_chunk C wc (by intro e; rw [e] at hCl; simp at hCl) (by omega) hCd
          have hnum : Dec.num C < 1000000000 := Nat.lt_of_lt_of_le (Dec.num_lt C hCd) (by rw [hCl, HI.out]; exact hp)
          have hst := HP.out.step (q + 1)
          rw [hC, hCl, HI.out] at hst
          have HST := Lib.hid hst
          have HCON := Lib.hid hcon
          generalize Dec.num C = v at *
          clear hC hCl hCd hcon hst
          go_wp2_with fail
          refine HCON.out.mono ?_
          rintro e w2 ⟨rfl, hbl⟩
          have hb1' := below_box hbl hb1
          have hb0' := below_box hbl hb0
          have hc1' := box_cell (j := 0) hb1' rfl
          have hf1' := box_free (j := 0) hb1'
          have hbel2 := hbel.trans (hbl.mono hbel.size)
          have HA2 := Lib.hid (Row.below HA.out hbl)
          clear hb1 hb0 hc1 hf1 hbel HA hbl
          have hq1 : (0 : Int) ≤ (q : Int) + 1 := by omega
          have hq2 : (q : Int) + 1 ≤ ((c1 :: r).length : Int) := by omega
          have hq3 : (q : Int) + 1 ≤ (r.length : Int) + 1 := by omega
          have hex2 : (⟨(c1 :: r).toArray⟩ : ByteArray).extract (q + 1) (⟨(c1 :: r).toArray⟩ : ByteArray).size = ⟨((c1 :: r).drop (q + 1)).toArray⟩ := extract_drop _ _
          have hvm : (v : Int) % 4294967296 = (v : Int) := by omega
          go_upto_region 12 with fail
          have hstr : (⟨(c1 :: r).toArray⟩ : ByteArray).size = r.length + 1 := rfl
          have hsn : Limb.nl B32 a ≤ 1000000000000 := Nat.le_trans (HP.out.small HD.out) (by omega)
          have hsc := fun W' h => nat_scaled ao n c a p v W' h hsn (by omega) (by omega)
          have HSC := Lib.hid hsc
          clear hsc hsn
          have hvw : IntKind.u32.wrap (v : Int) = (v : Int) := Go.IntWalk.u32_in _ (by omega)
          clear hvm
          have HA3 : Hid (Nt w2.drew (.slice ao n c) a) := Row.below HA2.out (⟨rfl, rfl, rfl, Nat.le_refl _, fun _ _ => rfl⟩ : Below w2.heap.size w2 w2.drew)
          go_region_with (first | (go_at_call 69; refine (HSC.out _ HA3.out).mono ?_; rintro e w3 ⟨ao2, n2, c2, rfl, hN2, hbl3⟩; have hb1x := below_box hbl3 hb1'; have hb0x := below_box hbl3 hb0'; have hc1x := box_cell (j := 0) hb1x rfl; have hf1x := box_free (j := 0) hb1x))
          have hex3 : (⟨(c1 :: r).toArray⟩ : ByteArray).extract (q + 1) (r.length + 1) = ⟨((c1 :: r).drop (q + 1)).toArray⟩ := hex2
          go_simp
          clear hex hex2 hvw hl1
          refine ⟨?_, ?measure⟩
          (repeat apply Exists.intro)
          refine ⟨?rel, rfl⟩
          case rel =>
            refine ⟨r.drop q, a * p + v, ao2, n2, c2, rfl, HST, Lib.hid (Row.set hN2 hb1x (by decide) _), box_set (j := 0) _ hb1x, box_far _ hb0x (by show w.heap.size ≠ w1.heap.size; omega), ?_⟩
            have hdr : Below w.heap.size w2 w2.drew := ⟨rfl, rfl, rfl, Nat.le_refl _, fun _ _ => rfl⟩
            exact ((hbel2.trans hdr).trans (hbl3.mono hbel2.size)).setCell (by show w.heap.size ≤ w1.heap.size; omega) _
          case measure =>
            show (r.drop q).toArray.size < (c1 :: r).toArray.size
            simp; omega
end Go.Proofs.YtgpkbembdflnmaaGreatDoor
