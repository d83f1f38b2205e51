/- Decimal numerals: plain mathematics, no program. -/
import Derived.Lib.ItoaNum
namespace Dec
open Go.Lib (decDigits)

theorem snoc_ind {α : Type} {P : List α → Prop} (nil : P []) (snoc : ∀ l c, P l → P (l ++ [c])) (l : List α) : P l := by
  have : ∀ m : List α, P m.reverse := by
    intro m
    induction m with
    | nil => exact nil
    | cons c m ih => rw [List.reverse_cons]; exact snoc _ _ ih
  have h := this l.reverse
  rwa [List.reverse_reverse] at h

theorem head_append {α : Type} {l : List α} (m : List α) (h : l ≠ []) : (l ++ m).head? = l.head? := by
  cases l with
  | nil => exact absurd rfl h
  | cons a l => rfl

def dig (d : Nat) : UInt8 := UInt8.ofNat (48 + d)

theorem dec_lt {u : Nat} (h : u < 10) : decDigits u = [dig u] := by rw [decDigits, dif_pos h]; rfl
theorem dec_ge {u : Nat} (h : ¬ u < 10) : decDigits u = decDigits (u / 10) ++ [dig (u % 10)] := by rw [decDigits, dif_neg h]; rfl

/-- The lowest k digits, noughts too. -/
def pad : Nat → Nat → List UInt8
  | 0, _ => []
  | k + 1, r => pad k (r / 10) ++ [dig (r % 10)]

theorem pad_length (k r : Nat) : (pad k r).length = k := by
  induction k generalizing r with
  | zero => rfl
  | succ k ih => simp [pad, ih]

theorem dec_cut (k : Nat) : ∀ (q r : Nat), 0 < q → r < 10 ^ k → decDigits (q * 10 ^ k + r) = decDigits q ++ pad k r := by
  induction k with
  | zero => intro q r _ hr; have : r = 0 := by simpa using hr
            subst this; simp [pad]
  | succ k ih =>
    intro q r hq hr
    rw [Nat.pow_succ] at hr
    have hp : 0 < 10 ^ k := Nat.pow_pos (by omega)
    have e : q * 10 ^ (k + 1) + r = 10 * (q * 10 ^ k + r / 10) + r % 10 := by
      rw [Nat.pow_succ, Nat.mul_add, ← Nat.mul_assoc, Nat.mul_comm 10 (q * 10 ^ k), Nat.mul_assoc]
      have := Nat.div_add_mod r 10
      omega
    have h1 : 0 < q * 10 ^ k := Nat.mul_pos hq hp
    rw [dec_ge (by omega), e]
    have e1 : (10 * (q * 10 ^ k + r / 10) + r % 10) / 10 = q * 10 ^ k + r / 10 := by omega
    have e2 : (10 * (q * 10 ^ k + r / 10) + r % 10) % 10 = r % 10 := by omega
    rw [e1, e2, ih q (r / 10) hq (by omega)]
    simp [pad]

theorem pad_zero (k : Nat) : pad k 0 = List.replicate k 48 := by
  induction k with
  | zero => rfl
  | succ k ih =>
    simp only [pad, Nat.zero_div, ih, Nat.zero_mod]
    rw [List.replicate_succ']
    rfl

theorem dec_length_le (k : Nat) : ∀ r, r < 10 ^ (k + 1) → (decDigits r).length ≤ k + 1 := by
  induction k with
  | zero => intro r hr; rw [dec_lt (by simpa using hr)]; simp
  | succ k ih =>
    intro r hr
    by_cases h : r < 10
    · rw [dec_lt h]; simp
    · rw [dec_ge h]
      have := ih (r / 10) (by rw [Nat.pow_succ] at hr; omega)
      simp; omega

theorem dec_length_pos (r : Nat) : 0 < (decDigits r).length := by
  by_cases h : r < 10
  · rw [dec_lt h]; simp
  · rw [dec_ge h]; simp

/-- The numeral with noughts ahead of it. -/
theorem pad_dec (k : Nat) : ∀ r, r < 10 ^ (k + 1) → List.replicate (k + 1 - (decDigits r).length) 48 ++ decDigits r = pad (k + 1) r := by
  induction k with
  | zero =>
    intro r hr
    have h : r < 10 := by simpa using hr
    rw [dec_lt h]
    simp [pad, Nat.mod_eq_of_lt h]
  | succ k ih =>
    intro r hr
    by_cases h : r < 10
    · rw [dec_lt h]
      have e : r / 10 = 0 := by omega
      rw [pad, e, pad_zero, Nat.mod_eq_of_lt h]
      simp
    · have hr' : r / 10 < 10 ^ (k + 1) := by rw [Nat.pow_succ] at hr; omega
      rw [pad, ← ih _ hr', dec_ge h]
      simp only [List.length_append, List.length_cons, List.length_nil]
      rw [show k + 1 + 1 - ((decDigits (r / 10)).length + (0 + 1)) = k + 1 - (decDigits (r / 10)).length by omega]
      simp [List.append_assoc]

/-- What is read off digits. -/
def num (l : List UInt8) : Nat := l.foldl (fun n c => n * 10 + (c.toNat - 48)) 0

def isDig (c : UInt8) : Bool := 48 ≤ c.toNat && c.toNat ≤ 57

theorem num_snoc (l : List UInt8) (c : UInt8) : num (l ++ [c]) = num l * 10 + (c.toNat - 48) := by simp [num]

theorem num_append (l m : List UInt8) : num (l ++ m) = num l * 10 ^ m.length + num m := by
  induction m using snoc_ind with
  | nil => simp [num]
  | snoc m c ih =>
    rw [← List.append_assoc, num_snoc, num_snoc, ih]
    simp only [List.length_append, List.length_cons, List.length_nil, Nat.zero_add, Nat.pow_succ]
    rw [Nat.add_mul, Nat.mul_assoc]
    omega

theorem dig_toNat {d : Nat} (h : d < 10) : (dig d).toNat = 48 + d := by
  unfold dig
  rw [UInt8.toNat_ofNat']
  omega

theorem num_dec (n : Nat) : num (decDigits n) = n := by
  induction n using Nat.strongRecOn with
  | _ n ih =>
    by_cases h : n < 10
    · rw [dec_lt h]
      have := dig_toNat h
      simp [num, this]
    · rw [dec_ge h, num_snoc, ih _ (by omega), dig_toNat (Nat.mod_lt _ (by omega))]
      omega

theorem dec_digits (n : Nat) : ∀ c ∈ decDigits n, isDig c = true := by
  induction n using Nat.strongRecOn with
  | _ n ih =>
    by_cases h : n < 10
    · rw [dec_lt h]
      intro c hc
      simp at hc
      subst hc
      simp [isDig, dig_toNat h]
      omega
    · rw [dec_ge h]
      intro c hc
      rcases List.mem_append.1 hc with hc | hc
      · exact ih _ (by omega) c hc
      · simp at hc
        subst hc
        have := Nat.mod_lt n (show 0 < 10 by omega)
        simp [isDig, dig_toNat this]
        omega

/-- A text of digits is a number's: just one nought, or none ahead. -/
def good (l : List UInt8) : Bool := !l.isEmpty && l.all isDig && (l == [48] || l.head? != some 48)

theorem dec_head (n : Nat) (hn : 0 < n) : (decDigits n).head? ≠ some 48 := by
  induction n using Nat.strongRecOn with
  | _ n ih =>
    by_cases h : n < 10
    · rw [dec_lt h]
      simp only [List.head?_cons, ne_eq, Option.some.injEq]
      intro e
      have := congrArg UInt8.toNat e
      rw [dig_toNat h] at this
      simp at this
      omega
    · rw [dec_ge h]
      have hne : decDigits (n / 10) ≠ [] := by
        have := dec_length_pos (n / 10)
        intro e; rw [e] at this; simp at this
      rw [head_append _ hne]
      exact ih _ (by omega) (by omega)

theorem dec_good (n : Nat) : good (decDigits n) = true := by
  have h1 : (decDigits n).isEmpty = false := by
    have := dec_length_pos n
    cases h : decDigits n with
    | nil => rw [h] at this; simp at this
    | cons a l => rfl
  have h2 : (decDigits n).all isDig = true := by rw [List.all_eq_true]; exact dec_digits n
  unfold good
  rw [h1, h2]
  by_cases h : n = 0
  · subst h
    rw [dec_lt (by omega)]
    rfl
  · have := dec_head n (by omega)
    simp [this]

theorem dig_of {c : UInt8} (h : isDig c = true) : c = dig (c.toNat - 48) ∧ c.toNat - 48 < 10 := by
  simp [isDig] at h
  refine ⟨?_, by omega⟩
  apply UInt8.toNat_inj.1
  rw [dig_toNat (by omega)]
  omega

/-- A good text is the numeral of what is read off it. -/
theorem dec_num : ∀ (l : List UInt8), good l = true → decDigits (num l) = l := by
  intro l
  induction l using snoc_ind with
  | nil => intro h; simp [good] at h
  | snoc l c ih =>
    intro h
    by_cases hl : l = []
    · subst hl
      have hd : isDig c = true := by
        cases hd : isDig c with
        | true => rfl
        | false => simp [good, hd] at h
      obtain ⟨e, hc⟩ := dig_of hd
      rw [List.nil_append, show num [c] = c.toNat - 48 by simp [num], dec_lt hc, ← e]
    · have hg : good l = true ∧ isDig c = true ∧ l ≠ [48] := by
        unfold good at h ⊢
        simp only [Bool.and_eq_true, List.all_append, List.all_cons, List.all_nil, Bool.and_true, Bool.or_eq_true] at h
        obtain ⟨⟨_, h2, h3⟩, h4⟩ := h
        have hne : l.isEmpty = false := by cases l with
          | nil => exact absurd rfl hl
          | cons a l => rfl
        have hh : (l ++ [c]).head? = l.head? := head_append _ hl
        rw [hh] at h4
        have h5 : (l.head? != some 48) = true := by
          rcases h4 with h4 | h4
          · have := congrArg List.length (eq_of_beq h4)
            cases l with
            | nil => exact absurd rfl hl
            | cons a l => simp at this
          · exact h4
        refine ⟨by rw [hne, h2, h5]; simp, h3, ?_⟩
        rintro rfl
        simp at h5
      obtain ⟨hg, hc, hne⟩ := hg
      obtain ⟨e, hc'⟩ := dig_of hc
      have ih' := ih hg
      have hpos : 0 < num l := by
        rcases Nat.eq_zero_or_pos (num l) with h0 | h0
        · rw [h0, dec_lt (by omega)] at ih'
          exact absurd ih'.symm hne
        · exact h0
      rw [num_snoc, dec_ge (by omega)]
      have e1 : (num l * 10 + (c.toNat - 48)) / 10 = num l := by omega
      have e2 : (num l * 10 + (c.toNat - 48)) % 10 = c.toNat - 48 := by omega
      rw [e1, e2, ih', ← e]

theorem dec_inj {a b : Nat} (h : decDigits a = decDigits b) : a = b := by
  have := congrArg num h
  rwa [num_dec, num_dec] at this

theorem num_lt (l : List UInt8) (h : ∀ c ∈ l, isDig c = true) : num l < 10 ^ l.length := by
  induction l using snoc_ind with
  | nil => simp [num]
  | snoc l c ih =>
    have h1 := ih (fun d hd => h d (by simp [hd]))
    have h2 := (dig_of (h c (by simp))).2
    rw [num_snoc]
    simp only [List.length_append, List.length_cons, List.length_nil, Nat.zero_add, Nat.pow_succ]
    omega
end Dec
