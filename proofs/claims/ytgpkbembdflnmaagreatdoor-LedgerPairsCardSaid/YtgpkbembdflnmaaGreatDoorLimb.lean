/- Numbers as limbs to a base, the lowest first: plain mathematics, no program. -/
namespace Limb

def val (b : Nat) : List Nat → Nat
  | [] => 0
  | x :: l => x + b * val b l

def limbs (b : Nat) (x : Nat) : List Nat :=
  if x = 0 ∨ b < 2 then [] else x % b :: limbs b (x / b)
termination_by x
decreasing_by exact Nat.div_lt_self (by omega) (by omega)

/-- How many of the first n are left when no nought is the last. -/
def keep (l : List Nat) : Nat → Nat
  | 0 => 0
  | n + 1 => if l.getD n 0 = 0 then keep l n else n + 1

theorem keep_le (l : List Nat) (n : Nat) : keep l n ≤ n := by
  induction n with
  | zero => simp [keep]
  | succ n ih => simp only [keep]; split <;> omega

theorem limbs_zero (b : Nat) : limbs b 0 = [] := by rw [limbs]; simp
theorem limbs_pos {b x : Nat} (hb : 2 ≤ b) (hx : x ≠ 0) : limbs b x = x % b :: limbs b (x / b) := by
  rw [limbs, if_neg (by omega)]

theorem val_limbs {b : Nat} (hb : 2 ≤ b) (x : Nat) : val b (limbs b x) = x := by
  induction x using Nat.strongRecOn with
  | _ x ih =>
    by_cases h : x = 0
    · subst h; rw [limbs_zero]; rfl
    · rw [limbs_pos hb h, val, ih _ (Nat.div_lt_self (by omega) (by omega))]
      exact Nat.mod_add_div x b

theorem limbs_lt {b : Nat} (hb : 2 ≤ b) (x : Nat) : ∀ d ∈ limbs b x, d < b := by
  induction x using Nat.strongRecOn with
  | _ x ih =>
    by_cases h : x = 0
    · subst h; rw [limbs_zero]; intro d hd; cases hd
    · rw [limbs_pos hb h]
      intro d hd
      rcases List.mem_cons.1 hd with rfl | hd
      · exact Nat.mod_lt _ (by omega)
      · exact ih _ (Nat.div_lt_self (by omega) (by omega)) d hd

theorem limbs_nil {b x : Nat} (hb : 2 ≤ b) : limbs b x = [] ↔ x = 0 := by
  constructor
  · intro h
    by_cases e : x = 0
    · exact e
    · rw [limbs_pos hb e] at h; cases h
  · rintro rfl; exact limbs_zero b

theorem val_append (b : Nat) (l m : List Nat) : val b (l ++ m) = val b l + b ^ l.length * val b m := by
  induction l with
  | nil => simp [val]
  | cons x l ih =>
    simp only [List.cons_append, val, ih, List.length_cons, Nat.pow_succ]
    rw [Nat.mul_add, Nat.mul_comm (b ^ l.length) b, Nat.mul_assoc, Nat.add_assoc]

theorem val_replicate (b n : Nat) : val b (List.replicate n 0) = 0 := by
  induction n with
  | zero => rfl
  | succ n ih => simp [List.replicate_succ, val, ih]

theorem val_lt {b : Nat} : ∀ (l : List Nat), (∀ d ∈ l, d < b) → val b l < b ^ l.length := by
  intro l
  induction l with
  | nil => intro _; simp [val]
  | cons x l ih =>
    intro h
    have h1 := h x (by simp)
    have h2 := ih (fun d hd => h d (by simp [hd]))
    simp only [val, List.length_cons, Nat.pow_succ]
    have : b * (val b l + 1) ≤ b * b ^ l.length := Nat.mul_le_mul_left b h2
    rw [Nat.mul_add, Nat.mul_one] at this
    rw [Nat.mul_comm (b ^ l.length) b]
    omega

theorem val_take_succ (b : Nat) (l : List Nat) (k : Nat) (h : k < l.length) : val b (l.take (k + 1)) = val b (l.take k) + b ^ k * l.getD k 0 := by
  rw [List.take_add_one, List.getElem?_eq_getElem h, val_append]
  simp [val, List.getD, h, Nat.min_eq_left (Nat.le_of_lt h)]

/-- Behind the end there are noughts. -/
theorem val_take_next (b : Nat) (l : List Nat) (k : Nat) : val b (l.take (k + 1)) = val b (l.take k) + b ^ k * l.getD k 0 := by
  by_cases h : k < l.length
  · exact val_take_succ b l k h
  · rw [List.take_of_length_le (by omega), List.take_of_length_le (by omega)]
    simp [List.getD, Nat.le_of_not_lt h]

theorem val_snoc (b : Nat) (l : List Nat) (x : Nat) : val b (l ++ [x]) = val b l + b ^ l.length * x := by
  rw [val_append]; simp [val]

theorem getD_lt {b : Nat} (hb : 2 ≤ b) {l : List Nat} (h : ∀ d ∈ l, d < b) (k : Nat) : l.getD k 0 < b := by
  by_cases hk : k < l.length
  · have : l.getD k 0 = l[k] := by simp [List.getD, hk]
    rw [this]; exact h _ (List.getElem_mem hk)
  · have : l.getD k 0 = 0 := by simp [List.getD, Nat.le_of_not_lt hk]
    omega

/-- A list without a nought at its end is the limbs of its value. -/
theorem limbs_val {b : Nat} (hb : 2 ≤ b) : ∀ (l : List Nat), (∀ d ∈ l, d < b) → (l ≠ [] → l.getLast? ≠ some 0) → limbs b (val b l) = l := by
  intro l
  induction l with
  | nil => intro _ _; exact limbs_zero b
  | cons x l ih =>
    intro h hl
    have hx := h x (by simp)
    have ih' := ih (fun d hd => h d (by simp [hd])) (fun hne => by
      have := hl (by simp)
      cases l with
      | nil => exact absurd rfl hne
      | cons y l => simpa using this)
    have hv : val b (x :: l) ≠ 0 := by
      simp only [val]
      intro e
      cases l with
      | nil =>
        have := hl (by simp)
        simp at this
        omega
      | cons y l =>
        have e1 : val b (y :: l) = 0 := by
          rcases Nat.eq_zero_or_pos (val b (y :: l)) with h0 | h0
          · exact h0
          · have := Nat.mul_le_mul (Nat.le_of_lt hb) h0
            omega
        rw [e1, limbs_zero] at ih'
        cases ih'
    rw [limbs_pos hb hv]
    simp only [val]
    have e1 : (x + b * val b l) % b = x := by rw [Nat.add_mul_mod_self_left]; exact Nat.mod_eq_of_lt hx
    have e2 : (x + b * val b l) / b = val b l := by
      rw [Nat.add_mul_div_left _ _ (by omega), Nat.div_eq_of_lt hx]; omega
    rw [e1, e2, ih']

theorem keep_val (b : Nat) (l : List Nat) (n : Nat) (hn : n ≤ l.length) : val b (l.take (keep l n)) = val b (l.take n) := by
  induction n with
  | zero => rfl
  | succ n ih =>
    simp only [keep]
    split
    · rename_i h0
      rw [ih (by omega), val_take_succ b l n (by omega), h0]
      simp
    · rfl

theorem keep_last (l : List Nat) (n : Nat) (hn : n ≤ l.length) : l.take (keep l n) ≠ [] → (l.take (keep l n)).getLast? ≠ some 0 := by
  induction n with
  | zero => simp [keep]
  | succ n ih =>
    simp only [keep]
    split
    · exact ih (by omega)
    · rename_i h0
      intro _
      rw [List.getLast?_eq_getElem?]
      have hlen : (l.take (n + 1)).length = n + 1 := by simp; omega
      rw [hlen]
      have : n < l.length := by omega
      simp only [Nat.add_sub_cancel]
      rw [List.getElem?_take, if_pos (by omega), List.getElem?_eq_getElem this]
      simpa [List.getD, this] using h0

/-- What 'trim' leaves is the limbs of the value. -/
theorem limbs_trim {b : Nat} (hb : 2 ≤ b) (l : List Nat) (h : ∀ d ∈ l, d < b) : limbs b (val b l) = l.take (keep l l.length) := by
  have e := keep_val b l l.length (Nat.le_refl _)
  rw [List.take_length] at e
  rw [← e]
  exact limbs_val hb _ (fun d hd => h d (List.mem_of_mem_take hd)) (keep_last l _ (Nat.le_refl _))

theorem limbs_trim' {b : Nat} (hb : 2 ≤ b) {l : List Nat} {x : Nat} (hx : val b l = x) (h : ∀ d ∈ l, d < b) : limbs b x = l.take (keep l l.length) := by
  rw [← hx]; exact limbs_trim hb l h

/-- How many limbs. -/
def nl (b x : Nat) : Nat := (limbs b x).length

theorem nl_le {b : Nat} (hb : 2 ≤ b) : ∀ (n x : Nat), x < b ^ n → nl b x ≤ n := by
  intro n
  induction n with
  | zero =>
    intro x hx
    have : x = 0 := by simpa using hx
    subst this
    simp [nl, limbs_zero]
  | succ n ih =>
    intro x hx
    by_cases h : x = 0
    · subst h; simp [nl, limbs_zero]
    · have h1 := ih (x / b) (by
        rw [Nat.div_lt_iff_lt_mul (by omega)]
        rwa [Nat.pow_succ] at hx)
      unfold nl at *
      rw [limbs_pos hb h]
      simp
      omega

theorem lt_pow_nl {b : Nat} (hb : 2 ≤ b) (x : Nat) : x < b ^ nl b x := by
  have := val_lt (limbs b x) (limbs_lt hb x)
  rwa [val_limbs hb] at this

theorem nl_mono {b : Nat} (hb : 2 ≤ b) {x y : Nat} (h : x ≤ y) : nl b x ≤ nl b y :=
  nl_le hb _ _ (Nat.lt_of_le_of_lt h (lt_pow_nl hb y))

theorem nl_add {b : Nat} (hb : 2 ≤ b) (x y : Nat) : nl b (x + y) ≤ max (nl b x) (nl b y) + 1 := by
  refine nl_le hb _ _ ?_
  have h1 := lt_pow_nl hb x
  have h2 := lt_pow_nl hb y
  have h3 : b ^ nl b x ≤ b ^ max (nl b x) (nl b y) := Nat.pow_le_pow_right (by omega) (Nat.le_max_left _ _)
  have h4 : b ^ nl b y ≤ b ^ max (nl b x) (nl b y) := Nat.pow_le_pow_right (by omega) (Nat.le_max_right _ _)
  rw [Nat.pow_succ]
  have : b ^ max (nl b x) (nl b y) * 2 ≤ b ^ max (nl b x) (nl b y) * b := Nat.mul_le_mul_left _ hb
  omega

theorem nl_mul {b : Nat} (hb : 2 ≤ b) (x y : Nat) : nl b (x * y) ≤ nl b x + nl b y := by
  refine nl_le hb _ _ ?_
  have h1 := lt_pow_nl hb x
  have h2 := lt_pow_nl hb y
  rw [Nat.pow_add]
  exact Nat.mul_lt_mul_of_lt_of_le h1 (Nat.le_of_lt h2) (by omega)

theorem pow_nl_le {b : Nat} (hb : 2 ≤ b) {x : Nat} (hx : x ≠ 0) : b ^ (nl b x - 1) ≤ x := by
  rcases Nat.lt_or_ge x (b ^ (nl b x - 1)) with h | h
  · have := nl_le hb _ _ h
    have : nl b x ≠ 0 := by
      intro e
      have : limbs b x = [] := List.length_eq_zero_iff.1 e
      exact hx ((limbs_nil hb).1 this)
    omega
  · exact h

theorem getD_set (l : List Nat) (i j x : Nat) (hi : i < l.length) : (l.set i x).getD j 0 = if j = i then x else l.getD j 0 := by
  simp only [List.getD, List.getElem?_set]
  by_cases h : i = j
  · subst h; simp [hi]
  · simp [h, Ne.symm h]

theorem take_set_succ (l : List Nat) (i x : Nat) (hi : i < l.length) : (l.set i x).take (i + 1) = l.take i ++ [x] := by
  rw [List.take_add_one, List.getElem?_set_self hi, List.take_set_of_le (Nat.le_refl i)]
  rfl

theorem val_take_set (b : Nat) (l : List Nat) (i x : Nat) (hi : i < l.length) : val b ((l.set i x).take (i + 1)) = val b (l.take i) + b ^ i * x := by
  rw [take_set_succ l i x hi, val_snoc]
  simp [Nat.min_eq_left (Nat.le_of_lt hi)]

theorem val_split (b : Nat) (l : List Nat) (k : Nat) : val b l = val b (l.take k) + b ^ (l.take k).length * val b (l.drop k) := by
  rw [← val_append, List.take_append_drop]

theorem drop_ext {l m : List Nat} (hl : l.length = m.length) (k : Nat) (h : ∀ j, k ≤ j → j < l.length → l.getD j 0 = m.getD j 0) : l.drop k = m.drop k := by
  apply List.ext_getElem
  · simp [hl]
  · intro j h1 h2
    simp only [List.length_drop] at h1 h2
    have := h (k + j) (by omega) (by omega)
    simp only [List.getD, List.getElem?_eq_getElem (show k + j < l.length by omega), List.getElem?_eq_getElem (show k + j < m.length by omega), Option.getD_some] at this
    simpa using this

/-- The highest limb that differs decides. -/
theorem lt_at {b : Nat} {l m : List Nat} (hl : l.length = m.length) (hlt : ∀ d ∈ l, d < b) (i : Nat) (hi : i < l.length) (h : ∀ j, i < j → j < l.length → l.getD j 0 = m.getD j 0)
    (hd : l.getD i 0 < m.getD i 0) : val b l < val b m := by
  have e := drop_ext hl (i + 1) (fun j h1 h2 => h j (by omega) h2)
  rw [val_split b l (i + 1), val_split b m (i + 1), e]
  have e1 : (l.take (i + 1)).length = (m.take (i + 1)).length := by simp [hl]
  rw [e1, val_take_next, val_take_next]
  have h1 := val_lt (l.take i) (fun d hd => hlt d (List.mem_of_mem_take hd))
  have h2 : (l.take i).length = i := by simp; omega
  rw [h2] at h1
  have h3 : b ^ i * (l.getD i 0 + 1) ≤ b ^ i * m.getD i 0 := Nat.mul_le_mul_left _ hd
  rw [Nat.mul_add, Nat.mul_one] at h3
  omega

theorem eq_all {l m : List Nat} (hl : l.length = m.length) (h : ∀ j, j < l.length → l.getD j 0 = m.getD j 0) : l = m := by
  have := drop_ext hl 0 (fun j _ => h j)
  simpa using this

theorem lt_of_nl {b : Nat} (hb : 2 ≤ b) {x y : Nat} (h : nl b x < nl b y) : x < y := by
  rcases Nat.lt_or_ge x y with h' | h'
  · exact h'
  · have := nl_mono hb h'; omega

theorem inj {b : Nat} (hb : 2 ≤ b) {x y : Nat} (h : limbs b x = limbs b y) : x = y := by
  have := congrArg (val b) h
  rwa [val_limbs hb, val_limbs hb] at this

theorem val_drop {b : Nat} {l : List Nat} {k : Nat} (h : k < l.length) : val b (l.drop k) = l.getD k 0 + b * val b (l.drop (k + 1)) := by
  rw [List.drop_eq_getElem_cons h]
  simp [val, List.getD, h]

theorem val_drop_set {b : Nat} {l : List Nat} {k x : Nat} (h : k < l.length) : val b ((l.set k x).drop k) = x + b * val b (l.drop (k + 1)) := by
  rw [val_drop (by simpa using h), getD_set _ _ _ _ h, List.drop_set]
  simp

/-- The highest limb is no nought. -/
theorem limbs_top {b : Nat} (hb : 2 ≤ b) : ∀ (x q : Nat), x ≠ 0 → (limbs b x).length = q + 1 → (limbs b x).getD q 0 ≠ 0 := by
  intro x
  induction x using Nat.strongRecOn with
  | _ x ih =>
    intro q hx hq
    rw [limbs_pos hb hx] at hq ⊢
    simp only [List.length_cons] at hq
    by_cases h0 : x / b = 0
    · have hq0 : q = 0 := by rw [h0, limbs_zero] at hq; simp at hq; omega
      subst hq0
      simp only [List.getD_cons_zero]
      have := Nat.div_add_mod x b
      rw [h0] at this
      omega
    · cases q with
      | zero =>
        have : limbs b (x / b) = [] := List.length_eq_zero_iff.1 (by omega)
        exact absurd ((limbs_nil hb).1 this) h0
      | succ q =>
        simp only [List.getD_cons_succ]
        exact ih _ (Nat.div_lt_self (by omega) (by omega)) q h0 (by omega)

def cmp (x y : Nat) : Int := if x < y then -1 else if x = y then 0 else 1
theorem cmp_lt {x y : Nat} (h : x < y) : cmp x y = -1 := by simp [cmp, h]
theorem cmp_eq {x y : Nat} (h : x = y) : cmp x y = 0 := by simp [cmp, h]
theorem cmp_gt {x y : Nat} (h : y < x) : cmp x y = 1 := by
  unfold cmp; rw [if_neg (by omega), if_neg (by omega)]

end Limb
