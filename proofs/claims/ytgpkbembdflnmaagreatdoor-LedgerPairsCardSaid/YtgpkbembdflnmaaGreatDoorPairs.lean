/- Walk: the law LedgerPairs. -/
import Derived.Test.YtgpkbembdflnmaaGreatDoorTrial
import Derived.Test.YtgpkbembdflnmaaGreatDoorRefE
namespace Go.Proofs.YtgpkbembdflnmaaGreatDoor
open Go.RowKit
open Go.Lib (decDigits)

theorem numOf_numText (z : Int) : numOf (numText z) = some z := by
  unfold numText numOf
  by_cases hz : z < 0
  · simp only [if_pos hz, List.head?_cons, List.tail_cons, if_true]
    rw [if_pos (by rw [Dec.dec_good, Dec.num_dec]; simp; omega), Dec.num_dec]
    congr 1; omega
  · rw [if_neg hz, if_neg ?_, if_pos (Dec.dec_good _), Dec.num_dec]
    · congr 1; omega
    · intro h
      have hg := Dec.dec_good z.natAbs
      unfold Dec.good at hg
      simp only [Bool.and_eq_true] at hg
      cases hd : decDigits z.natAbs with
      | nil => rw [hd] at h; cases h
      | cons a l =>
        rw [hd] at h hg
        injection h with h
        have := List.all_eq_true.1 hg.1.2 a (by simp)
        rw [h] at this
        exact absurd this (by decide)

def nm (k : Nat) : List UInt8 := [UInt8.ofNat (97 + k)]

theorem acc_nm : ∀ k, k < 3 → account ⟨(nm k).toArray⟩ = true := by
  intro k hk
  match k, hk with
  | 0, _ => decide +kernel
  | 1, _ => decide +kernel
  | 2, _ => decide +kernel

theorem nm_inj {j k : Nat} (hj : j < 3) (hk : k < 3) (h : nm j = nm k) : j = k := by
  match j, k, hj, hk with
  | 0, 0, _, _ => rfl
  | 1, 1, _, _ => rfl
  | 2, 2, _, _ => rfl
  | 0, 1, _, _ => exact absurd h (by decide)
  | 0, 2, _, _ => exact absurd h (by decide)
  | 1, 0, _, _ => exact absurd h (by decide)
  | 1, 2, _, _ => exact absurd h (by decide)
  | 2, 0, _, _ => exact absurd h (by decide)
  | 2, 1, _, _ => exact absurd h (by decide)

/-- What a transfer comes to. -/
theorem read_pair (f t : Nat) (n : Int) (hf : f < 3) (ht : t < 3) :
    readM [(nm f, numText (-n)), (nm t, numText n)] = .ok ((fun k => (false || k == nm f) || k == nm t), (fun k => if k = nm t then (if nm t = nm f then 0 + -n else 0) + n else if k = nm f then 0 + -n else 0)) := by
  unfold readM
  rw [if_neg (by simp), if_neg (by simp)]
  simp only [readGo, acc_nm f hf, acc_nm t ht, numOf_numText]
  simp
  omega

theorem text_len (z : Int) (h : z.natAbs < 10000000000000000000000) : (numText z).length ≤ 100 := by
  have h1 := Dec.dec_length_le 21 z.natAbs (by simpa using h)
  unfold numText
  split
  · simp; omega
  · omega

/-- A slice of uint16 that came in. -/
structure U16s (w : World) (ao : Option Addr) (us : List Nat) : Prop where
  cells : ∀ j (h : j < us.length), ∃ g o, ao = some ⟨g, o, none⟩ ∧ g < w.heap.size ∧ w.cell? ⟨g, o + j, none⟩ = some (.int .u16 (us[j] : Int)) ∧ us[j] < 65536

/-- Where the balances stand. -/
structure PairAt (dom : List UInt8 → Bool) (bal : List UInt8 → Int) (Ws : List Int) (i : Nat) : Prop where
  len : Ws.length = 3
  eq : ∀ k, k < 3 → bal (nm k) = Ws.getD k 0
  dom : ∀ s, dom s = true → s = nm 0 ∨ s = nm 1 ∨ s = nm 2
  le : ∀ k, k < 3 → (Ws.getD k 0).natAbs ≤ i * 20000

theorem PairAt.start : PairAt (fun _ => false) (fun _ => 0) [0, 0, 0] 0 := by
  refine ⟨rfl, fun k hk => ?_, fun s h => (by cases h), fun k hk => ?_⟩
  · match k, hk with
    | 0, _ => rfl
    | 1, _ => rfl
    | 2, _ => rfl
  · match k, hk with
    | 0, _ => decide
    | 1, _ => decide
    | 2, _ => decide

theorem getD_set (l : List Int) (j k : Nat) (v : Int) (hj : j < l.length) : (l.set j v).getD k 0 = if k = j then v else l.getD k 0 := by
  simp only [List.getD, List.getElem?_set]
  by_cases h : j = k
  · subst h; simp [hj]
  · have h2 : ¬ k = j := fun e => h e.symm
    simp [h, h2]

theorem PairAt.step {dom : List UInt8 → Bool} {bal : List UInt8 → Int} {Ws : List Int} {i : Nat} (h : PairAt dom bal Ws i) {f t : Nat} (hf : f < 3) (ht : t < 3) {n : Int} (h0 : 0 ≤ n) (h1 : n ≤ 10000) :
    PairAt (fun k => dom k || ((false || k == nm f) || k == nm t)) (fun k => bal k + (if k = nm t then (if nm t = nm f then 0 + -n else 0) + n else if k = nm f then 0 + -n else 0))
      ((Ws.set f (Ws.getD f 0 - n)).set t ((Ws.set f (Ws.getD f 0 - n)).getD t 0 + n)) (i + 1) := by
  have hl := h.len
  have key : ∀ k, k < 3 → ((Ws.set f (Ws.getD f 0 - n)).set t ((Ws.set f (Ws.getD f 0 - n)).getD t 0 + n)).getD k 0 = Ws.getD k 0 + (if k = t then (if t = f then 0 + -n else 0) + n else if k = f then 0 + -n else 0) := by
    intro k hk
    rw [getD_set _ _ _ _ (by simp; omega), getD_set _ _ _ _ (by omega), getD_set _ _ _ _ (by omega)]
    by_cases e1 : k = t
    · subst e1
      by_cases e2 : k = f
      · subst e2; simp; omega
      · simp [e2]
    · by_cases e2 : k = f
      · subst e2; simp [e1]; omega
      · simp [e1, e2]
  have hinj : ∀ j k, j < 3 → k < 3 → (nm j = nm k ↔ j = k) := fun j k hj hk => ⟨nm_inj hj hk, fun e => by rw [e]⟩
  refine ⟨by simp [hl], fun k hk => ?_, fun s hs => ?_, fun k hk => ?_⟩
  · rw [key k hk, h.eq k hk]
    simp only [hinj k t hk ht, hinj k f hk hf, hinj t f ht hf]
  · simp only [Bool.or_eq_true, Bool.false_or, beq_iff_eq] at hs
    have hn : ∀ k, k < 3 → s = nm k → s = nm 0 ∨ s = nm 1 ∨ s = nm 2 := by
      intro k hk e
      match k, hk with
      | 0, _ => exact .inl e
      | 1, _ => exact .inr (.inl e)
      | 2, _ => exact .inr (.inr e)
    rcases hs with hs | hs | hs
    · exact h.dom s hs
    · exact hn f hf hs
    · exact hn t ht hs
  · rw [key k hk]
    have := h.le k hk
    split
    · split <;> omega
    · split <;> omega
end Go.Proofs.YtgpkbembdflnmaaGreatDoor
