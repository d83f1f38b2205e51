/- What the reference's Text uses: digits the lowest first; rows of bytes. -/
import Derived.Test.YtgpkbembdflnmaaGreatDoorRefB
import Derived.Test.YtgpkbembdflnmaaGreatDoorStr
import Derived.Test.YtgpkbembdflnmaaGreatDoorDec
import Derived.Laws.BytesString
namespace Go.Proofs.YtgpkbembdflnmaaGreatDoor
open Go.RowKit
open Go.Lib (decDigits)

/-- The lowest k digits, the lowest first. -/
def low : Nat → Nat → List UInt8
  | 0, _ => []
  | k + 1, d => low k d ++ [Dec.dig (d / 10 ^ k % 10)]

theorem low_length (k d : Nat) : (low k d).length = k := by
  induction k with
  | zero => rfl
  | succ k ih => simp [low, ih]

theorem low_succ (k : Nat) : ∀ d, low (k + 1) d = Dec.dig (d % 10) :: low k (d / 10) := by
  induction k with
  | zero => intro d; simp [low]
  | succ k ih =>
    intro d
    rw [low, ih d]
    show _ = Dec.dig (d % 10) :: (low k (d / 10) ++ [Dec.dig (d / 10 / 10 ^ k % 10)])
    rw [Nat.div_div_eq_div_mul, show 10 * 10 ^ k = 10 ^ (k + 1) by rw [Nat.pow_succ, Nat.mul_comm]]
    rfl

theorem low_rev (k : Nat) : ∀ d, (low k d).reverse = Dec.pad k d := by
  induction k with
  | zero => intro d; rfl
  | succ k ih => intro d; rw [low_succ, List.reverse_cons, ih]; rfl

theorem dec_lt_pow (d : Nat) : d < 10 ^ (decDigits d).length := by
  have h1 := Dec.num_lt (decDigits d)
  have h2 := Dec.num_dec d
  rw [h2] at h1
  refine h1 ?_
  have := Dec.dec_good d
  unfold Dec.good at this
  simp only [Bool.and_eq_true] at this
  exact List.all_eq_true.1 this.1.2

/-- Just as many digits as there are. -/
theorem pad_exact {k d : Nat} (h1 : d < 10 ^ (k + 1)) (h2 : 10 ^ k ≤ d) : Dec.pad (k + 1) d = decDigits d := by
  rw [← Dec.pad_dec k d h1]
  have h3 := Dec.dec_length_le k d h1
  have h4 := dec_lt_pow d
  have h5 : k < (decDigits d).length := by
    rcases Nat.lt_or_ge k (decDigits d).length with h | h
    · exact h
    · have := Nat.pow_le_pow_right (n := 10) (by omega) h
      omega
  rw [show k + 1 - (decDigits d).length = 0 by omega]
  rfl

/-- What of a number's text is there: l its last bytes, the last first; a is what is left of it. -/
def TextR (x a : Nat) (l : List UInt8) : Prop := decDigits x = (if a = 0 then [] else decDigits a) ++ l.reverse

theorem TextR.more {x a : Nat} {l : List UInt8} (h : TextR x a l) (ha : a ≠ 0) (hq : a / B9 ≠ 0) : TextR x (a / B9) (l ++ low 9 (a % B9)) := by
  unfold TextR at *
  rw [h, if_neg ha, if_neg hq, List.reverse_append, low_rev, ← List.append_assoc, ← Dec.dec_cut 9 _ _ (Nat.pos_of_ne_zero hq) (Nat.mod_lt _ (by decide))]
  congr 2
  have := Nat.div_add_mod a B9
  rw [Nat.mul_comm] at this
  exact this.symm

theorem TextR.last {x a k : Nat} {l : List UInt8} (h : TextR x a l) (h1 : a < 10 ^ (k + 1)) (h2 : 10 ^ k ≤ a) : TextR x 0 (l ++ low (k + 1) a) := by
  unfold TextR at *
  have hp : 0 < 10 ^ k := Nat.pow_pos (by omega)
  rw [h, if_neg (by omega), if_pos rfl, List.reverse_append, low_rev, pad_exact h1 h2]
  simp

theorem TextR.done {x : Nat} {l : List UInt8} (h : TextR x 0 l) : l.reverse = decDigits x := by
  unfold TextR at h
  rw [h, if_pos rfl]; simp

def u8s (l : List UInt8) : List Value := l.map fun b => Value.int .u8 (b.toNat : Int)

/-- A slice of bytes of the call's own. -/
def BRow (w : World) (base : Nat) (v : Value) (l : List UInt8) : Prop := w.ownsRow base 5 1 v l.length (u8s l)

theorem BRow.kept {w w' : World} {base : Nat} {v : Value} {l : List UInt8} (h : BRow w base v l) (hb : Below w.heap.size w w') : BRow w' base v l := by
  refine World.ownsRow.kept (row := none) h ⟨hb.os, hb.tape, hb.output, hb.size, fun k hk _ => hb.block k hk⟩ ?_
  cases h' : v.ownBlock
  · exact .inl rfl
  · exact .inr (by simp)
theorem BRow.lt {w : World} {base : Nat} {v : Value} {l : List UInt8} (h : BRow w base v l) : ∀ k, v.ownBlock = some k → base ≤ k ∧ k < w.heap.size := World.ownsRow.lt h

theorem u8info : (Tryz.prog.info? 5).map (fun i => (i.zero, i.size, i.bytes)) = some (some (.int .u8 0), 1, 1) := by kernel_rfl

theorem append_byte {W : World} {ops : Array Oper} {rest : List Oper} {o : Oper} {a : Act} {Q : Exit → Act → World → Prop} (hgd : o.guard = none) (s x : Operand)
    (hop : o.op = .call { callee := .builtin .append, args := #[s, x], argTypes := #[87, 87] }) (base : Nat) (v : Value) (ps : List UInt8) (l : UInt8)
    (hs : a.eval s = v) (hx : a.eval x = .slice (some ⟨W.heap.size, 0, none⟩) 1 1) (hown : BRow W base v ps) (hn : ps.length ≤ 100000000000000) (hbase : base ≤ W.heap.size)
    (hK : ∀ v' w', BRow w' base v' (ps ++ [l]) → (W.alloc (.cells #[.int .u8 (l.toNat : Int)] 5)).grownBy w' v.ownBlock → wpList Tryz.prog ops Q rest (a.put o.dst v') w') :
    wpList Tryz.prog ops Q (o :: rest) a (W.alloc (.cells #[.int .u8 (l.toNat : Int)] 5)) := by
  obtain ⟨i0, hi, hz0, hz1, hz2⟩ := info_parts u8info
  refine wpList_append_own (W.alloc (.cells #[.int .u8 (l.toNat : Int)] 5)) hgd s x 87 hop base 5 i0 (.int .u8 0) 1 1 Tryz.underlying87 hi hz0 hz1 hz2 rfl (by decide) v ps.length (u8s ps) hs (World.ownsRow.alloc hown _)
    ⟨W.heap.size, 0, none⟩ 1 1 [.int .u8 (l.toNat : Int)] hx rfl ?_ ?_ (by unfold maxLen; omega) (by omega) (by simp; omega) ?_
  · intro j u hj
    match j, hj with
    | 0, hj => simp at hj; subst hj; simp [Addr.add, World.cell?_alloc_new]
  · intro u hu; simp at hu; subst hu; rfl
  · intro v' w' hown' hg _
    refine hK v' w' ?_ hg
    unfold BRow
    simpa [u8s] using hown'

theorem BRow.form {w : World} {base : Nat} {v : Value} {ps : List UInt8} (h : BRow w base v ps) : ∃ ao c, v = .slice ao ps.length c ∧ ∀ j, j < ps.length → ∃ g, ao = some ⟨g, 0, none⟩ ∧ g < w.heap.size ∧ w.cell? ⟨g, j, none⟩ = some (.int .u8 ((ps.getD j 0).toNat : Int)) := by
  have hcell := fun g => World.ownsRow.cells (g := g) h
  rcases h.2 with ⟨rfl, hn⟩ | ⟨g, cap, cur, rfl, hb, hg, hn, hm, rest⟩
  · exact ⟨none, 0, by rw [hn], fun j hj => by omega⟩
  · refine ⟨_, cap, rfl, fun j hj => ⟨g, rfl, (Array.getElem?_eq_some_iff.1 hg).1, ?_⟩⟩
    have := hcell g rfl j (.int .u8 ((ps.getD j 0).toNat : Int)) (by simp [u8s, hj, List.getD])
    have hadd : (⟨g, 0, none⟩ : Addr).add j = ⟨g, j, none⟩ := by unfold Addr.add; split <;> simp_all
    rwa [hadd] at this

theorem fold_push (l : List UInt8) : ∀ s : ByteArray, (l.map (fun b => (b.toNat : Int))).foldl (fun r n => r.push (UInt8.ofNat n.toNat)) s = ⟨s.data ++ l.toArray⟩ := by
  induction l with
  | nil => intro s; simp
  | cons b l ih =>
    intro s
    rw [List.map_cons, List.foldl_cons, ih]
    apply ByteArray.ext
    simp [ByteArray.push]

/-- 'string(b)'. -/
theorem string_of_row {w : World} {g : Nat} {base c : Nat} {l : List UInt8} (h : BRow w base (.slice (some ⟨g, 0, none⟩) l.length c) l) :
    (convert 87 9 (.slice (some ⟨g, 0, none⟩) l.length c)).run Tryz.prog w = .ok (str l) w := by
  have hcell := World.ownsRow.cells (g := g) h rfl
  rw [run_convert_bytes_string w 87 9 5 _ _ _ Tryz.underlying87 Tryz.underlying5 Tryz.underlying9]
  have hl := run_loadCells_list (P := Tryz.prog) (w := w) ⟨g, 0, none⟩ (u8s l) (fun j v hj => hcell j v hj)
  have e : u8s l = (l.map (fun b => (b.toNat : Int))).map (Value.int .u8) := by simp [u8s]
  rw [run_bytesToString w ⟨g, 0, none⟩ l.length c (l.map (fun b => (b.toNat : Int))) (by rw [← e]; simpa [u8s] using hl), fold_push]
  congr 3
  simp
end Go.Proofs.YtgpkbembdflnmaaGreatDoor
