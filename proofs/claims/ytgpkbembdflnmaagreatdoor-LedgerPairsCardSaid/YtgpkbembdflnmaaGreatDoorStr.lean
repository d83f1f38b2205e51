/- Slices of texts that the call itself makes: append, reverse. -/
import Derived.Test.YtgpkbembdflnmaaGreatDoorRow
namespace Go.Proofs.YtgpkbembdflnmaaGreatDoor
open Go.RowKit

abbrev str (l : List UInt8) : Value := .string ⟨l.toArray⟩

/-- A slice of texts of the call's own. -/
def Strs (w : World) (base : Nat) (v : Value) (ps : List (List UInt8)) : Prop := w.ownsRow base 9 1 v ps.length (ps.map str)

theorem strinfo : (Tryz.prog.info? 9).map (fun i => (i.zero, i.size, i.bytes)) = some (some (.string ⟨#[]⟩), 1, 16) := by kernel_rfl

theorem Strs.nil (w : World) (base : Nat) : Strs w base (.slice none 0 0) [] := World.ownsRow_nil _ _ _ _

theorem Strs.lt {w : World} {base : Nat} {v : Value} {ps : List (List UInt8)} (h : Strs w base v ps) : ∀ k, v.ownBlock = some k → base ≤ k ∧ k < w.heap.size := World.ownsRow.lt h

theorem Strs.kept {w w' : World} {base : Nat} {v : Value} {ps : List (List UInt8)} (h : Strs w base v ps) (hb : Below w.heap.size w w') : Strs w' base v ps := by
  refine World.ownsRow.kept (row := none) h ⟨hb.os, hb.tape, hb.output, hb.size, fun k hk _ => hb.block k hk⟩ ?_
  cases h' : v.ownBlock
  · exact .inl rfl
  · exact .inr (by simp)

theorem Strs.far {w : World} {base : Nat} {v : Value} {ps : List (List UInt8)} (h : Strs w base v ps) {p : Addr} (hp : p.block < base) (u : Value) : Strs (w.setCell p u) base v ps := ownsRow_setCell_below h hp u

theorem Strs.form {w : World} {base : Nat} {v : Value} {ps : List (List UInt8)} (h : Strs w base v ps) : (v = .slice none 0 0 ∧ ps = []) ∨ ∃ g c, v = .slice (some ⟨g, 0, none⟩) ps.length c ∧ base ≤ g ∧ g < w.heap.size ∧ ps.length ≤ c ∧
    (∀ j, j < ps.length → w.cell? ⟨g, j, none⟩ = some (str (ps.getD j []))) ∧ ∀ j, w.frozen? ⟨g, j, none⟩ = false := by
  have hcell := fun g => World.ownsRow.cells (g := g) h
  have hfr := fun g c (e : v = .slice (some ⟨g, 0, none⟩) ps.length c) => World.ownsRow.frozenAt (g := g) (cap := c) (e ▸ h)
  rcases h.2 with ⟨rfl, hn⟩ | ⟨g, cap, cur, rfl, hb, hg, hn, hm, rest⟩
  · exact .inl ⟨rfl, List.length_eq_zero_iff.1 hn⟩
  · refine .inr ⟨g, cap, rfl, hb, (Array.getElem?_eq_some_iff.1 hg).1, hn, fun j hj => ?_, hfr g cap rfl⟩
    have := hcell g rfl j (str (ps.getD j [])) (by simp [hj, List.getD])
    have hadd : (⟨g, 0, none⟩ : Addr).add j = ⟨g, j, none⟩ := by unfold Addr.add; split <;> simp_all
    rwa [hadd] at this

/-- 'parts = append(parts, s)': the new text lies in a block of its own first. -/
theorem append_str {W : World} {ops : Array Oper} {rest : List Oper} {o : Oper} {a : Act} {Q : Exit → Act → World → Prop} (hgd : o.guard = none) (s x : Operand)
    (hop : o.op = .call { callee := .builtin .append, args := #[s, x], argTypes := #[25, 25] }) (base : Nat) (v : Value) (ps : List (List UInt8)) (l : List UInt8)
    (hs : a.eval s = v) (hx : a.eval x = .slice (some ⟨W.heap.size, 0, none⟩) 1 1) (hown : Strs W base v ps) (hn : ps.length ≤ 4000000000000) (hbase : base ≤ W.heap.size)
    (hK : ∀ v' w', Strs w' base v' (ps ++ [l]) → (W.alloc (.cells #[str l] 9)).grownBy w' v.ownBlock → wpList Tryz.prog ops Q rest (a.put o.dst v') w') :
    wpList Tryz.prog ops Q (o :: rest) a (W.alloc (.cells #[str l] 9)) := by
  obtain ⟨i0, hi, hz0, hz1, hz2⟩ := info_parts strinfo
  refine wpList_append_own (W.alloc (.cells #[str l] 9)) hgd s x 25 hop base 9 i0 (.string ⟨#[]⟩) 1 16 Tryz.underlying25 hi hz0 hz1 hz2 rfl (by decide) v ps.length (ps.map str) hs (World.ownsRow.alloc hown _)
    ⟨W.heap.size, 0, none⟩ 1 1 [str l] hx rfl ?_ ?_ (by unfold maxLen; omega) (by omega) (by simp; omega) ?_
  · intro j u hj
    match j, hj with
    | 0, hj => simp at hj; subst hj; simp [Addr.add, World.cell?_alloc_new]
  · intro u hu; simp at hu; subst hu; rfl
  · intro v' w' hown' hg _
    refine hK v' w' ?_ hg
    unfold Strs
    simpa using hown'
def sliceLen : Value → Nat
  | .slice _ k _ => k
  | _ => 0

theorem Strs.len {w : World} {base : Nat} {v : Value} {ps : List (List UInt8)} (h : Strs w base v ps) : sliceLen v = ps.length := by
  rcases h.form with ⟨rfl, rfl⟩ | ⟨g, c, rfl, _⟩ <;> rfl

theorem Strs.block {w : World} {base : Nat} {v : Value} {ps : List (List UInt8)} (h : Strs w base v ps) {g : Nat} (hg : v.ownBlock = some g) : ∃ cs fr, w.heap[g]? = some (.cells cs 9 fr) := by
  rcases h.2 with ⟨rfl, hn⟩ | ⟨g', cap, cur, rfl, hb, hgg, rest⟩
  · simp [Value.ownBlock] at hg
  · simp [Value.ownBlock] at hg
    subst hg
    exact ⟨_, _, hgg⟩

/-- Limbs stand where texts are appended. -/
theorem Row.grown {w w' : World} {base : Nat} {v u : Value} {ps : List (List UInt8)} {l : List Nat} (h : Row w v l) (hs : Strs w base u ps) (hg : w.grownBy w' u.ownBlock) : Row w' v l := by
  refine World.ownsRow.kept h hg ?_
  rcases h.2 with ⟨rfl, _⟩ | ⟨g, cap, cur, rfl, hb, hgg, rest⟩
  · exact .inl rfl
  · refine .inr (fun e => ?_)
    obtain ⟨cs, fr, hb2⟩ := hs.block e.symm
    rw [hgg] at hb2
    injection hb2 with hb2
    injection hb2 with _ e2 _
    exact absurd e2 (by decide)

theorem Strs.ne {w : World} {base : Nat} {v : Value} {ps : List (List UInt8)} (h : Strs w base v ps) {k : Nat} (hk : k < base) : some k ≠ v.ownBlock := fun e => by
  have := (h.lt k e.symm).1
  omega
end Go.Proofs.YtgpkbembdflnmaaGreatDoor
