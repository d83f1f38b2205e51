/- Walk: the reference's Of. -/
import Derived.Test.YtgpkbembdflnmaaGreatDoorRefA
import Derived.Laws.AppendOwn
import Derived.OwnWalk
namespace Go.Proofs.YtgpkbembdflnmaaGreatDoor
open Go.RowKit

/-- A slice of ints of the call's own. -/
def IRow (w : World) (base : Nat) (v : Value) (l : List Nat) : Prop := w.ownsRow base 3 1 v l.length (i64s l)

theorem IRow.row {w : World} {base : Nat} {v : Value} {l : List Nat} (h : IRow w base v l) : RRow w v l :=
  ⟨h.1, h.2.imp id (fun ⟨g, cap, cur, a1, _, a3⟩ => ⟨g, cap, cur, a1, Nat.zero_le _, a3⟩)⟩
theorem IRow.kept {w w' : World} {base : Nat} {v : Value} {l : List Nat} (h : IRow w base v l) (hb : Below w.heap.size w w') : IRow w' base v l := by
  refine World.ownsRow.kept (row := none) h ⟨hb.os, hb.tape, hb.output, hb.size, fun k hk _ => hb.block k hk⟩ ?_
  cases h' : v.ownBlock
  · exact .inl rfl
  · exact .inr (by simp)
theorem IRow.lt {w : World} {base : Nat} {v : Value} {l : List Nat} (h : IRow w base v l) : ∀ k, v.ownBlock = some k → base ≤ k ∧ k < w.heap.size := World.ownsRow.lt h

theorem append_int {W : World} {ops : Array Oper} {rest : List Oper} {o : Oper} {a : Act} {Q : Exit → Act → World → Prop} (hgd : o.guard = none) (s x : Operand)
    (hop : o.op = .call { callee := .builtin .append, args := #[s, x], argTypes := #[26, 26] }) (base : Nat) (v : Value) (ps : List Nat) (l : Nat)
    (hs : a.eval s = v) (hx : a.eval x = .slice (some ⟨W.heap.size, 0, none⟩) 1 1) (hown : IRow W base v ps) (hn : ps.length ≤ 4000000000000) (hbase : base ≤ W.heap.size)
    (hK : ∀ v' w', IRow w' base v' (ps ++ [l]) → (W.alloc (.cells #[.int .i64 (l : Int)] 3)).grownBy w' v.ownBlock → wpList Tryz.prog ops Q rest (a.put o.dst v') w') :
    wpList Tryz.prog ops Q (o :: rest) a (W.alloc (.cells #[.int .i64 (l : Int)] 3)) := by
  obtain ⟨i0, hi, hz0, hz1, hz2⟩ := info_parts i64info
  refine wpList_append_own (W.alloc (.cells #[.int .i64 (l : Int)] 3)) hgd s x 26 hop base 3 i0 (.int .i64 0) 1 8 Tryz.underlying26 hi hz0 hz1 hz2 rfl (by decide) v ps.length (i64s ps) hs (World.ownsRow.alloc hown _)
    ⟨W.heap.size, 0, none⟩ 1 1 [.int .i64 (l : Int)] hx rfl ?_ ?_ (by unfold maxLen; omega) (by omega) (by simp; omega) ?_
  · intro j u hj
    match j, hj with
    | 0, hj => simp at hj; subst hj; simp [Addr.add, World.cell?_alloc_new]
  · intro u hu; simp at hu; subst hu; rfl
  · intro v' w' hown' hg _
    refine hK v' w' ?_ hg
    unfold IRow
    simpa [i64s] using hown'

theorem aggRNat : ∀ w, (isAgg 29).run Tryz.prog w = .ok true w := fun _ => by kernel_rfl
theorem sizeRNat : ∀ w, (sizeOf 29).run Tryz.prog w = .ok 1 w := fun _ => by kernel_rfl

set_option maxRecDepth 100000 in
set_option maxHeartbeats 1000000 in
theorem ref01_Of (x : Nat) (w : World) (hx : x < 18446744073709551616) : Calls Tryz.prog 27 #[.int .u64 (x : Int)] w (RetRNt w x) := by
  go_enter Tryz.func27, Tryz.ntmps27
  go_wp2_with fail
  have hnl : Limb.nl B9 x ≤ 3 := Limb.nl_le B9two 3 x (Nat.lt_of_lt_of_le hx (by decide))
  have HNL := Lib.hid hnl
  clear hnl
  go_loopw [0, 3] (fun s0 s3 wr => ∃ (y : Nat) (r : List Nat), s0 = .int .u64 (y : Int) ∧ y ≤ x ∧ Hid (r ++ Limb.limbs B9 y = Limb.limbs B9 x) ∧ Hid (IRow wr (w.heap.size + 1) s3 r) ∧ wr.heap[w.heap.size]? = some (.cells #[.slice none 0 0] 29 (0, 0)) ∧ Below w.heap.size w wr) (fun s0 _ _ => (intOf s0).toNat)
  case atStart =>
    refine ⟨x, [], rfl, Nat.le_refl _, rfl, ?_, at_old (at_new rfl), ((Below.refl _ _).alloc (Nat.le_refl _) _).alloc (by simp) _⟩
    have := World.ownsRow_lit (base := w.heap.size + 1) (e := 3) (size := 1) (w.alloc (Obj.cells #[Value.slice none 0 0] 29)) #[] 0 (by simp) (by simp [maxLen]) rfl
    exact Lib.hid (by simpa [IRow, i64s] using this)
  case round =>
    obtain ⟨y, r, rfl, hy, HL, HR, hb0, hbel⟩ := hrel
    by_cases h0 : y = 0
    · subst h0
      have hc0 := box_cell (j := 0) hb0 rfl
      have hf0 := box_free (j := 0) hb0
      have hrw : r = Limb.limbs B9 x := by have := HL.out; rwa [Limb.limbs_zero, List.append_nil] at this
      have hN : RNt wr u3 x := by unfold RNt; rw [← hrw]; exact HR.out.row
      have HN := Lib.hid hN
      obtain ⟨ao, c, e0, _⟩ := hN.form
      clear hN hrw HL HNL
      subst e0
      go_wp2_with fail
      refine post_box Tryz.results27 rfl aggRNat sizeRNat rfl (box_set (j := 0) _ hb0) rfl ⟨ao, _, c, rfl, RRow.set HN.out hb0 (by decide) _, hbel.setCell (Nat.le_refl _) _⟩
    · have hl : Limb.limbs B9 y = (y % 1000000000) :: Limb.limbs B9 (y / 1000000000) := Limb.limbs_pos B9two h0
      have HL2 : Hid ((r ++ [y % 1000000000]) ++ Limb.limbs B9 (y / 1000000000) = Limb.limbs B9 x) := by
        show _ = _
        rw [← HL.out, hl]; simp
      have hr3 : r.length ≤ 3 := by
        have h1 := congrArg List.length HL.out
        have h2 := HNL.out
        unfold Limb.nl at h2
        rw [List.length_append] at h1
        omega
      have hbs := (Array.getElem?_eq_some_iff.1 hb0).1
      clear hl HL
      go_wp2_with (at_builtin; refine append_int rfl _ _ rfl (w.heap.size + 1) u3 r (y % 1000000000) rfl rfl HR.out (by omega) hbs ?_; intro v' w4 hs4 hg4; have HS4 := Lib.hid hs4; have HG4 := Lib.hid hg4; clear hs4 hg4)
      have hbel4 : Below w.heap.size w w4 := (hbel.alloc hbel.size (Obj.cells #[.int .i64 ((y % 1000000000 : Nat) : Int)] 3)).grown HG4.out (by have := hbel.size; simp; omega) (fun j e => by have := (HR.out.lt j e).1; omega)
      have hb4 := grown_box HG4.out (at_old (o := Obj.cells #[.int .i64 ((y % 1000000000 : Nat) : Int)] 3) hb0) (fun e => by have := (HR.out.lt _ e.symm).1; omega)
      refine ⟨⟨y / 1000000000, r ++ [y % 1000000000], by rw [Int.natCast_ediv]; rfl, by omega, HL2, HS4, hb4, hbel4⟩, ?_⟩
      show ((y : Int) / 1000000000).toNat < (y : Int).toNat
      omega
end Go.Proofs.YtgpkbembdflnmaaGreatDoor
