/- What the walks over the reference's numbers use: a row of digits to the base of a thousand million (made from XRow by gen). -/
import Derived.Test.YtgpkbembdflnmaaGreatDoorRow
namespace Go.Proofs.YtgpkbembdflnmaaGreatDoor
open Go.RowKit

def i64s (l : List Nat) : List Value := l.map fun x : Nat => Value.int .i64 (x : Int)

/-- The limbs that a slice holds: at the head of a row, or none. -/
def RRow (w : World) (v : Value) (l : List Nat) : Prop := w.ownsRow 0 3 1 v l.length (i64s l)

abbrev B9 : Nat := 1000000000
theorem B9two : 2 ≤ B9 := by decide

/-- A number, as the slice of its limbs. -/
def RNt (w : World) (v : Value) (x : Nat) : Prop := RRow w v (Limb.limbs B9 x)

theorem oneCell_i64s (l : List Nat) : ∀ u ∈ i64s l, u.oneCell' = true := by
  intro u hu
  obtain ⟨_, _, rfl⟩ := List.mem_map.1 hu
  rfl

theorem RRow.below {w w' : World} {v : Value} {l : List Nat} (h : RRow w v l) (hb : Below w.heap.size w w') : RRow w' v l := by
  refine World.ownsRow.kept (row := none) h ⟨hb.os, hb.tape, hb.output, hb.size, fun k hk _ => hb.block k hk⟩ ?_
  cases h' : v.ownBlock
  · exact .inl rfl
  · exact .inr (by simp)

theorem RRow.alloc {w : World} {v : Value} {l : List Nat} (h : RRow w v l) (o : Obj) : RRow (w.alloc o) v l := World.ownsRow.alloc h o

/-- Blocks of another type may be written. -/
theorem RRow.set {w : World} {v : Value} {l : List Nat} (h : RRow w v l) {p : Addr} {cs : Array Value} {t : TypeId} {fr : Nat × Nat}
    (hp : w.heap[p.block]? = some (.cells cs t fr)) (ht : t ≠ 3) (u : Value) : RRow (w.setCell p u) v l := by
  refine ⟨h.1, ?_⟩
  rcases h.2 with hn | ⟨g, cap, cur, rfl, hb, hg, rest⟩
  · exact .inl hn
  · refine .inr ⟨g, cap, cur, rfl, hb, ?_, rest⟩
    have hne : g ≠ p.block := by
      rintro rfl
      rw [hg] at hp
      injection hp with hp
      injection hp with _ e2 _
      exact ht e2.symm
    rw [Below.heap_setCell _ _ _ _ hne]
    exact hg

theorem RRow.form {w : World} {v : Value} {l : List Nat} (h : RRow w v l) : ∃ ao c, v = .slice ao l.length c ∧ l.length ≤ c ∧ c ≤ 9223372036854775807 ∧
    ∀ j, j < l.length → ∃ g, ao = some ⟨g, 0, none⟩ ∧ g < w.heap.size ∧ w.cell? ⟨g, j, none⟩ = some (.int .i64 ((l.getD j 0 : Nat) : Int)) := by
  have hcell := fun g => World.ownsRow.cells (g := g) h
  rcases h.2 with ⟨rfl, hn⟩ | ⟨g, cap, cur, rfl, hb, hg, hn, hm, rest⟩
  · exact ⟨none, 0, by rw [hn], by omega, by omega, fun j hj => by omega⟩
  · refine ⟨_, cap, rfl, hn, by simpa [maxLen] using hm, fun j hj => ⟨g, rfl, (Array.getElem?_eq_some_iff.1 hg).1, ?_⟩⟩
    have := hcell g rfl j (.int .i64 ((l.getD j 0 : Nat) : Int)) (by simp [i64s, hj, List.getD])
    have hadd : (⟨g, 0, none⟩ : Addr).add j = ⟨g, j, none⟩ := by unfold Addr.add; split <;> simp_all
    rwa [hadd] at this

theorem RRow.take {w : World} {g n c : Nat} {l : List Nat} (h : RRow w (.slice (some ⟨g, 0, none⟩) n c) l) (k : Nat) (hk : k ≤ l.length) : RRow w (.slice (some ⟨g, 0, none⟩) k c) (l.take k) := by
  have hlk : (l.take k).length = k := by simp; omega
  refine ⟨by simp [i64s], .inr ?_⟩
  rcases h.2 with ⟨h', _⟩ | ⟨g', cap', cur, h', hb, hg, hn, hm, hcs, htake⟩
  · simp at h'
  · simp only [Value.slice.injEq, Option.some.injEq, Addr.mk.injEq, and_true] at h'
    obtain ⟨rfl, rfl, rfl⟩ := h'
    refine ⟨g, c, cur, by rw [hlk], hb, hg, by omega, hm, hcs, ?_⟩
    rw [hlk]
    have : i64s (l.take k) = (i64s l).take k := by simp [i64s, List.map_take]
    rw [this, ← htake, List.take_take]
    congr 1
    omega

theorem i64info : (Tryz.prog.info? 3).map (fun i => (i.zero, i.size, i.bytes)) = some (some (.int .i64 0), 1, 8) := by kernel_rfl

theorem RRow.get {w : World} {ao : Option Addr} {n c : Nat} {l : List Nat} (h : RRow w (.slice ao n c) l) : n = l.length ∧ n ≤ c ∧ c ≤ 9223372036854775807 := by
  obtain ⟨_, _, e, h1, h2, _⟩ := h.form
  simp only [Value.slice.injEq] at e
  obtain ⟨_, rfl, rfl⟩ := e
  exact ⟨rfl, h1, h2⟩

theorem RRow.at {w : World} {ao : Option Addr} {n c : Nat} {l : List Nat} (h : RRow w (.slice ao n c) l) {k : Nat} (hk : k < n) :
    ∃ g, ao = some ⟨g, 0, none⟩ ∧ g < w.heap.size ∧ w.cell? ⟨g, k, none⟩ = some (.int .i64 ((l.getD k 0 : Nat) : Int)) := by
  obtain ⟨_, _, e, h1, h2, h3⟩ := h.form
  simp only [Value.slice.injEq] at e
  obtain ⟨rfl, rfl, rfl⟩ := e
  exact h3 k hk

/-- A row of the call's own that is being written: block g, n limbs, which are r; what was there when the call began (in w) stands. -/
structure RWr (w wr : World) (g n cp : Nat) (r : List Nat) : Prop where
  own : wr.ownsRow g 3 1 (.slice (some ⟨g, 0, none⟩) n cp) n (i64s r)
  len : r.length = n
  lt : ∀ d ∈ r, d < B9
  below : Below w.heap.size w wr
  new : w.heap.size ≤ g

theorem RWr.cell {w wr : World} {g n cp : Nat} {r : List Nat} (h : RWr w wr g n cp r) (k : Nat) (hk : k < n) : wr.cell? ⟨g, k, none⟩ = some (.int .i64 ((r.getD k 0 : Nat) : Int)) := by
  have hl := h.len
  rw [h.own.cellAt k (by omega)]
  simp [i64s, List.getD, show k < r.length by omega]
theorem RWr.free {w wr : World} {g n cp : Nat} {r : List Nat} (h : RWr w wr g n cp r) (k : Nat) : wr.frozen? ⟨g, k, none⟩ = false := h.own.frozenAt k
theorem RWr.set {w wr : World} {g n cp : Nat} {r : List Nat} (h : RWr w wr g n cp r) (k x : Nat) (hx : x < B9) : RWr w (wr.setCell ⟨g, k, none⟩ (.int .i64 (x : Int))) g n cp (r.set k x) := by
  refine ⟨?_, by simp [h.len], ?_, h.below.setCell h.new _, h.new⟩
  · have := (h.own.stored k (.int .i64 (x : Int))).1
    simpa [i64s, List.map_set] using this
  · intro q hq
    rcases List.mem_or_eq_of_mem_set hq with hq | rfl
    · exact h.lt q hq
    · exact hx
theorem RWr.row {w wr : World} {g n cp : Nat} {r : List Nat} (h : RWr w wr g n cp r) : RRow wr (.slice (some ⟨g, 0, none⟩) n cp) r := by
  unfold RRow
  rw [h.len]
  exact ⟨h.own.1, h.own.2.imp id (fun ⟨g, cap, cur, a1, _, a3⟩ => ⟨g, cap, cur, a1, Nat.zero_le _, a3⟩)⟩
theorem RWr.far {w wr : World} {g n cp : Nat} {r : List Nat} (h : RWr w wr g n cp r) {p : Addr} (hp : w.heap.size ≤ p.block) (hne : g ≠ p.block) (u : Value) : RWr w (wr.setCell p u) g n cp r := by
  refine ⟨?_, h.len, h.lt, h.below.setCell hp _, h.new⟩
  refine ⟨h.own.1, h.own.2.imp id ?_⟩
  rintro ⟨g', cap, cur, a1, a2, a3, a4⟩
  simp only [Value.slice.injEq, Option.some.injEq, Addr.mk.injEq, and_true] at a1
  obtain ⟨rfl, _, rfl⟩ := a1
  exact ⟨g, cp, cur, rfl, a2, by rw [Below.heap_setCell _ _ _ _ hne]; exact a3, a4⟩
theorem RWr.kept {w wr w' : World} {g n cp : Nat} {r : List Nat} (h : RWr w wr g n cp r) (hb : Below wr.heap.size wr w') : RWr w w' g n cp r := by
  refine ⟨World.ownsRow.kept (row := none) h.own ⟨hb.os, hb.tape, hb.output, hb.size, fun k hk _ => hb.block k hk⟩ (.inr (by simp [Value.ownBlock])), h.len, h.lt, h.below.trans (hb.mono h.below.size), h.new⟩

/-- 'make([]uint32, n)'. -/
theorem make_int {w W : World} {ops : Array Oper} {rest : List Oper} {o : Oper} {a : Act} {Q : Exit → Act → World → Prop} (hgd : o.guard = none) (l c : Operand) (hop : o.op = Op.makeSlice 26 l c)
    {L C : Int} (n : Nat) (hl : a.eval l = .int .i64 L) (hc : a.eval c = .int .i64 C) (hL : L = (n : Int)) (hC : C = (n : Int)) (hn : n ≤ 10000000000000) (hB : Below w.heap.size w W)
    (hK : ∀ w1, Hid (RWr w w1 W.heap.size n n (List.replicate n 0)) → W.grownBy w1 none → wpList Tryz.prog ops Q rest (a.put o.dst (.slice (some ⟨W.heap.size, 0, none⟩) n n)) w1) : wpList Tryz.prog ops Q (o :: rest) a W := by
  obtain ⟨i0, hi, hz0, hz1, hz2⟩ := info_parts i64info
  refine wpList_make_full W hgd l c 26 hop W.heap.size 3 i0 (.int .i64 0) 1 Tryz.underlying26 hi hz0 hz1 .i64 .i64 L C n hl hc hL hC (by rw [hz2]; omega) (by unfold maxLen; omega) (Nat.le_refl _) ?_
  intro w1 hown hgrow
  refine hK w1 ⟨?_, by simp, by simp [B9], hB.grown hgrow hB.size (by simp), hB.size⟩ hgrow
  have e : (madeCells (Value.int IntKind.i64 0).cells (n * 1)).toList = List.replicate n (Value.int IntKind.i64 0) := by rw [Nat.mul_one]; exact toList_madeCells_one _ _
  rw [e] at hown
  simpa [i64s] using hown

end Go.Proofs.YtgpkbembdflnmaaGreatDoor
