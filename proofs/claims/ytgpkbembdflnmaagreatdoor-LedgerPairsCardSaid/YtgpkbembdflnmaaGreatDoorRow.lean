/- What the walks over numbers use: a row of limbs in memory, a number as its limbs. -/
import Derived.Test.YtgpkbembdflnmaaGreatDoorProg
import Derived.Test.YtgpkbembdflnmaaGreatDoorLimb
import Derived.WalkKit
import Derived.Lib.Hide
import Derived.Deep.DeepCutAuto
import Derived.Deep.RegionHeld3
import Derived.Deep.QuietTactic
import Derived.BigQuiet
import Derived.KernelRfl
import Derived.Laws.ResultCell
import Derived.Laws.BitsAllLaws
namespace Go.Proofs.YtgpkbembdflnmaaGreatDoor
open Go.RowKit

def u32s (l : List Nat) : List Value := l.map fun x : Nat => Value.int .u32 (x : Int)

/-- The limbs that a slice holds: at the head of a row, or none. -/
def Row (w : World) (v : Value) (l : List Nat) : Prop := w.ownsRow 0 95 1 v l.length (u32s l)

abbrev B32 : Nat := 4294967296
theorem B32two : 2 ≤ B32 := by decide

/-- A number, as the slice of its limbs. -/
def Nt (w : World) (v : Value) (x : Nat) : Prop := Row w v (Limb.limbs B32 x)

theorem oneCell_u32s (l : List Nat) : ∀ u ∈ u32s l, u.oneCell' = true := by
  intro u hu
  obtain ⟨_, _, rfl⟩ := List.mem_map.1 hu
  rfl

theorem Row.below {w w' : World} {v : Value} {l : List Nat} (h : Row w v l) (hb : Below w.heap.size w w') : Row w' v l := by
  refine World.ownsRow.kept (row := none) h ⟨hb.os, hb.tape, hb.output, hb.size, fun k hk _ => hb.block k hk⟩ ?_
  cases h' : v.ownBlock
  · exact .inl rfl
  · exact .inr (by simp)

theorem Row.alloc {w : World} {v : Value} {l : List Nat} (h : Row w v l) (o : Obj) : Row (w.alloc o) v l := World.ownsRow.alloc h o

/-- Blocks of another type may be written. -/
theorem Row.set {w : World} {v : Value} {l : List Nat} (h : Row w v l) {p : Addr} {cs : Array Value} {t : TypeId} {fr : Nat × Nat}
    (hp : w.heap[p.block]? = some (.cells cs t fr)) (ht : t ≠ 95) (u : Value) : Row (w.setCell p u) v l := by
  refine ⟨h.1, ?_⟩
  rcases h.2 with hn | ⟨g, cap, cur, rfl, hb, hg, rest⟩
  · exact .inl hn
  · refine .inr ⟨g, cap, cur, rfl, hb, ?_, rest⟩
    have hne : g ≠ p.block := by
      rintro rfl
      rw [hg] at hp
      injection hp with hp
      injection hp with _ e2 _
      exact ht e2.symm
    rw [Below.heap_setCell _ _ _ _ hne]
    exact hg

theorem Row.form {w : World} {v : Value} {l : List Nat} (h : Row w v l) : ∃ ao c, v = .slice ao l.length c ∧ l.length ≤ c ∧ c ≤ 9223372036854775807 ∧
    ∀ j, j < l.length → ∃ g, ao = some ⟨g, 0, none⟩ ∧ g < w.heap.size ∧ w.cell? ⟨g, j, none⟩ = some (.int .u32 ((l.getD j 0 : Nat) : Int)) := by
  have hcell := fun g => World.ownsRow.cells (g := g) h
  rcases h.2 with ⟨rfl, hn⟩ | ⟨g, cap, cur, rfl, hb, hg, hn, hm, rest⟩
  · exact ⟨none, 0, by rw [hn], by omega, by omega, fun j hj => by omega⟩
  · refine ⟨_, cap, rfl, hn, by simpa [maxLen] using hm, fun j hj => ⟨g, rfl, (Array.getElem?_eq_some_iff.1 hg).1, ?_⟩⟩
    have := hcell g rfl j (.int .u32 ((l.getD j 0 : Nat) : Int)) (by simp [u32s, hj, List.getD])
    have hadd : (⟨g, 0, none⟩ : Addr).add j = ⟨g, j, none⟩ := by unfold Addr.add; split <;> simp_all
    rwa [hadd] at this

theorem Row.take {w : World} {g n c : Nat} {l : List Nat} (h : Row w (.slice (some ⟨g, 0, none⟩) n c) l) (k : Nat) (hk : k ≤ l.length) : Row w (.slice (some ⟨g, 0, none⟩) k c) (l.take k) := by
  have hlk : (l.take k).length = k := by simp; omega
  refine ⟨by simp [u32s], .inr ?_⟩
  rcases h.2 with ⟨h', _⟩ | ⟨g', cap', cur, h', hb, hg, hn, hm, hcs, htake⟩
  · simp at h'
  · simp only [Value.slice.injEq, Option.some.injEq, Addr.mk.injEq, and_true] at h'
    obtain ⟨rfl, rfl, rfl⟩ := h'
    refine ⟨g, c, cur, by rw [hlk], hb, hg, by omega, hm, hcs, ?_⟩
    rw [hlk]
    have : u32s (l.take k) = (u32s l).take k := by simp [u32s, List.map_take]
    rw [this, ← htake, List.take_take]
    congr 1
    omega

theorem bcell {W w1 : World} (hb : Below W.heap.size W w1) : (∀ b o, b < W.heap.size → w1.cell? ⟨b, o, none⟩ = W.cell? ⟨b, o, none⟩) ∧ (∀ b o, b < W.heap.size → w1.frozen? ⟨b, o, none⟩ = W.frozen? ⟨b, o, none⟩) :=
  ⟨fun b o h => hb.cell (p := ⟨b, o, none⟩) h, fun b o h => hb.frozen (p := ⟨b, o, none⟩) h⟩

theorem below_box {W w1 : World} (hb : Below W.heap.size W w1) {b : Nat} {o : Obj} (h : W.heap[b]? = some o) : w1.heap[b]? = some o := by
  rw [hb.block b (Array.getElem?_eq_some_iff.1 h).1]; exact h

theorem below_drewN {B : Nat} {a w : World} (h : Below B a w) (n : Nat) : Below B a (w.drewN n) := h.trans ⟨rfl, rfl, rfl, Nat.le_refl _, fun _ _ => rfl⟩

theorem grown_box {W w1 : World} {row : Option Nat} (hg : W.grownBy w1 row) {b : Nat} {o : Obj} (h : W.heap[b]? = some o) (hne : some b ≠ row) : w1.heap[b]? = some o := by
  rw [hg.block b (Array.getElem?_eq_some_iff.1 h).1 hne]; exact h

theorem box_cell {w : World} {b j : Nat} {cs : Array Value} {t : TypeId} {v : Value} (h : w.heap[b]? = some (.cells cs t (0, 0))) (hj : cs[j]? = some v) : w.cell? ⟨b, j, none⟩ = some v := by
  simp [World.cell?, h, hj]
theorem box_free {w : World} {b j : Nat} {cs : Array Value} {t : TypeId} (h : w.heap[b]? = some (.cells cs t (0, 0))) : w.frozen? ⟨b, j, none⟩ = false := by
  simp [World.frozen?, h]
theorem box_set {w : World} {b j : Nat} {cs : Array Value} {t : TypeId} (u : Value) (h : w.heap[b]? = some (.cells cs t (0, 0))) : (w.setCell ⟨b, j, none⟩ u).heap[b]? = some (.cells (cs.setIfInBounds j u) t (0, 0)) :=
  heap_setCell_same w b j cs t u h
theorem box_far {w : World} {b : Nat} {o : Obj} {p : Addr} (u : Value) (h : w.heap[b]? = some o) (hne : b ≠ p.block) : (w.setCell p u).heap[b]? = some o := by
  rw [Below.heap_setCell _ _ _ _ hne]; exact h
theorem at_new {w : World} {o : Obj} {k : Nat} (h : k = w.heap.size) : (w.alloc o).heap[k]? = some o := by subst h; exact heap_alloc_new w o
theorem at_old {w : World} {o x : Obj} {k : Nat} (h : w.heap[k]? = some x) : (w.alloc o).heap[k]? = some x := by
  rw [Below.heap_alloc w o k (Array.getElem?_eq_some_iff.1 h).1]; exact h
example (w : World) (o o1 o2 : Obj) : (((w.alloc o).alloc o1).alloc o2).heap[w.heap.size]? = some o := at_old (at_old (at_new rfl))
example (w : World) (o o1 o2 : Obj) : (((w.alloc o).alloc o1).alloc o2).heap[w.heap.size + 1]? = some o1 := at_old (at_new (by simp))
example (w : World) (o o1 o2 : Obj) : (((w.alloc o).alloc o1).alloc o2).heap[w.heap.size + 1 + 1]? = some o2 := at_new (by simp)

theorem or32 (c d : Nat) (hc : c < 4294967296) (hd : d < 4294967296) : bits .or .u64 ((c : Int) * 4294967296) (d : Int) = ((c * 4294967296 + d : Nat) : Int) := by
  have e : (c : Int) * 4294967296 = ((c * 4294967296 : Nat) : Int) := by simp
  rw [e, u64_or_nat _ _ (by omega) (by omega)]
  congr 1
  have := Nat.two_pow_add_eq_or_of_lt (i := 32) (b := d) (by omega) c
  rw [Nat.mul_comm] at this
  exact this.symm

theorem load_box {P : Program} {w : World} {b n : Nat} {cs : Array Value} {t T : TypeId} (h1 : ∀ w, (isAgg T).run P w = .ok true w) (h2 : ∀ w, (sizeOf T).run P w = .ok n w) (hn : cs.size = n)
    (h : w.heap[b]? = some (.cells cs t (0, 0))) : (loadVar T ⟨b, 0, none⟩).run P w = .ok (.agg cs) w := by
  have hl := run_loadCells_list (P := P) (w := w) ⟨b, 0, none⟩ cs.toList (fun j v hj => by
    have hadd : (⟨b, 0, none⟩ : Addr).add j = ⟨b, j, none⟩ := by unfold Addr.add; split <;> simp_all
    rw [hadd]
    exact box_cell h (by simpa using hj))
  unfold loadVar
  simp only [Sem.run_bind, h1, Result.andThen]
  simp at hl
  subst hn
  simp [Sem.run_bind, h2, Result.andThen, hl]

/-- A result that lies in a box. -/
theorem post_box {P : Program} {fn : Func} {R : Ending → World → Prop} {a : Act} {w : World} {s b n : Nat} {cs : Array Value} {t T : TypeId} (hr : fn.results = #[.cell s T])
    (hs : a.tmps.getD s undef = .pointer (some ⟨b, 0, none⟩)) (h1 : ∀ w, (isAgg T).run P w = .ok true w) (h2 : ∀ w, (sizeOf T).run P w = .ok n w) (hn : cs.size = n)
    (h : w.heap[b]? = some (.cells cs t (0, 0))) (hd : a.defers = []) (hR : R (.returned (.agg cs)) w) : bodyPost P fn R .ret a w := by
  refine bodyPost_ret (v := .agg cs) ?_ hd hR
  have hl := load_box (P := P) h1 h2 hn h
  have hs' : a.tmps[s]?.getD undef = .pointer (some ⟨b, 0, none⟩) := by simpa using hs
  simp only [results, hr]
  simp [hs', asAddr, hl]

/-- Two results, the first one in a box. -/
theorem post_box1 {P : Program} {fn : Func} {R : Ending → World → Prop} {a : Act} {w : World} {s b n u : Nat} {cs : Array Value} {t T : TypeId} {v : Value} (hr : fn.results = #[.cell s T, .tmp u])
    (hs : a.tmps.getD s undef = .pointer (some ⟨b, 0, none⟩)) (hu : a.tmps.getD u undef = v) (h1 : ∀ w, (isAgg T).run P w = .ok true w) (h2 : ∀ w, (sizeOf T).run P w = .ok n w) (hn : cs.size = n)
    (h : w.heap[b]? = some (.cells cs t (0, 0))) (hd : a.defers = []) (hR : R (.returned (.tuple #[.agg cs, v])) w) : bodyPost P fn R .ret a w := by
  refine bodyPost_ret (v := .tuple #[.agg cs, v]) ?_ hd hR
  have hl := load_box (P := P) h1 h2 hn h
  rw [results_cell_tmp hr, hs, hu]
  simp [Result.andThen, asAddr, hl]

theorem aggNat : ∀ w, (isAgg 66).run Tryz.prog w = .ok true w := fun _ => by kernel_rfl
theorem sizeNat : ∀ w, (sizeOf 66).run Tryz.prog w = .ok 1 w := fun _ => by kernel_rfl

theorem u32info : (Tryz.prog.info? 95).map (fun i => (i.zero, i.size, i.bytes)) = some (some (.int .u32 0), 1, 4) := by kernel_rfl

theorem Row.get {w : World} {ao : Option Addr} {n c : Nat} {l : List Nat} (h : Row w (.slice ao n c) l) : n = l.length ∧ n ≤ c ∧ c ≤ 9223372036854775807 := by
  obtain ⟨_, _, e, h1, h2, _⟩ := h.form
  simp only [Value.slice.injEq] at e
  obtain ⟨_, rfl, rfl⟩ := e
  exact ⟨rfl, h1, h2⟩

theorem Row.at {w : World} {ao : Option Addr} {n c : Nat} {l : List Nat} (h : Row w (.slice ao n c) l) {k : Nat} (hk : k < n) :
    ∃ g, ao = some ⟨g, 0, none⟩ ∧ g < w.heap.size ∧ w.cell? ⟨g, k, none⟩ = some (.int .u32 ((l.getD k 0 : Nat) : Int)) := by
  obtain ⟨_, _, e, h1, h2, h3⟩ := h.form
  simp only [Value.slice.injEq] at e
  obtain ⟨rfl, rfl, rfl⟩ := e
  exact h3 k hk

/-- A row of the call's own that is being written: block g, n limbs, which are r; what was there when the call began (in w) stands. -/
structure Wr (w wr : World) (g n cp : Nat) (r : List Nat) : Prop where
  own : wr.ownsRow g 95 1 (.slice (some ⟨g, 0, none⟩) n cp) n (u32s r)
  len : r.length = n
  lt : ∀ d ∈ r, d < B32
  below : Below w.heap.size w wr
  new : w.heap.size ≤ g

theorem Wr.cell {w wr : World} {g n cp : Nat} {r : List Nat} (h : Wr w wr g n cp r) (k : Nat) (hk : k < n) : wr.cell? ⟨g, k, none⟩ = some (.int .u32 ((r.getD k 0 : Nat) : Int)) := by
  have hl := h.len
  rw [h.own.cellAt k (by omega)]
  simp [u32s, List.getD, show k < r.length by omega]
theorem Wr.free {w wr : World} {g n cp : Nat} {r : List Nat} (h : Wr w wr g n cp r) (k : Nat) : wr.frozen? ⟨g, k, none⟩ = false := h.own.frozenAt k
theorem Wr.set {w wr : World} {g n cp : Nat} {r : List Nat} (h : Wr w wr g n cp r) (k x : Nat) (hx : x < B32) : Wr w (wr.setCell ⟨g, k, none⟩ (.int .u32 (x : Int))) g n cp (r.set k x) := by
  refine ⟨?_, by simp [h.len], ?_, h.below.setCell h.new _, h.new⟩
  · have := (h.own.stored k (.int .u32 (x : Int))).1
    simpa [u32s, List.map_set] using this
  · intro q hq
    rcases List.mem_or_eq_of_mem_set hq with hq | rfl
    · exact h.lt q hq
    · exact hx
theorem Wr.row {w wr : World} {g n cp : Nat} {r : List Nat} (h : Wr w wr g n cp r) : Row wr (.slice (some ⟨g, 0, none⟩) n cp) r := by
  unfold Row
  rw [h.len]
  exact ⟨h.own.1, h.own.2.imp id (fun ⟨g, cap, cur, a1, _, a3⟩ => ⟨g, cap, cur, a1, Nat.zero_le _, a3⟩)⟩
theorem Wr.far {w wr : World} {g n cp : Nat} {r : List Nat} (h : Wr w wr g n cp r) {p : Addr} (hp : w.heap.size ≤ p.block) (hne : g ≠ p.block) (u : Value) : Wr w (wr.setCell p u) g n cp r := by
  refine ⟨?_, h.len, h.lt, h.below.setCell hp _, h.new⟩
  refine ⟨h.own.1, h.own.2.imp id ?_⟩
  rintro ⟨g', cap, cur, a1, a2, a3, a4⟩
  simp only [Value.slice.injEq, Option.some.injEq, Addr.mk.injEq, and_true] at a1
  obtain ⟨rfl, _, rfl⟩ := a1
  exact ⟨g, cp, cur, rfl, a2, by rw [Below.heap_setCell _ _ _ _ hne]; exact a3, a4⟩
theorem Wr.kept {w wr w' : World} {g n cp : Nat} {r : List Nat} (h : Wr w wr g n cp r) (hb : Below wr.heap.size wr w') : Wr w w' g n cp r := by
  refine ⟨World.ownsRow.kept (row := none) h.own ⟨hb.os, hb.tape, hb.output, hb.size, fun k hk _ => hb.block k hk⟩ (.inr (by simp [Value.ownBlock])), h.len, h.lt, h.below.trans (hb.mono h.below.size), h.new⟩

/-- 'make([]uint32, n)'. -/
theorem make_u32 {w W : World} {ops : Array Oper} {rest : List Oper} {o : Oper} {a : Act} {Q : Exit → Act → World → Prop} (hgd : o.guard = none) (l c : Operand) (hop : o.op = Op.makeSlice 64 l c)
    {L C : Int} (n : Nat) (hl : a.eval l = .int .i64 L) (hc : a.eval c = .int .i64 C) (hL : L = (n : Int)) (hC : C = (n : Int)) (hn : n ≤ 10000000000000) (hB : Below w.heap.size w W)
    (hK : ∀ w1, Hid (Wr w w1 W.heap.size n n (List.replicate n 0)) → W.grownBy w1 none → wpList Tryz.prog ops Q rest (a.put o.dst (.slice (some ⟨W.heap.size, 0, none⟩) n n)) w1) : wpList Tryz.prog ops Q (o :: rest) a W := by
  obtain ⟨i0, hi, hz0, hz1, hz2⟩ := info_parts u32info
  refine wpList_make_full W hgd l c 64 hop W.heap.size 95 i0 (.int .u32 0) 1 Tryz.underlying64 hi hz0 hz1 .i64 .i64 L C n hl hc hL hC (by rw [hz2]; omega) (by unfold maxLen; omega) (Nat.le_refl _) ?_
  intro w1 hown hgrow
  refine hK w1 ⟨?_, by simp, by simp [B32], hB.grown hgrow hB.size (by simp), hB.size⟩ hgrow
  have e : (madeCells (Value.int IntKind.u32 0).cells (n * 1)).toList = List.replicate n (Value.int IntKind.u32 0) := by rw [Nat.mul_one]; exact toList_madeCells_one _ _
  rw [e] at hown
  simpa [u32s] using hown

end Go.Proofs.YtgpkbembdflnmaaGreatDoor
