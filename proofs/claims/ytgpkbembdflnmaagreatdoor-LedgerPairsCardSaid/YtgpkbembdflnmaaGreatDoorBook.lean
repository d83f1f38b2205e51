/- A map of balances in memory: what each name's number is. -/
import Derived.Test.YtgpkbembdflnmaaGreatDoorNumE
import Derived.Maps.OwnOps
import Derived.Maps.OwnSet
import Derived.Maps.RangeWalk
import Derived.Sort.KeysCollected
namespace Go.Proofs.YtgpkbembdflnmaaGreatDoor
open Go.RowKit
open Go.Maps (Keyed)

/-- An element reads as itself. -/
def RNum (v : Value) : Option (DataW Value × List MemPlace) := some (.held v, [])

theorem lawStr : Keyed Tryz.prog 9 := Maps.string_keyed Tryz.underlying9
abbrev numV (ao : Option Addr) (m c : Nat) (z : Int) : Value := .agg #[.slice ao m c, .bool (decide (z < 0))]
abbrev zeroV : Value := .agg #[.slice none 0 0, .bool false]

theorem zeroNum (w : World) : (zeroValue 68).run Tryz.prog w = .ok zeroV w := by kernel_rfl

/-- Block b is a map of at most n entries: the names are those of 'dom', the numbers those of 'bal', none of them of more than B limbs. -/
def Book (w : World) (b n : Nat) (dom : List UInt8 → Bool) (bal : List UInt8 → Int) (B : Nat) : Prop :=
  ∃ D : DataW Value, w.ownsMap Tryz.prog 9 RNum b n D ∧ (∀ s, Maps.has D (.string s) = dom s) ∧
    ∀ s, ∃ ao m c, D.atKey (.string s) (.held zeroV) = .held (numV ao m c (bal s)) ∧ Nt w (.slice ao m c) (bal s).natAbs ∧ Limb.nl B32 (bal s).natAbs ≤ B

theorem Row.grown' {w w' : World} {v : Value} {l : List Nat} {row : Option Nat} (h : Row w v l) (hg : w.grownBy w' row) (hr : ∀ b, row = some b → ∀ g cs fr, w.heap[b]? ≠ some (.cells cs g fr) ∨ g ≠ 95) : Row w' v l := by
  refine ⟨h.1, ?_⟩
  rcases h.2 with hn | ⟨g, cap, cur, rfl, hb, hg', rest⟩
  · exact .inl hn
  · refine .inr ⟨g, cap, cur, rfl, hb, ?_, rest⟩
    rw [hg.block g (Array.getElem?_eq_some_iff.1 hg').1 ?_]
    · exact hg'
    · intro e
      rcases hr g e.symm 95 cur (0, 0) with h1 | h1
      · exact h1 hg'
      · exact h1 rfl

theorem Book.map {w : World} {b n : Nat} {dom : List UInt8 → Bool} {bal : List UInt8 → Int} {B : Nat} (h : Book w b n dom bal B) : ∃ es cl, w.heap[b]? = some (.map es cl) := by
  obtain ⟨D, ⟨es, cl, hb, _⟩, _⟩ := h
  exact ⟨es, cl, hb⟩

theorem Row.grownMap {w w' : World} {v : Value} {l : List Nat} {b : Nat} {es : Array MapEntry} {cl : Nat} (h : Row w v l) (hg : w.grownBy w' (some b)) (hb : w.heap[b]? = some (.map es cl)) : Row w' v l :=
  Row.grown' h hg fun b' e g cs fr => .inl (by cases e; rw [hb]; simp)

theorem Book.made (w : World) : Book (w.alloc (.map #[] 0)) w.heap.size 0 (fun _ => false) (fun _ => 0) 0 := by
  refine ⟨.map [], World.ownsMap_made w _ _ _, fun s => rfl, fun s => ⟨none, 0, 0, rfl, Nt.nil _, ?_⟩⟩
  exact Limb.nl_le B32two 0 0 (by decide)

theorem Book.lt {w : World} {b n : Nat} {dom : List UInt8 → Bool} {bal : List UInt8 → Int} {B : Nat} (h : Book w b n dom bal B) : b < w.heap.size := by
  obtain ⟨D, h1, _⟩ := h
  exact h1.lt

theorem Book.mono {w : World} {b n n' : Nat} {dom : List UInt8 → Bool} {bal : List UInt8 → Int} {B B' : Nat} (h : Book w b n dom bal B) (hn : n ≤ n') (hB : B ≤ B') : Book w b n' dom bal B' := by
  obtain ⟨D, h1, h2, h3⟩ := h
  refine ⟨D, h1.mono hn, h2, fun s => ?_⟩
  obtain ⟨ao, m, c, e1, e2, e3⟩ := h3 s
  exact ⟨ao, m, c, e1, e2, Nat.le_trans e3 hB⟩

/-- Other blocks are written and new ones made; none of them holds limbs. -/
theorem Book.kept {w w' : World} {b n : Nat} {dom : List UInt8 → Bool} {bal : List UInt8 → Int} {B : Nat} {row : Option Nat} (h : Book w b n dom bal B) (hg : w.grownBy w' row) (hne : some b ≠ row)
    (hr : ∀ b, row = some b → ∀ g cs fr, w.heap[b]? ≠ some (.cells cs g fr) ∨ g ≠ 95) : Book w' b n dom bal B := by
  obtain ⟨D, h1, h2, h3⟩ := h
  refine ⟨D, h1.kept hg hne, h2, fun s => ?_⟩
  obtain ⟨ao, m, c, e1, e2, e3⟩ := h3 s
  exact ⟨ao, m, c, e1, Row.grown' e2 hg hr, e3⟩

theorem grown_below {w w' : World} (h : Below w.heap.size w w') : w.grownBy w' none := ⟨h.os, h.tape, h.output, h.size, fun k hk _ => h.block k hk⟩

theorem Book.below {w w' : World} {b n : Nat} {dom : List UInt8 → Bool} {bal : List UInt8 → Int} {B : Nat} (h : Book w b n dom bal B) (hb : Below w.heap.size w w') : Book w' b n dom bal B :=
  h.kept (grown_below hb) (by simp) (fun _ e => by cases e)

theorem Book.alloc {w : World} {b n : Nat} {dom : List UInt8 → Bool} {bal : List UInt8 → Int} {B : Nat} (h : Book w b n dom bal B) (o : Obj) : Book (w.alloc o) b n dom bal B :=
  h.below ((Below.refl _ _).alloc (Nat.le_refl _) o)

theorem grown_set {w : World} {p : Addr} (u : Value) : w.grownBy (w.setCell p u) (some p.block) :=
  ⟨(Below.refl 0 w).setCell (Nat.zero_le _) u |>.os, ((Below.refl 0 w).setCell (Nat.zero_le _) u).tape, ((Below.refl 0 w).setCell (Nat.zero_le _) u).output, ((Below.refl 0 w).setCell (Nat.zero_le _) u).size, fun k _ hne => Below.heap_setCell _ _ _ _ (fun e => hne (by rw [e]))⟩

theorem Book.set {w : World} {b n : Nat} {dom : List UInt8 → Bool} {bal : List UInt8 → Int} {B : Nat} (h : Book w b n dom bal B) {p : Addr} {cs : Array Value} {t : TypeId} {fr : Nat × Nat}
    (hp : w.heap[p.block]? = some (.cells cs t fr)) (ht : t ≠ 95) (u : Value) : Book (w.setCell p u) b n dom bal B := by
  obtain ⟨es, cl, hm⟩ := h.map
  refine h.kept (grown_set u) (fun e => ?_) (fun b' e g cs' fr' => ?_)
  · injection e with e
    rw [e, hp] at hm; cases hm
  · injection e with e
    rw [← e, hp]
    by_cases hg : g = 95
    · left; intro e2; injection e2 with e2; injection e2 with _ e3 _; exact ht (e3.trans hg)
    · exact .inr hg

theorem keyStr (s : List UInt8) (hs : s.length ≤ maxLen) : keyOf Tryz.prog 9 (str s) = some (.string s) := WideMaps.keyOf_string_mk Tryz.underlying9 (s := ⟨s.toArray⟩) (by show s.toArray.size ≤ _; simpa using hs)

/-- 'm[k]'. -/
theorem Book.look {w : World} {b n : Nat} {dom : List UInt8 → Bool} {bal : List UInt8 → Int} {B : Nat} (h : Book w b n dom bal B) (s : List UInt8) (hs : s.length ≤ maxLen) :
    ∃ ao m c, (Instr.lookup 56 (.map (some b)) (str s) false).run Tryz.prog w = .ok (numV ao m c (bal s)) w ∧ Nt w (.slice ao m c) (bal s).natAbs ∧ Limb.nl B32 (bal s).natAbs ≤ B := by
  obtain ⟨D, h1, h2, h3⟩ := h
  obtain ⟨ao, m, c, e1, e2, e3⟩ := h3 s
  obtain ⟨v, ps, hrun, hv⟩ := h1.lookup lawStr Tryz.underlying56 (zeroNum w) (show RNum zeroV = some (.held zeroV, []) from rfl) (keyStr s hs)
  rw [e1] at hv
  simp only [RNum, Option.some.injEq, Prod.mk.injEq, DataW.held.injEq] at hv
  rw [hv.1] at hrun
  exact ⟨ao, m, c, hrun, e2, e3⟩

/-- 'm[k] = v'. -/
theorem Book.store {w : World} {b n : Nat} {dom : List UInt8 → Bool} {bal : List UInt8 → Int} {B : Nat} (h : Book w b n dom bal B) (s : List UInt8) (hs : s.length ≤ maxLen) (hn : n < maxLen)
    {ao : Option Addr} {m c : Nat} {z : Int} (hz : Nt w (.slice ao m c) z.natAbs) (hzB : Limb.nl B32 z.natAbs ≤ B) :
    ∃ w', (Instr.mapUpdate 56 (.map (some b)) (str s) (numV ao m c z)).run Tryz.prog w = .ok () w' ∧ Book w' b (n + 1) (fun k => dom k || k == s) (fun k => if k = s then z else bal k) B ∧ w.grownBy w' (some b) := by
  obtain ⟨es, cl, hm⟩ := h.map
  obtain ⟨D, h1, h2, h3⟩ := h
  obtain ⟨w', hrun, hown, hturn⟩ := h1.store lawStr Tryz.underlying56 hn (keyStr s hs) (show RNum (numV ao m c z) = some (.held (numV ao m c z), []) from rfl)
  have hg := hturn.grown
  refine ⟨w', hrun, ⟨_, hown, fun k => ?_, fun k => ?_⟩, hg⟩
  · by_cases hk : k = s
    · subst hk
      rw [Maps.has_put_same h1.isMap (k := .string k) trivial]
      simp
    · rw [Maps.has_put_other (by simpa using hk), h2]
      simp [hk]
  · by_cases hk : k = s
    · subst hk
      rw [Maps.atKey_put_same h1.isMap (k := .string k) trivial]
      simp only [if_true]
      exact ⟨ao, m, c, rfl, Row.grownMap hz hg hm, hzB⟩
    · rw [Maps.atKey_put_other (by simpa using hk)]
      simp only [hk, if_false]
      obtain ⟨ao', m', c', e1, e2, e3⟩ := h3 k
      exact ⟨ao', m', c', e1, Row.grownMap e2 hg hm, e3⟩
end Go.Proofs.YtgpkbembdflnmaaGreatDoor
