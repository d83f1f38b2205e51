/- Walk: (*Ledger).Trial. -/
import Derived.Test.YtgpkbembdflnmaaGreatDoorPost
import Derived.Test.YtgpkbembdflnmaaGreatDoorIter
import Derived.Laws.AppendOwn
import Derived.OwnWalk
namespace Go.Proofs.YtgpkbembdflnmaaGreatDoor
open Go.RowKit

def entCells (es : List Ent) : List Value := es.flatMap fun e => [str e.1, str e.2]

/-- A slice of entries of the call's own. -/
def EntRow (w : World) (base : Nat) (v : Value) (es : List Ent) : Prop := w.ownsRow base 38 2 v es.length (entCells es)

theorem entinfo : (Tryz.prog.info? 38).map (fun i => (i.zero, i.size, i.bytes)) = some (some (.agg #[.string ⟨#[]⟩, .string ⟨#[]⟩]), 2, 32) := by kernel_rfl

theorem EntRow.nil (w : World) (base : Nat) : EntRow w base (.slice none 0 0) [] := World.ownsRow_nil _ _ _ _

theorem EntRow.kept {w w' : World} {base : Nat} {v : Value} {es : List Ent} (h : EntRow w base v es) (hb : Below w.heap.size w w') : EntRow w' base v es := by
  refine World.ownsRow.kept (row := none) h ⟨hb.os, hb.tape, hb.output, hb.size, fun k hk _ => hb.block k hk⟩ ?_
  cases h' : v.ownBlock
  · exact .inl rfl
  · exact .inr (by simp)

theorem entCells_append (es : List Ent) (e : Ent) : entCells (es ++ [e]) = entCells es ++ [str e.1, str e.2] := by simp [entCells]

theorem entCells_get (es : List Ent) : ∀ j (h : j < es.length), (entCells es)[j * 2]? = some (str es[j].1) ∧ (entCells es)[j * 2 + 1]? = some (str es[j].2) := by
  induction es with
  | nil => intro j h; simp at h
  | cons e es ih =>
    intro j h
    cases j with
    | zero => simp [entCells]
    | succ j =>
      have := ih j (by simpa using h)
      have e1 : (j + 1) * 2 = j * 2 + 1 + 1 := by omega
      have e2 : (j + 1) * 2 + 1 = j * 2 + 1 + 1 + 1 := by omega
      rw [e1, show entCells (e :: es) = str e.1 :: str e.2 :: entCells es from rfl]
      simpa using this

/-- A slice of the call's own read as entries. -/
theorem EntRow.ents {w : World} {base : Nat} {v : Value} {es : List Ent} (h : EntRow w base v es) : ∃ ao cp, v = .slice ao es.length cp ∧ Ents w ao es := by
  have hcell := fun g => World.ownsRow.cells (g := g) h
  rcases h.2 with ⟨rfl, hn⟩ | ⟨g, cap, cur, rfl, hb, hg, hn, hm, rest⟩
  · exact ⟨none, 0, by rw [hn], ⟨fun j hj => by omega⟩⟩
  · refine ⟨_, cap, rfl, ⟨fun j hj => ⟨g, 0, rfl, (Array.getElem?_eq_some_iff.1 hg).1, ?_, ?_⟩⟩⟩
    · have := hcell g rfl (j * 2) _ (entCells_get es j hj).1
      have hadd : (⟨g, 0, none⟩ : Addr).add (j * 2) = ⟨g, j * 2, none⟩ := by unfold Addr.add; split <;> simp_all
      rw [hadd] at this
      simpa using this
    · have := hcell g rfl (j * 2 + 1) _ (entCells_get es j hj).2
      have hadd : (⟨g, 0, none⟩ : Addr).add (j * 2 + 1) = ⟨g, j * 2 + 1, none⟩ := by unfold Addr.add; split <;> simp_all
      rw [hadd] at this
      simpa using this

theorem append_ent {W : World} {ops : Array Oper} {rest : List Oper} {o : Oper} {a : Act} {Q : Exit → Act → World → Prop} (hgd : o.guard = none) (s x : Operand)
    (hop : o.op = .call { callee := .builtin .append, args := #[s, x], argTypes := #[39, 39] }) (base : Nat) (v : Value) (es : List Ent) (e : Ent)
    (hs : a.eval s = v) (hx : a.eval x = .slice (some ⟨W.heap.size, 0, none⟩) 1 1) (hown : EntRow W base v es) (hn : es.length ≤ 1000000000000) (hbase : base ≤ W.heap.size)
    (hK : ∀ v' w', EntRow w' base v' (es ++ [e]) → (W.alloc (.cells #[str e.1, str e.2] 38)).grownBy w' v.ownBlock → wpList Tryz.prog ops Q rest (a.put o.dst v') w') :
    wpList Tryz.prog ops Q (o :: rest) a (W.alloc (.cells #[str e.1, str e.2] 38)) := by
  obtain ⟨i0, hi, hz0, hz1, hz2⟩ := info_parts entinfo
  refine wpList_append_own (W.alloc (.cells #[str e.1, str e.2] 38)) hgd s x 39 hop base 38 i0 (.agg #[.string ⟨#[]⟩, .string ⟨#[]⟩]) 2 32 Tryz.underlying39 hi hz0 hz1 hz2 rfl (by decide) v es.length (entCells es) hs (World.ownsRow.alloc hown _)
    ⟨W.heap.size, 0, none⟩ 1 1 [str e.1, str e.2] hx rfl ?_ ?_ (by unfold maxLen; omega) (by omega) (by simp; omega) ?_
  · intro j u hj
    match j, hj with
    | 0, hj => simp at hj; subst hj; exact box_cell (j := 0) (at_new rfl) rfl
    | 1, hj => simp at hj; subst hj; exact box_cell (j := 1) (at_new rfl) rfl
  · intro u hu; simp at hu; rcases hu with rfl | rfl <;> rfl
  · intro v' w' hown' hg _
    refine hK v' w' ?_ hg
    unfold EntRow
    rw [entCells_append]
    simpa using hown'

theorem strKeys_facts {w : World} {b n : Nat} {D : DataW Value} (h : w.ownsMap Tryz.prog 9 RNum b n D) : (strKeys D).Nodup ∧ ∀ s, s ∈ strKeys D ↔ Maps.has D (.string s) = true := by
  obtain ⟨es, rfl, hp, hlit⟩ := h.entries lawStr
  obtain ⟨es', he, hko⟩ := h.keysOf
  injection he with he
  subst he
  have hk : ∀ p ∈ es, ∃ x, p.1 = .string x := fun p hp => by
    obtain ⟨v, hv⟩ := hko p hp
    obtain ⟨x, _, hx, _⟩ := Maps.keyOf_str Tryz.underlying9 hv
    exact ⟨x, hx⟩
  constructor
  · show (es.map fun p => strOf p.1).Nodup
    refine List.pairwise_map.2 (hp.imp_of_mem fun {p q} hp' hq' hne e => hne ?_)
    obtain ⟨a, ha⟩ := hk p hp'
    obtain ⟨b, hb⟩ := hk q hq'
    rw [ha, hb] at e ⊢
    exact congrArg _ e
  · intro x
    rw [Maps.has_eq, List.any_eq_true]
    show x ∈ es.map (fun p => strOf p.1) ↔ _
    rw [List.mem_map]
    constructor
    · rintro ⟨p, hp', rfl⟩
      obtain ⟨a, ha⟩ := hk p hp'
      exact ⟨p, hp', by rw [ha]; simp [Lit.sameKey, strOf]⟩
    · rintro ⟨p, hp', hs⟩
      obtain ⟨a, ha⟩ := hk p hp'
      rw [ha] at hs
      exact ⟨p, hp', by rw [ha]; simpa [Lit.sameKey, strOf] using hs⟩

theorem sorted_facts (l : List (List UInt8)) : (l.mergeSort leB).Pairwise (fun x y => x ≤ y) := by
  have tr : ∀ a b c : List UInt8, leB a b = true → leB b c = true → leB a c = true := fun a b c h1 h2 => by simp only [leB, decide_eq_true_eq] at *; exact List.le_trans h1 h2
  have tot : ∀ a b : List UInt8, (leB a b || leB b a) = true := fun a b => by simp only [leB, Bool.or_eq_true, decide_eq_true_eq]; exact List.le_total a b
  exact (List.pairwise_mergeSort tr tot l).imp (fun h => by simpa [leB] using h)

theorem EntRow.lt {w : World} {base : Nat} {v : Value} {es : List Ent} (h : EntRow w base v es) : ∀ k, v.ownBlock = some k → base ≤ k ∧ k < w.heap.size := World.ownsRow.lt h

theorem EntRow.lower {w : World} {base base' : Nat} {v : Value} {es : List Ent} (h : EntRow w base v es) (hb : base' ≤ base) : EntRow w base' v es :=
  ⟨h.1, h.2.imp id (fun ⟨g, cap, cur, a1, a2, a3⟩ => ⟨g, cap, cur, a1, Nat.le_trans hb a2, a3⟩)⟩

/-- What Trial hands back: the names, each once, rising, and their balances. -/
def RetTrial (w : World) (dom : List UInt8 → Bool) (bal : List UInt8 → Int) (e : Ending) (w' : World) : Prop :=
  ∃ (v : Value) (ts : List (List UInt8)), e = .returned v ∧ ts.Nodup ∧ (∀ s, s ∈ ts ↔ dom s = true) ∧ ts.Pairwise (fun x y => x ≤ y) ∧ EntRow w' w.heap.size v (ts.map fun s => (s, numText (bal s))) ∧ Below w.heap.size w w'

set_option maxHeartbeats 4000000 in
theorem ledger_Trial (w : World) {L b n posts : Nat} {dom : List UInt8 → Bool} {bal : List UInt8 → Int} {B : Nat} (h : Led w L b n posts dom bal B) (hn : n ≤ 1000000000) (hB : B ≤ 100000000000) (htab : Tab w) :
    Calls Tryz.prog 14 #[.pointer (some ⟨L, 0, none⟩)] w (RetTrial w dom bal) := by
  have hc := box_cell (j := 0) h.box rfl
  obtain ⟨D, hown, hhas, hval⟩ := h.book
  have hsz := hown.size_le
  have HK := Lib.hid ((callsIn_wide (n := 5)).1 (Tryz.slices_Sorted_keys_32_33 b n D RNum w hown (by unfold maxLen; omega) (by omega)))
  have HJ := Lib.hid ((callsIn_wide (n := 5)).1 (Tryz.maps_Keys_33 (some b) w))
  go_enter Tryz.func14, Tryz.ntmps14
  go_wp2_with fail
  refine HJ.out.mono ?_
  rintro e w1 ⟨rfl, rfl⟩
  go_wp2_with fail
  refine HK.out.mono ?_
  rintro e w2 ⟨kv, ss, rfl, hperm, hrow, hnil, hbl⟩
  obtain ⟨ts, hts⟩ : ∃ ts, ts = ss.mergeSort leB := ⟨_, rfl⟩
  have hlen : ss.length = ts.length := by rw [hts]; exact (List.length_mergeSort ss).symm
  have hfk := strKeys_facts hown
  have hpt : ts.Perm (strKeys D) := by rw [hts]; exact (List.mergeSort_perm _ _).trans hperm
  have hnd : ts.Nodup := hpt.nodup_iff.2 hfk.1
  have hmem : ∀ s, s ∈ ts ↔ dom s = true := fun s => by rw [hpt.mem_iff, hfk.2, hhas]
  have hsort : ts.Pairwise (fun x y => x ≤ y) := by rw [hts]; exact sorted_facts ss
  have hsl : ∀ x ∈ strKeys D, x.length ≤ maxLen := strKeys_le hown Tryz.underlying9
  have hle : ts.length ≤ n := by
    have h1 := hpt.length_eq
    obtain ⟨es, he, _⟩ := hown.keysOf
    rw [he] at h1 hsz
    have h2 : (strKeys (DataW.map es : DataW Value)).length = es.length := by simp [strKeys]
    have h3 : Maps.size (DataW.map es : DataW Value) = es.length := rfl
    omega
  have hS : Strs w2 (w.alloc (.cells #[.map (some b)] 56)).heap.size kv ts := by
    rw [hlen, ← hts] at hrow
    exact hrow
  have hbw : Below w.heap.size w w2 := ((Below.refl _ _).alloc (Nat.le_refl _) _).trans (hbl.mono (by simp))
  have HH := Lib.hid h
  have HM := Lib.hid hmem
  have HSL := Lib.hid fun x (hx : x ∈ ts) => hsl x (hpt.mem_iff.1 hx)
  have HT := Lib.hid htab
  have HS := Lib.hid hS
  have HN := Lib.hid hnd
  have HO := Lib.hid hsort
  clear hts hfk hpt hnd hmem hsort hsl hperm hrow hnil hlen hown hhas hval hsz hS h
  rcases HS.out.form with ⟨rfl, rfl⟩ | ⟨g, c, rfl, hg1, hg2, hg3, hcell, _⟩
  · go_wp2_with fail
    refine wp_loop_rounds 1 ?_
    rw [rounds_succ]
    go_wp2_with fail
    go_ret
    exact ⟨_, [], rfl, HN.out, HM.out, HO.out, EntRow.nil _ _, hbw⟩
  · have HCL := Lib.hid hcell
    clear hcell
    go_wp2_with fail
    go_loopw [3, 13] (fun s3 s13 wr => ∃ i : Nat, s13 = .int .i64 (i : Int) ∧ i ≤ ts.length ∧ Hid (EntRow wr w2.heap.size s3 ((ts.take i).map fun s => (s, numText (bal s)))) ∧ Below w2.heap.size w2 wr) (fun _ s13 _ => ts.length - (intOf s13).toNat)
    case atStart => exact ⟨0, rfl, Nat.zero_le _, Lib.hid (EntRow.nil _ _), Below.refl _ _⟩
    case round =>
      obtain ⟨i, rfl, hi, HE, hb2⟩ := hrel
      by_cases hlt : i < ts.length
      · obtain ⟨s, hs⟩ : ∃ s, ts.getD i [] = s := ⟨_, rfl⟩
        have hk := HCL.out i hlt
        rw [hs] at hk
        have hki : ts[i] = s := by rw [← hs]; simp [List.getD, hlt]
        have hk2 : wr.cell? ⟨g, i, none⟩ = some (str s) := by rw [(bcell hb2).1 _ _ hg2]; exact hk
        have hsl := HSL.out s (by rw [← hki]; exact List.getElem_mem hlt)
        have hbwr := hbw.trans (hb2.mono hbw.size)
        have HBAL := Lib.hid (ledger_Balance wr (HH.out.below hbwr) s hsl hB (HT.out.below hbwr))
        clear hk hs
        go_wp2_with fail
        refine HBAL.out.mono ?_
        rintro e w3 ⟨rfl, hbl3⟩
        have HE3 := Lib.hid (HE.out.kept hbl3)
        have hb3 := hb2.trans (hbl3.mono hb2.size)
        have hlen3 : ((ts.take i).map fun s => (s, numText (bal s))).length = i := by simp; omega
        obtain ⟨T, hT⟩ : ∃ T, numText (bal s) = T := ⟨_, rfl⟩
        have hst : ((ts.take i).map fun s => (s, numText (bal s))) ++ [(s, T)] = (ts.take (i + 1)).map fun s => (s, numText (bal s)) := by
          rw [List.take_succ_eq_append_getElem hlt, hki, List.map_append, ← hT]; rfl
        have HST := Lib.hid hst
        have HT3 := Lib.hid hT
        rw [hT]
        clear hT hst HBAL HE hk2 hki
        generalize hEs : ((ts.take i).map fun s => (s, numText (bal s))) = Es at *
        clear hEs
        have hb3s := hb3.size
        go_wp2_with (at_builtin; refine append_ent rfl _ _ rfl w2.heap.size u3 Es (s, T) rfl rfl HE3.out (by omega) hb3s ?_; intro v' w4 hs4 hg4; have HS4 := Lib.hid hs4; have HG4 := Lib.hid hg4; clear hs4 hg4)
        rw [HST.out] at HS4
        have hb4 : Below w2.heap.size w2 w4 := (hb3.alloc hb3s (Obj.cells #[str (s, T).1, str (s, T).2] 38)).grown HG4.out (by simp; omega) (fun j e => (HE3.out.lt j e).1)
        exact ⟨⟨i + 1, by go_num, by omega, HS4, hb4⟩, by simp [intOf]; omega⟩
      · obtain rfl : i = ts.length := by omega
        rw [List.take_length] at HE
        go_wp2_with fail
        go_ret
        have hrow := HE.out
        refine ⟨_, ts, rfl, HN.out, HM.out, HO.out, ?_, hbw.trans (hb2.mono hbw.size)⟩
        exact EntRow.lower hrow hbw.size
end Go.Proofs.YtgpkbembdflnmaaGreatDoor
