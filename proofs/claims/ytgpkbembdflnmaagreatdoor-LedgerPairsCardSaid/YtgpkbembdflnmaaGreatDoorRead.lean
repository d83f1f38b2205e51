/- Walk: ledger.read. -/
import Derived.Test.YtgpkbembdflnmaaGreatDoorLedA
namespace Go.Proofs.YtgpkbembdflnmaaGreatDoor
open Go.RowKit

abbrev Ent : Type := List UInt8 × List UInt8

/-- A slice of entries in memory. -/
structure Ents (w : World) (ao : Option Addr) (es : List Ent) : Prop where
  cells : ∀ j (h : j < es.length), ∃ g o, ao = some ⟨g, o, none⟩ ∧ g < w.heap.size ∧ w.cell? ⟨g, o + j * 2, none⟩ = some (str es[j].1) ∧ w.cell? ⟨g, o + j * 2 + 1, none⟩ = some (str es[j].2)

theorem Ents.below {w w' : World} {ao : Option Addr} {es : List Ent} (h : Ents w ao es) (hb : Below w.heap.size w w') : Ents w' ao es := by
  refine ⟨fun j hj => ?_⟩
  obtain ⟨g, o, e1, e2, e3, e4⟩ := h.cells j hj
  have hc := (bcell hb).1
  exact ⟨g, o, e1, Nat.lt_of_lt_of_le e2 hb.size, by rw [hc _ _ e2]; exact e3, by rw [hc _ _ e2]; exact e4⟩

/-- What a transaction comes to: an error's number, or by how much each account changes. -/
def readGo : List Ent → (List UInt8 → Bool) → (List UInt8 → Int) → Int → Except Int ((List UInt8 → Bool) × (List UInt8 → Int))
  | [], dom, bal, sum => if sum = 0 then .ok (dom, bal) else .error 191
  | (a, c) :: es, dom, bal, sum => if account ⟨a.toArray⟩ = false then .error 190 else
    match numOf c with
    | none => .error 10
    | some n => readGo es (fun k => dom k || k == a) (fun k => if k = a then bal a + n else bal k) (sum + n)

def readM (es : List Ent) : Except Int ((List UInt8 → Bool) × (List UInt8 → Int)) :=
  if es.length = 0 then .error 1 else if 64 < es.length then .error 82 else readGo es (fun _ => false) (fun _ => 0) 0

def RetRead (w : World) (M n : Nat) (r : Except Int ((List UInt8 → Bool) × (List UInt8 → Int))) (e : Ending) (w' : World) : Prop :=
  match r with
  | .error c => e = .returned (.tuple #[.map none, .int .i64 c]) ∧ Below w.heap.size w w'
  | .ok (dom, bal) => ∃ b, e = .returned (.tuple #[.map (some b), .int .i64 0]) ∧ w.heap.size ≤ b ∧ Book w' b n dom bal M ∧ Below w.heap.size w w'

theorem numOf_nl {l : List UInt8} {z : Int} (h : numOf l = some z) : Limb.nl B32 z.natAbs ≤ l.length := by
  unfold numOf at h
  split at h
  · split at h
    · rename_i h1 h2
      simp only [Bool.and_eq_true] at h2
      injection h with h; subst h
      have hg := h2.1
      unfold Dec.good at hg
      simp only [Bool.and_eq_true] at hg
      refine Nat.le_trans (by rw [Int.natAbs_neg, Int.natAbs_natCast]; exact num_nl (fun c hc => List.all_eq_true.1 hg.1.2 c hc)) ?_
      simp
    · cases h
  · split at h
    · rename_i h1 h2
      injection h with h; subst h
      unfold Dec.good at h2
      simp only [Bool.and_eq_true] at h2
      rw [Int.natAbs_natCast]
      exact num_nl (fun c hc => List.all_eq_true.1 h2.1.2 c hc)
    · cases h

theorem nl_addInt (x y : Int) : Limb.nl B32 (x + y).natAbs ≤ max (Limb.nl B32 x.natAbs) (Limb.nl B32 y.natAbs) + 1 :=
  Nat.le_trans (Limb.nl_mono B32two (Int.natAbs_add_le x y)) (Limb.nl_add B32two _ _)

set_option maxHeartbeats 4000000 in
theorem ledger_read (ao : Option Addr) (cp M : Nat) (es : List Ent) (w : World) (h : Ents w ao es) (hM : M ≤ 1000000000) (hlen : ∀ x ∈ es, x.1.length ≤ M ∧ x.2.length ≤ M) (hn : es.length ≤ 1000000000000) :
    Calls Tryz.prog 28 #[.slice ao es.length cp] w (RetRead w (M + 64) es.length (readM es)) := by
  have hmm := @run_makeMap Tryz.prog
  by_cases h0 : es.length = 0
  · have hr : readM es = .error 1 := if_pos h0
    rw [hr]
    go_enter Tryz.func28, Tryz.ntmps28
    go_wp2_with fail
    go_ret2
    exact ⟨rfl, Below.refl _ _⟩
  · by_cases h64 : 64 < es.length
    · have hr : readM es = .error 82 := by unfold readM; rw [if_neg h0, if_pos h64]
      rw [hr]
      go_enter Tryz.func28, Tryz.ntmps28
      go_wp2_with fail
      go_ret2
      exact ⟨rfl, Below.refl _ _⟩
    · have hr : readM es = readGo es (fun _ => false) (fun _ => 0) 0 := by unfold readM; rw [if_neg h0, if_neg h64]
      rw [hr]
      clear hr
      generalize hR : readGo es (fun _ => false) (fun _ => 0) 0 = R
      have HR := Lib.hid hR
      have hz10 : ((es.length : Int) == 0) = false := by simp; intro e; rw [e] at h0; simp at h0
      clear hR
      go_enter Tryz.func28, Tryz.ntmps28
      go_wp2_with fail
      clear hz10
      go_loopw [21] (fun s21 wr => ∃ (i : Nat) (dom : List UInt8 → Bool) (bal : List UInt8 → Int) (sum : Int) (so : Option Addr) (m c : Nat), s21 = .int .i64 (i : Int) ∧ i ≤ es.length ∧ Hid (readGo (es.drop i) dom bal sum = R) ∧ Hid (Book wr w.heap.size i dom bal (M + i)) ∧
          wr.heap[w.heap.size + 1]? = some (.cells #[.slice so m c, .bool (decide (sum < 0))] 68 (0, 0)) ∧ Hid (Nt wr (.slice so m c) sum.natAbs) ∧ Limb.nl B32 sum.natAbs ≤ M + i ∧ Below w.heap.size w wr) (fun s21 _ => es.length - (intOf s21).toNat)
      case atStart => exact ⟨0, _, _, 0, none, 0, 0, rfl, Nat.zero_le _, HR, Lib.hid (((Book.made w).alloc _).mono (Nat.le_refl _) (Nat.zero_le _)), at_new (by simp), Lib.hid (Nt.nil _), Nat.le_trans (Limb.nl_le B32two 0 0 (by decide)) (Nat.zero_le _), ((Below.refl _ _).alloc (Nat.le_refl _) _).alloc (by simp) _⟩
      case round =>
        obtain ⟨i, dom, bal, sum, so, m, c, rfl, hi, HG, HK, hb1, HN, hnl, hbel⟩ := hrel
        by_cases hlt : i < es.length
        · obtain ⟨g, o, rfl, hg, hc0, hc1⟩ := (h.below hbel).cells i hlt
          have hle := hlen es[i] (List.getElem_mem hlt)
          have hdrop : es.drop i = (es[i].1, es[i].2) :: es.drop (i + 1) := List.drop_eq_getElem_cons hlt
          obtain ⟨a, ha⟩ : ∃ a, es[i].1 = a := ⟨_, rfl⟩
          obtain ⟨t, ht⟩ : ∃ t, es[i].2 = t := ⟨_, rfl⟩
          rw [ha, ht] at hdrop hle
          rw [ha] at hc0
          rw [ht] at hc1
          have HG2 : Hid (readGo ((a, t) :: es.drop (i + 1)) dom bal sum = R) := by rw [← hdrop]; exact HG
          clear hdrop ha ht HG
          have HA := Lib.hid fun W => ledger_Account ⟨a.toArray⟩ W (by show a.toArray.size ≤ _; simp; omega)
          cases hacc : account ⟨a.toArray⟩ with
          | false =>
            rw [hacc] at HA
            have hRv : R = .error 190 := by rw [← HG2.out]; simp [readGo, hacc]
            obtain ⟨z, code, hcon⟩ : ∃ z code, ∀ W, Calls Tryz.prog 39 #[str t] W (RetNumE W z code) := by
              cases hno : numOf t with
              | none => exact ⟨0, 10, fun W => num_Parse_bad t W (by omega) hno⟩
              | some z => exact ⟨z, 0, fun W => num_Parse_ok t z W (by omega) hno⟩
            have HCN := Lib.hid hcon
            rw [hRv]
            clear hRv hcon hacc HG2
            go_wp2_with fail
            refine (HCN.out _).mono ?_
            rintro e w1 ⟨pa, pn, pc, rfl, hNp, hbl1⟩
            have hb7 := below_box hbl1 (b := wr.heap.size) (at_new rfl)
            have hb7a := at_old (o := Obj.cells #[.slice pa pn pc, .bool (decide (z < 0))] 68) hb7
            have hc7 := box_cell (j := 0) hb7a rfl
            have hbel1 := (hbel.alloc hbel.size (Obj.cells #[.string ⟨a.toArray⟩, .string ⟨t.toArray⟩] 38)).trans (hbl1.mono (by have := hbel.size; simp; omega))
            go_wp2_with fail
            refine (HA.out _).mono ?_
            rintro e w2 ⟨rfl, hbl2⟩
            go_wp2_with fail
            go_ret2
            exact ⟨rfl, (hbel1.alloc hbel1.size _).trans (hbl2.mono (by have := hbel1.size; simp; omega))⟩
          | true =>
            rw [hacc] at HA
            cases hno : numOf t with
            | none =>
              have hRv : R = .error 10 := by rw [← HG2.out]; simp [readGo, hacc, hno]
              have HCN := Lib.hid fun W => num_Parse_bad t W (by omega) hno
              rw [hRv]
              clear hRv hacc HG2 hno
              go_wp2_with fail
              refine (HCN.out _).mono ?_
              rintro e w1 ⟨pa, pn, pc, rfl, hNp, hbl1⟩
              have hb7 := below_box hbl1 (b := wr.heap.size) (at_new rfl)
              have hb7a := at_old (o := Obj.cells #[.slice pa pn pc, .bool false] 68) hb7
              have hc7 := box_cell (j := 0) hb7a rfl
              have hbel1 := (hbel.alloc hbel.size (Obj.cells #[.string ⟨a.toArray⟩, .string ⟨t.toArray⟩] 38)).trans (hbl1.mono (by have := hbel.size; simp; omega))
              go_wp2_with fail
              refine (HA.out _).mono ?_
              rintro e w2 ⟨rfl, hbl2⟩
              go_wp2_with fail
              go_ret2
              exact ⟨rfl, (hbel1.alloc hbel1.size _).trans (hbl2.mono (by have := hbel1.size; simp; omega))⟩
            | some z =>
              have hRv : readGo (es.drop (i + 1)) (fun k => dom k || k == a) (fun k => if k = a then bal a + z else bal k) (sum + z) = R := by
                have := HG2.out; simpa [readGo, hacc, hno] using this
              have HRv := Lib.hid hRv
              have HCN := Lib.hid fun W => num_Parse_ok t z W (by omega) hno
              have hzn := numOf_nl hno
              clear hacc HG2 hno hRv
              go_wp2_with fail
              refine (HCN.out _).mono ?_
              rintro e w1 ⟨pa, pn, pc, rfl, hNp, hbl1⟩
              have hb7 := below_box hbl1 (b := wr.heap.size) (at_new rfl)
              have hb7a := at_old (o := Obj.cells #[.slice pa pn pc, .bool (decide (z < 0))] 68) hb7
              have hc7 := box_cell (j := 0) hb7a rfl
              have hbel1 := (hbel.alloc hbel.size (Obj.cells #[.string ⟨a.toArray⟩, .string ⟨t.toArray⟩] 38)).trans (hbl1.mono (by have := hbel.size; simp; omega))
              go_wp2_with fail
              refine (HA.out _).mono ?_
              rintro e w2 ⟨rfl, hbl2⟩
              have hbW : Below wr.heap.size wr w2 := ((((Below.refl _ _).alloc (Nat.le_refl _) _).trans (hbl1.mono (by simp))).alloc (by have := hbl1.size; simp at this; omega) _).trans (hbl2.mono (by have := hbl1.size; simp at this ⊢; omega))
              have hbel2 := hbel.trans (hbW.mono hbel.size)
              have hb7w := below_box hbl2 hb7a
              have hb8w := below_box hbl2 (b := w1.heap.size) (at_new rfl)
              have hb1w := below_box hbW hb1
              have hK2 := HK.out.below hbW
              have HK2 := Lib.hid hK2
              have HN2 := Lib.hid (Row.below HN.out hbW)
              have HZ2 := Lib.hid (Row.below (hNp.alloc (Obj.cells #[.slice pa pn pc, .bool (decide (z < 0))] 68)) hbl2)
              have hne87 : wr.heap.size < w1.heap.size := by have := hbl1.size; simp at this; omega
              have hwr : w.heap.size + 2 ≤ wr.heap.size := by have := (Array.getElem?_eq_some_iff.1 hb1).1; omega
              clear hb7 hb7a hc7 hbl1 hbl2 hNp HK hK2 HN hb1 hbel hbel1 hbW hc0 hc1
              have hdr : Below w2.heap.size w2 w2.drew := ⟨rfl, rfl, rfl, Nat.le_refl _, fun _ _ => rfl⟩
              have HKd := Lib.hid (HK2.out.below hdr)
              obtain ⟨la, ln, lc, hlook, hNl, hnl2⟩ := HKd.out.look a (by unfold maxLen; omega)
              have HNL := Lib.hid hNl
              have h7 := box_cell (j := 0) hb7w rfl
              have h80 := box_cell (j := 0) hb8w rfl
              have h81 := box_cell (j := 1) hb8w rfl
              have hnn : Limb.nl B32 (bal a + z).natAbs ≤ M + (i + 1) := by have := nl_addInt (bal a) z; omega
              have HADD := Lib.hid (num_Add la pa ln pn lc pc (bal a) z w2.drew HNL.out (Row.below HZ2.out hdr) (by omega) (by omega))
              clear hNl
              go_upto_region 15 with fail
              go_cut [47] (fun _ wx => Hid (Book wx w.heap.size (i + 1) (fun k => dom k || k == a) (fun k => if k = a then bal a + z else bal k) (M + (i + 1))) ∧ w2.grownBy wx (some w.heap.size))
              case first =>
                go_region_held3 (fun w' => w'.cell? ⟨wr.heap.size, 0, none⟩ = some (str a) ∧ w'.cell? ⟨w1.heap.size, 0, none⟩ = some (.slice pa pn pc) ∧ w'.cell? ⟨w1.heap.size, 1, none⟩ = some (.bool (decide (z < 0))))
                  (first
                    | (exact ⟨h7, h80, h81⟩)
                    | (exact ⟨h7x, h80x, h81x⟩)
                    | (exact ⟨h7y, h80y, h81y⟩))
                  (first
                    | (go_at_call 29; refine HADD.out.mono ?_; rintro e w3 ⟨ao3, n3, c3, rfl, hN3, hbl3⟩; have h7x := box_cell (j := 0) (below_box (hdr.trans hbl3) hb7w) rfl; have h80x := box_cell (j := 0) (below_box (hdr.trans hbl3) hb8w) rfl; have h81x := box_cell (j := 1) (below_box (hdr.trans hbl3) hb8w) rfl; have hK3 := (HKd.out.below hbl3).mono (Nat.le_refl _) (show M + i ≤ M + (i + 1) by omega); obtain ⟨w4, hup, hK4, hg4⟩ := hK3.store a (by unfold maxLen; omega) (by unfold maxLen; omega) hN3 hnn; have h7y := box_cell (j := 0) (grown_box hg4 (below_box (hdr.trans hbl3) hb7w) (by simp; omega)) rfl; have h80y := box_cell (j := 0) (grown_box hg4 (below_box (hdr.trans hbl3) hb8w) (by simp; omega)) rfl; have h81y := box_cell (j := 1) (grown_box hg4 (below_box (hdr.trans hbl3) hb8w) (by simp; omega)) rfl; have hgr := ((grown_below (hdr.trans hbl3)).but (some w.heap.size)).andThen hg4 (fun j e => .inr e); have HK4 := Lib.hid hK4; clear hK4))
                go_wp2_with fail
                go_meet
                exact ⟨HK4, hgr⟩
              case rest =>
                obtain ⟨HK5, hgr⟩ := hcut
                have hb8c := grown_box hgr hb8w (by simp; omega)
                have hb1c := grown_box hgr hb1w (by simp)
                obtain ⟨es0, cl0, hmap⟩ := HK2.out.map
                have HNc := Lib.hid (Row.grownMap HN2.out hgr hmap)
                have HZc := Lib.hid (Row.grownMap HZ2.out hgr hmap)
                have g80 := box_cell (j := 0) hb8c rfl
                have g81 := box_cell (j := 1) hb8c rfl
                have g10 := box_cell (j := 0) hb1c rfl
                have g11 := box_cell (j := 1) hb1c rfl
                have hbelc : Below w.heap.size w wc := hbel2.grown hgr hbel2.size (fun j e => by cases e; exact Nat.le_refl _)
                have hs2 : Limb.nl B32 (sum + z).natAbs ≤ M + (i + 1) := by have := nl_addInt sum z; omega
                clear HK2 hgr hmap HKd HADD HNL hlook h7 h80 h81 hb7w hb8w hb1w HN2 HZ2 hbel2
                go_wp2_with fail
                refine (num_Add so pa m pn c pc sum z wc HNc.out HZc.out (by omega) (by omega)).mono ?_
                rintro e w5 ⟨ao5, n5, c5, rfl, hN5, hbl5⟩
                have hb1d := below_box hbl5 hb1c
                have g10 := box_cell (j := 0) hb1d rfl
                have g11 := box_cell (j := 1) hb1d rfl
                have f10 := box_free (j := 0) hb1d
                have f11 := box_free (j := 1) hb1d
                have hK6 := HK5.out.below hbl5
                have HK6 := Lib.hid ((hK6.set (p := ⟨w.heap.size + 1, 0, none⟩) hb1d (by decide) (.slice ao5 n5 c5)).set (p := ⟨w.heap.size + 1, 1, none⟩) (box_set (j := 0) _ hb1d) (by decide) (.bool (decide (sum + z < 0))))
                have HN6 := Lib.hid (Row.set (p := ⟨w.heap.size + 1, 1, none⟩) (Row.set (p := ⟨w.heap.size + 1, 0, none⟩) hN5 hb1d (by decide) (.slice ao5 n5 c5)) (box_set (j := 0) _ hb1d) (by decide) (.bool (decide (sum + z < 0))))
                have hb1e := box_set (j := 1) (.bool (decide (sum + z < 0))) (box_set (j := 0) (.slice ao5 n5 c5) hb1d)
                have hbele := ((hbelc.trans (hbl5.mono hbelc.size)).setCell (p := ⟨w.heap.size + 1, 0, none⟩) (by show w.heap.size ≤ w.heap.size + 1; omega) (.slice ao5 n5 c5)).setCell (p := ⟨w.heap.size + 1, 1, none⟩) (by show w.heap.size ≤ w.heap.size + 1; omega) (.bool (decide (sum + z < 0)))
                clear hK6 hN5 HNc HZc
                go_wp2_with fail
                exact ⟨⟨i + 1, _, _, sum + z, ao5, n5, c5, by go_num, by omega, HRv, HK6, hb1e, HN6, hs2, hbele⟩, by simp [intOf]; omega⟩
        · obtain rfl : i = es.length := by omega
          have hg2 := box_cell (j := 0) hb1 rfl
          have hg3 := box_cell (j := 1) hb1 rfl
          have hdr : es.drop es.length = [] := List.drop_length
          rw [hdr] at HG
          go_wp2_with fail
          refine (num_Sign so m c sum wr HN.out (by omega)).mono ?_
          rintro e w5 ⟨rfl, hbl5⟩
          have hbel5 := hbel.trans (hbl5.mono hbel.size)
          by_cases hz : sum = 0
          · subst hz
            have hRv : R = .ok (dom, bal) := by rw [← HG.out]; rfl
            subst hRv
            have HB5 := Lib.hid ((HK.out.below hbl5).mono (Nat.le_refl _) (show M + es.length ≤ M + 64 by omega))
            clear HG HK
            go_wp2_with fail
            go_ret2
            exact ⟨w.heap.size, by rfl, Nat.le_refl _, HB5.out, hbel5⟩
          · have hRv : R = .error 191 := by rw [← HG.out]; simp [readGo, hz]
            subst hRv
            have hsg : (sum.sign == 0) = false := by simp [hz]
            clear HG
            go_wp2_with fail
            go_ret2
            exact ⟨by rfl, hbel5⟩
end Go.Proofs.YtgpkbembdflnmaaGreatDoor
