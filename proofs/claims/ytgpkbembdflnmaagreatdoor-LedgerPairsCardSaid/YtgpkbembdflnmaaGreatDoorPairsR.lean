/- The row and the card of LedgerPairs. -/
import Derived.Test.YtgpkbembdflnmaaGreatDoorCards
import Derived.Test.YtgpkbembdflnmaaGreatDoorTie
import Derived.Test.YtgpkbembdflnmaaGreatDoorPairsW
import Derived.ProofKit
import Derived.OpenShut
import Derived.LaidMore
import Derived.LaidSub
import Derived.Deep.DeepHandedRow
import Derived.Deep.DeepWitnessRowRef
import Derived.Lib.LaidTab
import Derived.SizedLaws
namespace Go.Proofs.YtgpkbembdflnmaaGreatDoor
open Go.ChangeShapes Go.WideShapes Go.ChangeAt Go.RowKit

theorem own : ownKnob Tryz.prog.godebug = none := by kernel_rfl
theorem laidOut : laidOutB Tryz.prog = true := by kernel_rfl
theorem gPow : Tryz.prog.globalNamed "internal/strconv.uint64pow10" = some 0 := by kernel_rfl
theorem gPowType : (Tryz.prog.globals[0]?).map (·.type) = some 169 := by kernel_rfl
theorem cells20 : Tryz.prog.cellsOf 169 = 20 := by kernel_rfl
theorem cells1 : Tryz.prog.cellsOf 61 = 1 := by kernel_rfl
theorem cells16 : Tryz.prog.cellsOf 27 = 1 := by kernel_rfl

theorem table {W : World} (h : laidMetH Tryz.prog Rows.ledgerPairsRow.laid W) : Tab W := by
  have h1 := h.filter (fun x => x.1 == "internal/strconv.uint64pow10")
  exact Lib.tabIs_of_head (rest := []) gPow gPowType Tryz.underlying169 Tryz.underlying61 cells1 cells20 h1

set_option maxHeartbeats 1000000 in
set_option maxRecDepth 100000 in
theorem pairs_contract (H : Type) (enc : TypeId × Value → H) (W : World) (base : Nat) (args : Array Value) (ds gs : List (DataW H)) (before : List MemPlace)
    (hval0 : ∀ (j : Nat) t v, Tryz.f3.params[j]? = some t → args[j]? = some v → Value.okWide Tryz.prog W .any base t v)
    (hW : DataW.Whole enc Tryz.prog Tryz.f3.params.toList Rows.ledgerPairsSpec.vars false W args.toList ds gs before) (hL : laidMetH Tryz.prog Rows.ledgerPairsRow.laid W) :
    Calls Tryz.prog 3 args W fun e W' => ∃ v, e = .returned v ∧ Rows.ledgerPairsSpec.post enc Tryz.prog Tryz.f3 false true false false W args v W' := by
  have hval := hval0
  have hW' := hW
  obtain ⟨p, q, hA0, hV, rfl, hfz, hnd⟩ := hW
  have hA : DataW.TrodAll enc Tryz.prog W 0 (fun _ => true) true Tryz.f3.params.toList args.toList ds p := hA0
  rw [Tryz.params3] at hA hval
  obtain ⟨v0, d0, rfl, rfl, h0⟩ := trodAll_one hA
  obtain ⟨rfl, rfl⟩ := trodVars_none hV
  have h0k := h0
  obtain ⟨fuel, hf⟩ := h0
  clear hA0 hval0
  simp only [List.append_nil] at hW'
  have hlt : ∀ x ∈ p, x.block < W.heap.size := fun x hx => by simpa using hW'.lt x hx
  have hargs : ∀ (W' : World), Below W.heap.size W W' → DataW.Trod enc Tryz.prog W' 0 (fun b => decide (b < W.heap.size)) true 22 v0 d0 p :=
    fun W' hn => Below.trod laidOut (by kernel_rfl) (of_decide_eq_true (by kernel_rfl)) h0k hn hlt
  have fin : ∀ (W' : World), Below W.heap.size W W' → Rows.ledgerPairsSpec.post enc Tryz.prog Tryz.f3 false true false false W #[v0] (.bool true) W' := by
    intro W' hnx
    exact ⟨_, _, _, [], p, [], hW', trodAll_mk1 (shut_bool Tryz.underlying4 true), trodAll_mk1 (hargs _ hnx), rfl, hnx.frame _, fun h => by cases h⟩
  obtain ⟨a0, l0, c0, rfl⟩ := okWide_slice Tryz.underlying22 (hval 0 22 v0 rfl rfl)
  rcases open_ints Tryz.underlying22 Tryz.underlying27 cells16 hf with ⟨hcs, hx⟩ | ⟨a, len', cap', zs, hcs, _, hl, hm, hz, hx, hcell, hwz⟩
  · simp [Value.cells] at hcs
    obtain ⟨rfl, rfl, rfl⟩ := hcs
    exact (law_Pairs none 0 [] W ⟨fun j hj => by simp at hj⟩ (by simp) (table hL)).mono fun e W' ⟨he, hb⟩ => ⟨_, he, fin W' hb⟩
  · simp [Value.cells] at hcs
    obtain ⟨rfl, rfl, rfl⟩ := hcs
    have hzl : l0 ≤ zs.length := by rw [hz]; split <;> omega
    have hul : ((zs.take l0).map Int.toNat).length = l0 := by simp; omega
    have hb : U16s W (some a) ((zs.take l0).map Int.toNat) := by
      refine ⟨fun j hj => ?_⟩
      rw [hul] at hj
      obtain ⟨b, off, rfl, hc⟩ := ints_at hcell (by omega)
      have hcj := hc j (by omega)
      have hw := hwz (zs.getD j 0) (by rw [List.getD_eq_getElem?_getD, List.getElem?_eq_getElem (show j < zs.length by omega)]; exact List.getElem_mem _)
      have hgj : zs.getD j 0 = zs[j]'(by omega) := by simp [List.getD, show j < zs.length by omega]
      have hbd : 0 ≤ zs.getD j 0 ∧ zs.getD j 0 ≤ 65535 := by
        have h1 : (decide (IntKind.u16.min ≤ zs.getD j 0) && decide (zs.getD j 0 ≤ IntKind.u16.max)) = true := hw
        rw [show IntKind.u16.min = 0 from rfl, show IntKind.u16.max = 65535 from rfl, Bool.and_eq_true, decide_eq_true_eq, decide_eq_true_eq] at h1
        exact h1
      have hg : ((zs.take l0).map Int.toNat)[j]'(by rw [hul]; exact hj) = (zs.getD j 0).toNat := by
        rw [hgj]; simp
      refine ⟨b, off, rfl, ?_, ?_, ?_⟩
      · rcases Nat.lt_or_ge b W.heap.size with h1 | h1
        · exact h1
        · simp [World.cell?, Array.getElem?_eq_none h1] at hcj
      · rw [hg, Int.toNat_of_nonneg hbd.1]; exact hcj
      · rw [hg]; omega
    have hcl := law_Pairs (some a) c0 _ W hb (by rw [hul]; unfold maxLen at hm; omega) (table hL)
    rw [hul] at hcl
    exact hcl.mono fun e W' ⟨he, hb⟩ => ⟨_, he, fin W' hb⟩
end Go.Proofs.YtgpkbembdflnmaaGreatDoor
