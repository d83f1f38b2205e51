/- The row and the card of LedgerPairs. -/
import Derived.Test.YtgpkbembdflnmaaGreatDoorPairsR
import Derived.Stop.Joined
namespace Go.Proofs.YtgpkbembdflnmaaGreatDoor
open Go.ChangeShapes Go.WideShapes Go.ChangeAt Go.RowKit

/-- A world for the witness: what the door's own run leaves, and Go's pinned table in its block. -/
noncomputable def laidWorld (os : Os) : World :=
  { World.doorLaid Tryz.prog 400 os with heap := (World.doorLaid Tryz.prog 400 os).heap.modify 4 fun
      | .cells _ t fr => .cells ((match Go.Pinned.utf8First with | .agg l => l.map (fun (d : DataW Unit) => match d with | .lit (.int k n) => Value.int k n | _ => undef) | _ => []).toArray) t fr
      | o => o }

set_option maxRecDepth 1000000 in
theorem pairs_met (os : Os) : laidMet Tryz.prog Rows.ledgerPairsRow.laid ((laidWorld os).forCall (fun _ _ => 0) ⟨#[], #[.slice none 0 0], []⟩).memory :=
  laidMet_of_run' 8 (by kernel_rfl) (by kernel_rfl)
theorem pairs_reads (os : Os) {H : Type} (enc : TypeId × Value → H) : ∃ places, DataW.whole enc Tryz.prog ((laidWorld os).forCall (fun _ _ => 0) ⟨#[], #[.slice none 0 0], []⟩).memory Tryz.f3.params.toList Rows.ledgerPairsSpec.vars false #[Value.slice none 0 0].toList 8 = some ([.nil], [], places) :=
  ⟨[], by kernel_rfl⟩

set_option maxRecDepth 1000000 in
theorem pairs_lifted (os : Os) (started : os.Started) (H : Type) (enc : TypeId × Value → H) (F : Stop.Interp) :
    ReturnsInHanded {} Tryz.checked os 3 .any ((OpenSpec.ofChange Rows.ledgerPairsSpec).preRow enc Tryz.prog Tryz.f3 Rows.ledgerPairsRow.domain false Rows.ledgerPairsRow.laid) (((OpenSpec.ofChange Rows.ledgerPairsSpec).at F).post enc Tryz.prog Tryz.f3 false true false false) := by
  obtain ⟨places, hx⟩ := pairs_reads os enc
  refine returnsInHanded_of_row (C := Tryz.checked) (s := OpenSpec.ofChange Rows.ledgerPairsSpec) own started (by kernel_rfl) Tryz.func3
    (witness_row_atRef (enc := enc) (C := Tryz.checked) false (laidWorld os) #[.slice none 0 0] rfl (by kernel_rfl) (by kernel_rfl) (by kernel_rfl)
      (OpenSpec.preRow_of_cond 8 hx (by kernel_rfl) (fun k hk => by cases hk) (by kernel_rfl) (pairs_met os))) ?_
  intro W base args ds gs before hval hW _ _ _ hL _ _
  exact pairs_contract H enc W base args ds gs before hval hW hL

theorem pairs_said : Rows.LedgerPairsSaid :=
  OpenClaim.holds_of_cond 3 Tryz.f3 rfl rfl rfl rfl rfl rfl rfl ⟨rfl, rfl, rfl, rfl, rfl⟩ rfl rfl rfl rfl rfl (by kernel_rfl) Tryz.func3 (by kernel_rfl)
    (of_decide_eq_true (by kernel_rfl)) (by unfold Func.isWrapper; first | (rw [if_pos (by decide +kernel)]; kernel_rfl) | (rw [if_neg (by decide +kernel)]; exact ⟨rfl, rfl⟩))
    (fun os started H enc _ F => by rw [OpenClaim.pre_eq_preRow]; exact pairs_lifted os started H enc F)

theorem pairs_plain (f : FuncId) (fn : Func) (hf : Tryz.pinned.checked.prog.funcNamed "noonbell/noonbelllaw19.LedgerPairs" = some f) (hfn : Tryz.pinned.checked.prog.funcs[f]? = some fn) :
    true = Tryz.pinned.checked.prog.looks [] ∧ ∀ (j : Nat) t, fn.params[j]? = some t → Tryz.pinned.checked.prog.wantsStandIn t = false := by
  obtain rfl : f = 3 := Option.some.inj ((show Tryz.prog.funcNamed "noonbell/noonbelllaw19.LedgerPairs" = some 3 by kernel_rfl).symm.trans hf) |>.symm
  obtain rfl : fn = Tryz.f3 := (Option.some.inj (Tryz.func3.symm.trans hfn)).symm
  refine ⟨by kernel_rfl, fun j t ht => ?_⟩
  rw [Tryz.params3] at ht
  obtain rfl : t = 22 := by simpa using Array.mem_of_getElem? ht
  exact (show Tryz.prog.wantsStandIn 22 = false by kernel_rfl)

/-- The card. -/
theorem pairs_card : Rows.LedgerPairsCardSaid :=
  Claim7.holds_tied_plain_at .later [] _ _ _ _ pairs_said (fun _ h => by cases h) (by kernel_rfl) (fun _ h => by cases h) ledgerPairs_row_tie rfl ⟨rfl, rfl⟩ (by kernel_rfl) rfl pairs_plain (by kernel_rfl)
end Go.Proofs.YtgpkbembdflnmaaGreatDoor
