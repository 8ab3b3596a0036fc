/- NumberPrints: the row and the card of NumberPrints. No conditions beyond each theorem's own. -/
import Derived.Test.YtepfodmbjojdbaaGreatDoorQ25
import Derived.Test.YtepfodmbjojdbaaGreatDoorQ26
set_option linter.all false
namespace Go.Proofs.YtepfodmbjojdbaaGreatDoor
open Go Go.ChangeShapes Go.WideShapes Go.ChangeAt Go.RowKit
theorem np_inst : Tryz.f3.isInstance Tryz.pinned.checked.prog Rows.numberPrintsRow.origin Rows.numberPrintsRow.targs := of_decide_eq_true (by kernel_rfl)
theorem np_wrap : Tryz.f3.isWrapper Tryz.pinned.checked.prog Rows.numberPrintsRow.wrapper Rows.numberPrintsRow.mainSum := by unfold Func.isWrapper; first | (rw [if_pos (by decide +kernel)]; kernel_rfl) | (rw [if_neg (by decide +kernel)]; exact ⟨rfl, rfl⟩)
theorem np_lift : ∀ os : Os, os.Started → ∀ (H : Type) (enc : TypeId × Value → H), (∀ a b, enc a = enc b → a = b) →
      ReturnsInHanded Rows.numberPrintsRow.assume Tryz.pinned.checked os 3 .any (Rows.numberPrintsRow.pre enc Tryz.pinned.checked.prog Tryz.f3 (OpenSpec.ofChange Rows.numberPrintsSpec)) (Rows.numberPrintsSpec.post enc Tryz.pinned.checked.prog Tryz.f3 Rows.numberPrintsRow.apart Rows.numberPrintsRow.fresh Rows.numberPrintsRow.handsOn Rows.numberPrintsRow.again) :=
 fun os started H enc _ => lifted os started H enc
theorem numberPrints_row : Rows.NumberPrintsSaid :=
 OpenClaim.holds_of_wide 3 Tryz.f3 rfl rfl rfl rfl rfl rfl rfl ⟨rfl, rfl, rfl, rfl, rfl⟩ rfl rfl rfl rfl rfl np_named Tryz.func3 np_closed np_inst np_wrap np_lift
theorem numberPrints_holds : Rows.NumberPrintsCardSaid :=
 Claim7.holds_tied_plain_at .later [] [.data, .data, .widerDeep, .widerDeep, .data, .data, .data, .data, .data, .data, .sentinel, .sentinel, .data, .data, .pinned, .pinned, .pinned, .pinned] true
  (true, "76578f4ab134200cbc9f192e7831cfba2409380b73d4ae9465fd8b2994949d00") true
  numberPrints_row (fun _ h => by cases h) (by kernel_rfl) (fun _ h => by cases h) numberPrints_row_tie rfl ⟨rfl, rfl⟩ (by kernel_rfl) rfl
  (fun f fn hf hfn => by
   obtain rfl : f = 3 := Option.some.inj ((show Tryz.prog.funcNamed "stencil/stencillaw03.NumberPrints" = some 3 by kernel_rfl).symm.trans hf) |>.symm
   obtain rfl : fn = Tryz.f3 := (Option.some.inj (Tryz.func3.symm.trans hfn)).symm
   exact ⟨by kernel_rfl, fun j t ht => by
    rw [Tryz.params3] at ht
    have hm : t ∈ [22, 3] := by simpa using Array.mem_of_getElem? ht
    have hall : ([22, 3].all fun u => !Tryz.prog.wantsStandIn u) = true := by kernel_rfl
    exact (show Tryz.prog.wantsStandIn t = false by simpa using List.all_eq_true.1 hall t hm)⟩)
  (by kernel_rfl)
end Go.Proofs.YtepfodmbjojdbaaGreatDoor
