/- The law StylusWrites as the call that its row asks for. No condition. -/
import Derived.Test.YthlnibaechobmaaKc
namespace Go.Proofs.Ythlnibaechobmaa.H
open Go Go.RowKit
set_option linter.unusedVariables false
theorem StylusWrites_calls {H : Type} {enc : TypeId × Value → H} (W : World) {a : Option Addr} {len cap : Nat} {d : DataW H} {p : List MemPlace} (k : DataW.Trod enc PG W 0 (fun _ => true) true TY.s_countermandlaw01_Item (.slice a len cap) d p) :
    Calls PG FN.countermandlaw01_StylusWrites #[.slice a len cap] W fun e w' => e = .returned (.bool true) ∧ Below W.heap.size W w' := by
  obtain ⟨l, rfl, hr, hok⟩ := Item_arg k
  refine Spec.calls (Spec.mono (StylusWrites_wp (Q := fun b _ => b = true) hr hok rfl) ?_)
  rintro v h' ⟨b, rfl, rfl⟩
  rfl
end Go.Proofs.Ythlnibaechobmaa.H
