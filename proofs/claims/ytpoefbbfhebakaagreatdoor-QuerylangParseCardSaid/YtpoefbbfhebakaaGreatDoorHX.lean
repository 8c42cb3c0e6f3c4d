/- The language of queries in plain terms: a printed query is read back. No condition. -/
import Derived.Test.YtpoefbbfhebakaaGreatDoorHN
set_option linter.unusedVariables false
set_option linter.unusedSimpArgs false
open Go Go.RowKit
namespace Qv
section
variable {α : Type}
def HdOK (l : List (Tk × α)) : Prop := ∃ e r,l = e :: r ∧ e.1.bad? = false
theorem okT_hd {l : List (Tk × α)} {K : List (Tk × α) → Option (PR α)} (h : HdOK l) : okT l K = K l := by
 obtain ⟨⟨t,a⟩,r,rfl,h⟩ := h
 exact okT_cons h
end
end Qv

