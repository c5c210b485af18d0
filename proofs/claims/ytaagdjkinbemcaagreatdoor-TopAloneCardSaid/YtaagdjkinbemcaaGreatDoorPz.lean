/-
Lemmas for the texts beside it. No condition.
-/
namespace Go.Proofs.YtaagdjkinbemcaaGreatDoor
theorem U {p : Prop} (h : p := by omega) : p := h
end Go.Proofs.YtaagdjkinbemcaaGreatDoor
