/-
  What the bound on the arguments gives. No conditions but those that each lemma names.
-/
import Derived.Test.YtbfcjgfnlcbojaaRows
import Derived.Test.YtbfcjgfnlcbojaaPost
namespace Go.Hb
open Go.Proofs.Ytbfcjgfnlcbojaa
theorem bulk_all {H : Type} {l : List (DataW H)} (hk : Rows.uptoSmall H l = true) : Rows.uptoBulkAll l ≤ 1048576 := of_decide_eq_true hk
theorem bulk_strs {H : Type} {ws : Tl} {d : DataW H} (h : d = .nil ∧ ws = [] ∨ ∃ sp, d = .slice (ws.map fun s => .lit (.string s)) sp) : ws.length + vol ws ≤ Rows.uptoBulk d := by
  rcases h with ⟨rfl, rfl⟩ | ⟨sp, rfl⟩
  · simp [vol]
  · have key : ∀ ws : Tl, Rows.uptoBulkAll (ws.map fun s => (DataW.lit (.string s) : DataW H)) = ws.length + vol ws := by
      intro ws
      induction ws with
      | nil => simp [Rows.uptoBulkAll, vol]
      | cons a l ih => simp only [List.map_cons, Rows.uptoBulkAll, Rows.uptoBulk, ih, vol, List.length_cons, List.sum_cons]; omega
    simp only [Rows.uptoBulk, key]; omega
end Go.Hb
