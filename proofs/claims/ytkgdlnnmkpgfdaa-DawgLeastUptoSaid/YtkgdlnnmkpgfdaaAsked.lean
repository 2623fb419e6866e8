/-
  Walks of package dawg: a builder asked for its frozen states. No conditions but those that each theorem names.
-/
import Derived.Test.YtkgdlnnmkpgfdaaChecked
import Derived.Test.YtkgdlnnmkpgfdaaEff
import Derived.Test.YtkgdlnnmkpgfdaaWords
import Derived.Test.YtkgdlnnmkpgfdaaRef18
import Derived.Test.YtkgdlnnmkpgfdaaVisit
import Derived.Test.YtkgdlnnmkpgfdaaReg
import Derived.Test.YtkgdlnnmkpgfdaaCut
import Derived.Test.YtkgdlnnmkpgfdaaBuild
import Derived.Test.YtkgdlnnmkpgfdaaAdd
import Derived.Test.YtkgdlnnmkpgfdaaStr
import Derived.Test.YtkgdlnnmkpgfdaaPure
import Derived.Test.YtkgdlnnmkpgfdaaDawg
import Derived.Test.YtkgdlnnmkpgfdaaVis
import Derived.Test.YtkgdlnnmkpgfdaaRow
import Derived.Test.YtkgdlnnmkpgfdaaNode
import Derived.Test.YtkgdlnnmkpgfdaaMap
import Derived.Test.YtkgdlnnmkpgfdaaLast
set_option maxRecDepth 20000
set_option linter.unusedVariables false
namespace Go.Hb.Asked
open Go.Proofs
open Go.Hb.Words Go.Hb.Ref18 Go.Hb.Visit Go.Hb.Reg Go.Hb.Cut Go.Hb.Build Go.Hb.Add
theorem ag3 : aggN Try.prog 3 = some none := by kernel_rfl
theorem ag82 : aggN Try.prog 82 = some none := by kernel_rfl
theorem c31 : Callable Try.prog 31 := callable Try.func31 (by kernel_rfl) (by kernel_rfl)
theorem fo84_4 : fieldOff Try.prog 84 4 = some 4 := by kernel_rfl
theorem fo84_6 : fieldOff Try.prog 84 6 = some 6 := by kernel_rfl
theorem u82 : Try.prog.underlying 82 = some (.map 111 79) := by kernel_rfl
theorem frozen_nil (w : World) :
    Ret Try.prog 24 (List.toArray [.pointer none]) w (fun v w' => v = .int .i64 0 ∧ w' = w) := by
  refine enter Try.func24 rfl Try.ntmps24 rfl ?_
  refine sq (fun K1 hK1 => ?_)
  refine rg ?_
  refine p asg ?_
  refine nl ?_
  refine tn (hK1 _ _ ?_)
  refine sq (fun K2 hK2 => ?_)
  refine sq (fun K3 hK3 => ?_)
  refine rg ?_
  refine p (mvt (.pointer none) rfl) ?_
  refine e (cl c31 (ready_nil _) rfl fun v4 w4 hR4 => ?_)
  obtain ⟨rfl, rfl⟩ := hR4
  refine nl ?_
  refine tn (hK3 _ _ ?_)
  refine blk ?_
  refine sq (fun K4 hK4 => ?_)
  refine rg ?_
  refine p (eqi rfl rfl) ?_
  refine p asg ?_
  refine nl ?_
  refine tn (hK4 _ _ ?_)
  refine cd rfl (fun h => absurd h (by decide)) (fun hc5 => ?_)
  refine sq (fun K5 hK5 => ?_)
  refine rg ?_
  refine p (eqi rfl rfl) ?_
  refine p asg ?_
  refine nl ?_
  refine tn (hK5 _ _ ?_)
  refine cd rfl (fun h => absurd h (by decide)) (fun hc12 => ?_)
  refine skp ?_
  refine bn ?_
  refine tn (hK2 _ _ ?_)
  refine sq (fun K6 hK6 => ?_)
  refine rg ?_
  refine p asg ?_
  refine nl ?_
  refine tn (hK6 _ _ ?_)
  refine rt ?_
  refine f1 rfl rfl ?_
  exact ⟨rfl, rfl⟩
theorem frozen_w (b m : Nat) (most st cnt : Int) (last : List UInt8) (any : Bool) (vp : Value) (row : List Nat) (fz pa : List FN) (cs : List UInt8) (w : World) (hD : DB w b m most st cnt last any vp row fz pa cs) :
    Ret Try.prog 24 (List.toArray [.pointer (some ⟨b, 0, none⟩)]) w (fun v w' => w' = w ∧ v = .int .i64 (if st = 0 then (fz.length : Int) else if st = 182 then cnt else 0)) := by
  have hb0 : Blk w.heap b [.int .i64 most, str last, .bool any, vp, .map (some m), .int .i64 st, .int .i64 cnt] := ⟨_, hD.blk⟩
  have hkl : (kvl fz).length = fz.length := by simp [kvl]
  refine enter Try.func24 rfl Try.ntmps24 rfl ?_
  refine sq (fun K1 hK1 => ?_)
  refine rg ?_
  refine p asg ?_
  refine nl ?_
  refine tn (hK1 _ _ ?_)
  refine sq (fun K2 hK2 => ?_)
  refine sq (fun K3 hK3 => ?_)
  refine rg ?_
  refine p (mvt (.pointer (some ⟨b, 0, none⟩)) rfl) ?_
  refine e (cl c31 (ready_w b st _ (hb0.cel 5)) rfl fun v4 w4 hR4 => ?_)
  obtain ⟨rfl, rfl⟩ := hR4
  refine nl ?_
  refine tn (hK3 _ _ ?_)
  refine blk ?_
  refine sq (fun K4 hK4 => ?_)
  refine rg ?_
  refine p (eqi rfl rfl) ?_
  refine p asg ?_
  refine nl ?_
  refine tn (hK4 _ _ ?_)
  refine cd rfl (fun hc5 => ?_) (fun hc5 => ?_)
  · refine sq (fun K5 hK5 => ?_)
    refine rg ?_
    refine p (mvt (.pointer (some ⟨b, 0, none⟩)) rfl) ?_
    refine p (nc rfl) ?_
    refine p (fa fo84_4 rfl) ?_
    refine p (ld ag82 rfl (hb0.cel 4)) ?_
    refine p (lnm' u82 rfl rfl (hD.map)) ?_
    refine p asg ?_
    refine nl ?_
    refine tn (hK5 _ _ ?_)
    refine rt ?_
    refine br ?_
    refine tr ?_
    refine f1 rfl rfl ?_
    exact ⟨rfl, by rw [if_pos hc5, ← hkl]; rfl⟩
  · refine sq (fun K5 hK5 => ?_)
    refine rg ?_
    refine p (eqi rfl rfl) ?_
    refine p asg ?_
    refine nl ?_
    refine tn (hK5 _ _ ?_)
    refine cd rfl (fun hc12 => ?_) (fun hc12 => ?_)
    · refine sq (fun K6 hK6 => ?_)
      refine rg ?_
      refine p (mvt (.pointer (some ⟨b, 0, none⟩)) rfl) ?_
      refine p (nc rfl) ?_
      refine p (fa fo84_6 rfl) ?_
      refine p (ld ag3 rfl (hb0.cel 6)) ?_
      refine p asg ?_
      refine nl ?_
      refine tn (hK6 _ _ ?_)
      refine rt ?_
      refine br ?_
      refine tr ?_
      refine f1 rfl rfl ?_
      exact ⟨rfl, by rw [if_neg hc5, if_pos hc12]; rfl⟩
    · refine skp ?_
      refine bn ?_
      refine tn (hK2 _ _ ?_)
      refine sq (fun K6 hK6 => ?_)
      refine rg ?_
      refine p asg ?_
      refine nl ?_
      refine tn (hK6 _ _ ?_)
      refine rt ?_
      refine f1 rfl rfl ?_
      exact ⟨rfl, by rw [if_neg hc5, if_neg hc12]; rfl⟩
end Go.Hb.Asked
