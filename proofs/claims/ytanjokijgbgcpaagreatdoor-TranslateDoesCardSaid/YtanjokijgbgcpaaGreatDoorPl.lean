/-
  The law of chapter 23 about formulas without content.
-/
import Derived.Test.YtanjokijgbgcpaaGreatDoorPk
set_option linter.unusedSimpArgs false
set_option linter.unusedVariables false
namespace Go.Mdl
open Go

theorem rf_two {k : Int} {a b : Fm} (hk : k ≠ 1) (hk5 : k ≠ 5) (hk2 : k ≠ 2) : (Fm.mk k .z [] [a, b]).rf =
    if (ctNode k .z a.ct b.ct).2.2 ≠ 0 then (.mk 0 [], (ctNode k .z a.ct b.ct).2.2) else (if b.has = true then (ctNode k .z a.ct b.ct).1 else .mk 5 [], 0) := by
  have h1 := Fm.ct_two k .z [] a b
  rw [if_neg hk] at h1
  have h2 := Fm.has_two k .z [] a b
  rw [if_neg hk, if_neg hk2, if_neg hk5] at h2
  unfold Fm.rf
  rw [h1, h2]
theorem rf_ct {f : Fm} {t : Ty} {b : Bool} {e : Int} (hc : f.ct = (t, b, e)) : f.rf = if e ≠ 0 then (.mk 0 [], e) else (if f.has = true then t else .mk 5 [], 0) := by unfold Fm.rf; rw [hc]

end Go.Mdl
