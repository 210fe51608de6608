/- A part of the proof: lemmas. -/
import Derived.Test.YtddhjopopelkjaaGreatZx6
set_option linter.unusedVariables false
set_option linter.unusedSimpArgs false
namespace Go.Sx
open Go Go.RowKit
variable {P : Program} {N : Nat}
/-- Rows that nobody changes any more. -/
theorem Awp.froz {c : Code} {env : Env} {σ : St} {Q : Exit → Env → St → Prop} (l : List Nat) (hm : mutL σ.get l = true) (h : Awp P N c env (frozSt σ l) Q) : Awp P N c env σ Q :=
  fun F B w0 I0 pr r I D a w hF hR S => by
  obtain ⟨H1, S1⟩ := S.hr.froz (mutL_spec hm)
  have S' : SR B w0 I0 pr N r (immWith r I σ.get l) D env (frozSt σ l) a w := ⟨by rw [frozSt_get, frozSt_next]; exact H1, S.er.mono S1⟩
  exact Code.wpIn_mono (fun e a' w' hp => by
    obtain ⟨pr1, ms1, env1, σ1, r1, I1, D1, p1, m1, n1, d1, q1, s1, t1, z1⟩ := hp
    exact ⟨pr1, ms1, env1, σ1, r1, I1, D1, p1, m1, n1, d1, q1, s1, S1.trans t1, z1⟩) (h F B w0 I0 pr r (immWith r I σ.get l) D a w hF hR S')
end Go.Sx
