/- A part of the proof: lemmas. -/
import Derived.Test.YtddhjopopelkjaaGreatZx6
set_option linter.unusedVariables false
set_option linter.unusedSimpArgs false
namespace Go.Sx
open Go Go.RowKit
variable {P : Program} {N B l : Nat} {Ig : Imm} {JX : Zs → (Nat → Prop) → World → Prop}
/-! ### Loops of iterators whose names are given anew at each head -/
theorem IS.rename {n0 : Nat} {z : Zs} {env env' : Env} {σ σ' : St} {a : Act} {w : World} (S : IS N B Ig JX z env σ a w) (hr : Ren n0 env σ env' σ') : IS N B Ig JX z env' σ' a w := by
  obtain ⟨⟨r, D, O, H, hO, E, hj⟩, hd⟩ := S
  obtain ⟨r2, D2, H2, _, e2⟩ := H.rename (N := N) hr
  exact ⟨⟨r2, D2, O, H2, hO, e2 _ E, hj⟩, hd⟩
theorem AwpI.rens {c : Code} {env : Env} {σ : St} {z : Zs} {Q Q' : IQ} (h : AwpI P N B Ig JX c env σ z Q) (hq : ∀ e env σ z, Q e env σ z → (∃ n0 env' σ', Ren n0 env σ env' σ' ∧ Q' e env' σ' z) ∨ Q' e env σ z) : AwpI P N B Ig JX c env σ z Q' :=
  fun a w S => Code.wpIn_mono (fun e a' w' ⟨env1, σ1, z1, q1, s1⟩ => by
    rcases hq _ _ _ _ q1 with ⟨n0, env2, σ2, hf, q2⟩ | q2
    · exact ⟨env2, σ2, z1, q2, s1.rename hf⟩
    · exact ⟨env1, σ1, z1, q2, s1⟩) (h a w S)
theorem iloop_ren {S : Type} (μ : S → Nat) (E : S → Env) (Y : S → List (Nat × ABlk)) (Z : S → Zs) (n0 n1 : Nat) {c : Code} {Q : IQ} (G : S → Prop)
    (step : ∀ s, G s → AwpI P N B Ig JX c (E s) ⟨Y s, n1⟩ (Z s) (seqI (fun env' σ' z' => ∃ s' fl, (okF n0 fl && keysF n0 fl (Y s') && imgF n0 fl && Nat.ble n0 n1) = true ∧ RenE (fOf fl) n1 env' (E s') ∧ RenH (fOf fl) n1 σ'.get (Y s') ∧ G s' ∧ μ s' < μ s ∧ z' = Z s') Q))
    (s : S) (hs : G s) {env : Env} {σ : St} {z : Zs} (fl0 : List (Nat × Nat)) (h1 : (okF n0 fl0 && keysF n0 fl0 (Y s) && imgF n0 fl0 && Nat.ble n0 n1) = true) (h2 : RenE (fOf fl0) n1 env (E s)) (h3 : RenH (fOf fl0) n1 σ.get (Y s)) (hz : z = Z s) : AwpI P N B Ig JX (.loop c) env σ z Q := by
  have key : ∀ n s, μ s < n → G s → LoopI (AwpI P N B Ig JX) c Q n (E s) ⟨Y s, n1⟩ (Z s) := by
    intro n
    induction n with
    | zero => intro s h; omega
    | succ n ih =>
      intro s h hg
      simp only [LoopI]
      refine (step s hg).rens fun e env' σ' z' hq => ?_
      cases e with
      | normal =>
        obtain ⟨s', fl, k1, k2, k3, g', m', e3⟩ := hq
        refine .inl ⟨n0, E s', ⟨Y s', n1⟩, Ren.of fl k1 k2 k3, ?_⟩
        simp only [seqI]
        rw [e3]
        exact ih s' (by omega) g'
      | exit id => exact .inr hq
      | goto l => exact .inr hq
      | ret => exact .inr hq
      | panic ch => exact .inr hq
      | outgrown => exact .inr hq
  have := loopI_sound _ (key (μ s + 1) s (by omega) hs)
  rw [← hz] at this
  exact fun a w S => this a w (S.rename (Ren.of fl0 h1 h2 h3))
end Go.Sx
