/- A region that draws its order, where one of two operations may come up. Plain lemmas. -/
import Derived.Test.YtfejjfbhlmjkeaaDoorHi
set_option linter.unusedVariables false
open Go.RowKit Go.Proofs.YtfejjfbhlmjkeaaDoorW.PrintWords
namespace Go.Proofs.YtfejjfbhlmjkeaaDoor.Hi
section
variable {F : Fence} {n : Nat} {P : Program} {ops : Array Oper} {Q : Exit → Act → World → Prop} {md : Region.Mode} {S : World → Prop}

/-- One of the two that may come up. -/
theorem hi_two {z : Nat} (i j : Nat) {oi oj : Oper} {fuel : Nat} {listed L1 L2 : Array Bool} {a : Act} {w : World} (h1 : listed.setIfInBounds i true = L1) (h2 : listed.setIfInBounds j true = L2) (hr : Region.ready md ops listed = [i, j]) (hoi : ops[i]? = some oi) (hoj : ops[j]? = some oj)
    (hi : ∀ K' : Act → World → Prop, Aside0 (∀ a w', (L1.getD z false = false → S w') → wpAnyHi F n P md ops Q S z fuel L1 a w' → K' a w') → if Region.wanted oi (yielded ops a.tmps) = true then Oper.wpIn F n P oi a w K' Q else (∀ f, oi.about P w a.eval = some f → F.fn f) ∧ K' (a.put oi.dst undef) w)
    (hj : ∀ K' : Act → World → Prop, Aside0 (∀ a w', (L2.getD z false = false → S w') → wpAnyHi F n P md ops Q S z fuel L2 a w' → K' a w') → if Region.wanted oj (yielded ops a.tmps) = true then Oper.wpIn F n P oj a w K' Q else (∀ f, oj.about P w a.eval = some f → F.fn f) ∧ K' (a.put oj.dst undef) w) : wpAnyHi F n P md ops Q S z (fuel + 1) listed a w := by
  subst h1 h2
  refine ⟨fun h0 => (by rw [hr] at h0; cases h0), fun k hk => ?_⟩
  rw [hr] at hk
  rcases List.mem_cons.1 hk with rfl | hk
  · exact wpOpIn_step hoi fun K' hK => hi K' ⟨fun a w' h1 h2 => hK a w' ⟨h1, h2⟩⟩
  · obtain rfl := List.mem_singleton.1 hk
    exact wpOpIn_step hoj fun K' hK => hj K' ⟨fun a w' h1 h2 => hK a w' ⟨h1, h2⟩⟩
end
end Go.Proofs.YtfejjfbhlmjkeaaDoor.Hi
