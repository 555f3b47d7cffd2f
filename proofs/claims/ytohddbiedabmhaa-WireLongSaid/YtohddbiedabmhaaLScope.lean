-- by xprint.py, a program of this session, over the kit's print.py
import Derived.Test.YtohddbiedabmhaaT0
import Derived.ScopeJumps
import Derived.WalkMore
namespace Go.Proofs.Ytohddbiedabmhaa.X
open Go.RowKit Go.Proofs.YtohddbiedabmhaaW.PrintWords Go.Proofs.YtohddbiedabmhaaW.PrintLast Go.Proofs.YtohddbiedabmhaaW.PrintMore
attribute [local go_sem] max2_int min2_int max_two min_two max_three min_three max_four min_four   -- for this text's walks alone
set_option linter.unusedVariables false
set_option linter.unusedSimpArgs false

/-- a scope that begins with some code and the label to which the run jumps back -/
theorem wp_scope_pre {P : Program} {pre rest : Code} (l : Nat) {Q : Exit → Act → World → Prop} {a : Act} {w : World} (J : Act → World → Prop) (μ : Act → World → Nat)
    (hf : findLabel pre l = none)
    (start : ∀ K : Act → World → Prop, (∀ a w, J a w → K a w) → pre.wp P (Exit.then K (fun _ _ _ => False)) a w)
    (pass : ∀ a w, J a w → rest.wp P (Exit.jump l (fun a' w' => J a' w' ∧ μ a' w' < μ a w) Q) a w) : (Code.scope (pre.seq ((Code.label l).seq rest))).wp P Q a w := by
  refine wp_scope_jumps (rest := Code.skip.seq rest) l J μ (by simp [findLabel, hf]) ?_ (fun a w hJ => wp_seq (wp_skip (pass a w hJ)))
  refine wp_seq ?_
  refine Code.wp_mono ?_ (start (((Code.label l).seq rest).wp P (Exit.jump l J Q)) ?_)
  · intro e a w h
    cases e with
    | normal => exact h
    | _ => exact h.elim
  · intro a w hJ
    refine wp_seq (wp_label ?_)
    refine Code.wp_mono ?_ (pass a w hJ)
    intro e a1 w1 he
    cases e with
    | goto l => exact ⟨he.1, he.2.1⟩
    | _ => exact he

end Go.Proofs.Ytohddbiedabmhaa.X
