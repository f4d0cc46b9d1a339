/- NodesSets: words, printed functions and plain laws that the claim uses, laid by a program of this session's. No condition beside those in each theorem's own line. -/
import Derived.ScopeJumps
import Derived.WalkMore
set_option linter.unusedVariables false
set_option linter.unusedSimpArgs false
namespace Go.Proofs.YtkceebgncfggjaaDoorX
variable {P : Program} {a : Act} {w : World} {Q : Exit → Act → World → Prop}
theorem wp_scope_fwd {c rest : Code} (l : Nat) (hf : findLabel c l = some rest)
    (h : c.wp P (Exit.jump l (fun a w => rest.wp P (Exit.jump l (fun _ _ => False) Q) a w) Q) a w) : (Code.scope c).wp P Q a w := by
  refine wp_scope_jumps l (fun a w => rest.wp P (Exit.jump l (fun _ _ => False) Q) a w) (fun _ _ => 0) hf h (fun a w hJ => ?_)
  refine Go.wp_mono hJ (fun e a w hq => ?_)
  cases e with
  | goto l' => exact hq.2.elim
  | _ => exact hq
end Go.Proofs.YtkceebgncfggjaaDoorX

