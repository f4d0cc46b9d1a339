/- A scope through which the run jumps forward alone. No condition beside those in each theorem's own line. -/
import Derived.ScopeJumps
import Derived.WalkMore
namespace Go.Proofs.YtkceebgncfggjaaDoorX
variable {P : Program} {a : Act} {w : World} {Q : Exit → Act → World → Prop}
/-- Forward: behind the label nothing jumps. -/
theorem wp_scope_fwd {c rest : Code} (l : Nat) (hf : findLabel c l = some rest)
    (h : c.wp P (Exit.jump l (fun a w => rest.wp P (Exit.jump l (fun _ _ => False) Q) a w) Q) a w) : (Code.scope c).wp P Q a w := by
  refine wp_scope_jumps l (fun a w => rest.wp P (Exit.jump l (fun _ _ => False) Q) a w) (fun _ _ => 0) hf h (fun a w hJ => ?_)
  refine Go.wp_mono hJ (fun e a w hq => ?_)
  cases e with
  | goto l' => exact hq.2.elim
  | _ => exact hq
end Go.Proofs.YtkceebgncfggjaaDoorX
