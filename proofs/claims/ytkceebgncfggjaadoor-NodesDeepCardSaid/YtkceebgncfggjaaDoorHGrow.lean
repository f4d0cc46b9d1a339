/- slices.Grow of a nil slice of bytes: what its call does. No condition beside those in each theorem's own line. -/
import Derived.Test.YtkceebgncfggjaaDoorPDx0
namespace Go.Proofs.YtkceebgncfggjaaDoor.PD
open Go.RowKit Go.Proofs.YtkceebgncfggjaaDoorW.PrintWords Go.Proofs.YtkceebgncfggjaaDoorW.PrintLast Go.Proofs.YtkceebgncfggjaaDoorW.PrintMore Go.Proofs.YtkceebgncfggjaaDoorX
set_option linter.unusedVariables false
def slices_Grow_byte_byte.f (l0 : List Int) (a1 : Int) : Option (List Int) := if 0 ≤ a1 ∧ a1 < 140737488355328 then some [] else none
set_option maxHeartbeats 8000000 in
set_option maxRecDepth 100000 in
theorem slices_Grow_byte_byte.calls0 (a1 : Int) (r : List Int) (w : World) (h : slices_Grow_byte_byte.f [] a1 = some r) :
    Calls Tryd.prog 78 #[.slice none 0 0, .int .i64 a1] w fun e w' => ∃ v0_ : Value, e = .returned (v0_) ∧ Kd.R (Kd.int .u8) 5 w' w.heap.size (fun _ => True) v0_ r ∧ Below w.heap.size w w' := by
  obtain ⟨i0, hi0, _, hsz, _⟩ := info_parts info5
  have hcut0 := cut_to (P := Tryd.prog) 24 5 .i64 Tryd.underlying24 hi0 none 0 0 0 (by omega) (by omega) (by omega)
  unfold slices_Grow_byte_byte.f at h
  by_cases hb : 0 ≤ a1 ∧ a1 < 140737488355328
  · rw [if_pos hb] at h
    obtain rfl := Option.some.inj h
    have HB := Aside0.mk (Below.refl w.heap.size w)
    have hneg : decide (a1 < 0) = false := decide_eq_false (by omega)
    have hw : wrap64 a1 = a1 := by unfold wrap64; omega
    by_cases hz : a1 = 0
    · subst hz
      go_enter Tryd.func78, Tryd.ntmps78
      go_wp2
      go_ret
      exact ⟨_, rfl, Kd.R_nil _ _ _ _ _, HB.out⟩
    · have hpos : decide (0 < a1) = true := decide_eq_true (by omega)
      have h0 : 0 ≤ a1 := hb.1
      have hl : ([] : List Int).length + a1.toNat < 140737488355328 := by simp; omega
      clear hb hz
      go_enter Tryd.func78, Tryd.ntmps78
      go_wp2_with (first | (at_builtin; refine Kd.R_append_zeros (Kd.int .u8) (w0 := w) w.heap.size rfl (.tmp 20) (.tmp 21) 24 3 5 (.int .u8 0) 1 rfl Tryd.underlying24 Tryd.underlying3 info5 rfl (by decide) (by omega) (.slice none 0 0) ([] : List Int) 0 a1 (fun _ => True) rfl rfl rfl ?aF ?aO h0 ?aB ?aS ?aL ?_; (case aB => exact HB.out); (case aF => exact (fun _ _ => trivial)); (case aO => exact (Kd.R_nil _ _ _ _ (fun _ => True))); (case aS => exact (below_size HB.out)); (case aL => have := hl; omega); intro v102 w8 ho hb hg hat; obtain ⟨A_, c_, rfl⟩ := Kd.R_slice ho; have HO := Aside0.mk (Kd.R_take (m := 0) ho (by omega)); have hcut1 := cut_to (P := Tryd.prog) 24 5 .i64 Tryd.underlying24 hi0 A_ _ c_ 0 (by omega) (by omega) (Kd.R_reads' ho).2.1; have hcut2 := hcut1; (try simp at hcut2); have HB2 := Aside0.mk hb; clear ho hb hg hat))
      go_ret
      exact ⟨_, rfl, HO.out, HB2.out⟩
  · rw [if_neg hb] at h
    cases h
end Go.Proofs.YtkceebgncfggjaaDoor.PD
