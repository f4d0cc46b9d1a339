/- Words of this session's own for functions that may panic with a value told by two numbers: results, and the panic's way. No condition beside those in each theorem's own line. -/
import Derived.Test.YtkceebgncfggjaaDoorXWords
namespace Go.Proofs.YtkceebgncfggjaaDoorX
open Go.RowKit Go.Proofs.YtkceebgncfggjaaDoorW.PrintWords Go.Proofs.YtkceebgncfggjaaDoorW.PrintLast Go.Proofs.YtkceebgncfggjaaDoorW.PrintMore
/-- A shift to the left by a count that is not below 0. -/
theorem shl_run {P : Program} {k : IntKind} (yk : IntKind) {x y j : Int} (h : shl k x y = j) (h0 : 0 ≤ y) (W : World) : (Op.shift .shl k x yk y).run P W = .ok (.int k j) W := by
  subst h
  have hn : ¬ y < 0 := by omega
  simp [Op.shift, hn, shl]
/-- A result, or what is wrong, and where. -/
abbrev XR (α : Type) := Except (Int × Int) α
def bindX {α β : Type} (x : Option (XR α)) (f : α → Option (XR β)) : Option (XR β) :=
  match x with
  | none => none
  | some (.ok a) => f a
  | some (.error e) => some (.error e)
theorem bindX_some {α β : Type} {x : Option (XR α)} {f : α → Option (XR β)} {r : XR β} (h : bindX x f = some r) :
    (∃ er, x = some (.error er) ∧ r = .error er) ∨ ∃ a, x = some (.ok a) ∧ f a = some r := by
  match x, h with
  | some (.ok a), h => exact .inr ⟨a, rfl, h⟩
  | some (.error e), h => exact .inl ⟨e, rfl, (Option.some.inj h).symm⟩
theorem bindX_ok {α β : Type} (a : α) (f : α → Option (XR β)) : bindX (some (.ok a)) f = f a := rfl
theorem bindX_error {α β : Type} (e : Int × Int) (f : α → Option (XR β)) : bindX (some (.error e)) f = some (.error e) := rfl
theorem LeO_bindX {α β : Type} {a a' : Option (XR α)} {f f' : α → Option (XR β)} (h : LeO a a') (k : ∀ x, LeO (f x) (f' x)) : LeO (bindX a f) (bindX a' f') := by
  intro r hr
  rcases bindX_some hr with ⟨er, hx, rfl⟩ | ⟨x, hx, hf⟩
  · rw [h _ hx]; rfl
  · rw [h _ hx]; exact k x r hf
/-- What is told of a result: of a value, or of what is wrong. -/
def XR.post {α : Type} (r : XR α) (P : α → Prop) (E : Int × Int → Prop) : Prop :=
  match r with
  | .ok a => P a
  | .error e => E e
theorem XR.post_ok {α : Type} {a : α} {P : α → Prop} {E : Int × Int → Prop} (h : P a) : XR.post (.ok a) P E := h
/-- What a panic with these two numbers hands up. -/
def wrongX (er : Int × Int) : List PanicEntry := [{ v := .iface 69 (.agg #[.int .i64 er.1, .int .i64 er.2]), recovered := false }]
def ErrX (w : World) (er : Int × Int) (e : Ending) (w' : World) : Prop := e = .panicked (wrongX er) ∧ Below w.heap.size w w'
section
variable {P : Program} {ops : Array Oper} {rest : List Oper} {oi : Oper} {a : Act} {Q : Exit → Act → World → Prop} {w : World}
/-- A call that panics, in a plain region. -/
theorem goesPL_ (N : Option Tmp) (_hd : oi.dst = N) (hg : oi.guard = none) {f : FuncId} {fn : Func} {as : Array Operand} {ts : Array TypeId} (hf : P.funcs[f]? = some fn) (hname : (fn.name == "runtime.NumGoroutine") = false) (hb : fn.body.isSome = true) (args : Array Value)
    (hop : oi.op = .call { callee := .value (.func f), args := as, argTypes := ts }) (hargs : as.map a.eval = args)
    (h : Calls P f args w fun e w' => ∃ l, e = .panicked l ∧ Q (.panic l) a w') : wpList P ops Q (oi :: rest) a w := by
  refine wpList_plain hg fun K hK => ?_
  have he := enters_ hf hname hb args w
  have hrun : (execOp a.eval oi).run P w = .ok (.enter f args) w := by
    unfold execOp
    simp [hop, resolve, Deferred.ofValue, invoke, Act.eval, hargs, he]
  unfold Oper.wp
  rw [hrun, Oper.upon_enter]
  refine h.mono fun e w'' hh => ?_
  obtain ⟨l, rfl, hk⟩ := hh
  exact hk
theorem bodyPostX {fn : Func} {R : Ending → World → Prop} {l : List PanicEntry} (hd : a.defers = []) (h : R (.panicked l) w) : bodyPost P fn R (.panic l) a w := ⟨hd, h⟩
end
end Go.Proofs.YtkceebgncfggjaaDoorX
