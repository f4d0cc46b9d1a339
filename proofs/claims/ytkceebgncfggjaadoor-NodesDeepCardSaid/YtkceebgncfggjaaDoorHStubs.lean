/- Functions that are told of nowhere (each of these contracts asks more than there is): the walks that only mention them need no more. No condition beside those in each theorem's own line. -/
import Derived.Test.YtkceebgncfggjaaDoorPDx0
namespace Go.Proofs.YtkceebgncfggjaaDoor.PD
open Go.RowKit Go.Proofs.YtkceebgncfggjaaDoorW.PrintWords Go.Proofs.YtkceebgncfggjaaDoorW.PrintLast Go.Proofs.YtkceebgncfggjaaDoorW.PrintMore Go.Proofs.YtkceebgncfggjaaDoorX
set_option linter.unusedVariables false
def texts_Time.f (a0 : Int) (l1 : List Int) : Option (Int × Int) := none
theorem texts_Time.calls (a0 : Int) (A1 : Option Addr) (c1 : Nat) (l1 : List Int) (r1 r2 : Int) (w : World) (hr1 : Kd.C (Kd.int .u8) w A1 l1.length l1) (hc1 : l1.length ≤ c1) (h : texts_Time.f a0 l1 = some (r1, r2)) :
    Calls Tryd.prog 68 #[.int .u8 a0, .slice A1 l1.length c1] w fun e w' => e = .returned (.tuple #[.int .i64 r1, .int .i64 r2]) ∧ Below w.heap.size w w' := by cases h
def texts_Right.f (k : Nat) (a0 : Int) (l1 : List Int) : Option Bool := none
theorem texts_Right.mono : ∀ a0 l1 k, LeO (texts_Right.f k a0 l1) (texts_Right.f (k + 1) a0 l1) := fun _ _ _ => LeO.none _
theorem texts_Right.calls (k : Nat) (a0 : Int) (A1 : Option Addr) (c1 : Nat) (l1 : List Int) (r : Bool) (w : World) (hr1 : Kd.C (Kd.int .u8) w A1 l1.length l1) (hc1 : l1.length ≤ c1) (h : texts_Right.f k a0 l1 = some r) :
    Calls Tryd.prog 69 #[.int .u8 a0, .slice A1 l1.length c1] w fun e w' => e = .returned (.bool r) ∧ Below w.heap.size w w' := by cases h
def bytes_Compare.f (l0 l1 : List Int) : Option Int := none
theorem bytes_Compare.calls (A0 : Option Addr) (c0 : Nat) (l0 : List Int) (A1 : Option Addr) (c1 : Nat) (l1 : List Int) (r : Int) (w : World) (hr0 : Kd.C (Kd.int .u8) w A0 l0.length l0) (hc0 : l0.length ≤ c0) (hr1 : Kd.C (Kd.int .u8) w A1 l1.length l1) (hc1 : l1.length ≤ c1) (h : bytes_Compare.f l0 l1 = some r) :
    Calls Tryd.prog 71 #[.slice A0 l0.length c0, .slice A1 l1.length c1] w fun e w' => e = .returned (.int .i64 r) ∧ Drawn0 w w' := by cases h
def ints_OID.f (k : Nat) (l0 : List Int) : Option (List Int × Int) := none
theorem ints_OID.mono : ∀ l0 k, LeO (ints_OID.f k l0) (ints_OID.f (k + 1) l0) := fun _ _ => LeO.none _
theorem ints_OID.calls (k : Nat) (A0 : Option Addr) (c0 : Nat) (l0 : List Int) (r1 : List Int) (r2 : Int) (w : World) (hr0 : Kd.C (Kd.int .u8) w A0 l0.length l0) (hc0 : l0.length ≤ c0) (h : ints_OID.f k l0 = some (r1, r2)) :
    Calls Tryd.prog 20 #[.slice A0 l0.length c0] w fun e w' => ∃ v0_ : Value, e = .returned (.tuple #[v0_, .int .i64 r2]) ∧ Kd.R (Kd.int .i64) 3 w' w.heap.size (fun k_ => True) v0_ r1 ∧ Below w.heap.size w w' := by cases h
def utf8_Valid.f (k : Nat) (l0 : List Int) : Option Bool := none
theorem utf8_Valid.mono : ∀ l0 k, LeO (utf8_Valid.f k l0) (utf8_Valid.f (k + 1) l0) := fun _ _ => LeO.none _
theorem utf8_Valid.calls (k : Nat) (A0 : Option Addr) (c0 : Nat) (l0 : List Int) (r : Bool) (w : World) (hr0 : Kd.C (Kd.int .u8) w A0 l0.length l0) (hc0 : l0.length ≤ c0) (h : utf8_Valid.f k l0 = some r) :
    Calls Tryd.prog 85 #[.slice A0 l0.length c0] w fun e w' => e = .returned (.bool r) ∧ Drawn0 w w' := by cases h
def ints_Bool.f (k : Nat) (l0 : List Int) : Option (Bool × Int) := none
theorem ints_Bool.mono : ∀ l0 k, LeO (ints_Bool.f k l0) (ints_Bool.f (k + 1) l0) := fun _ _ => LeO.none _
theorem ints_Bool.calls (k : Nat) (A0 : Option Addr) (c0 : Nat) (l0 : List Int) (r1 : Bool) (r2 : Int) (w : World) (hr0 : Kd.C (Kd.int .u8) w A0 l0.length l0) (hc0 : l0.length ≤ c0) (h : ints_Bool.f k l0 = some (r1, r2)) :
    Calls Tryd.prog 67 #[.slice A0 l0.length c0] w fun e w' => e = .returned (.tuple #[.bool r1, .int .i64 r2]) ∧ Below w.heap.size w w' := by cases h
def slices_IsSortedFunc_byte_byte.f (k : Nat) (l0 : List (List Int)) : Option Bool := none
theorem slices_IsSortedFunc_byte_byte.mono : ∀ l0 k, LeO (slices_IsSortedFunc_byte_byte.f k l0) (slices_IsSortedFunc_byte_byte.f (k + 1) l0) := fun _ _ => LeO.none _
theorem slices_IsSortedFunc_byte_byte.calls (k : Nat) (A0 : Option Addr) (c0 : Nat) (l0 : List (List Int)) (r : Bool) (w : World) (hr0 : Kd.C (Kd.slice 5 (Kd.int .u8)) w A0 l0.length l0) (hc0 : l0.length ≤ c0) (h : slices_IsSortedFunc_byte_byte.f k l0 = some r) :
    Calls Tryd.prog 70 #[.slice A0 l0.length c0, .func (.func 71) #[] #[]] w fun e w' => e = .returned (.bool r) ∧ Drawn0 w w' := by cases h
end Go.Proofs.YtkceebgncfggjaaDoor.PD
