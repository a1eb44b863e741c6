/-
The types of the lifted functions.
-/
import Derived.Test.YtlfndndmegjnlaaDoorTabD
namespace Go.Abs.TD
open Go Go.Abs Go.Proofs
structure command_Command where
  Kind : Int
  N : Int
  M : Int
  Text : ByteArray
def command_Command.cells (a : command_Command) : List AVal := [.int .i64 a.Kind, .int .i64 a.N, .int .i64 a.M, .str a.Text]
def t_command_Command : Ty command_Command := tStruct command_Command.cells (fun xs => match xs with
    | [x0, x1, x2, x3] => ((tInt .i64).de x0).bind fun y0 => ((tInt .i64).de x1).bind fun y1 => ((tInt .i64).de x2).bind fun y2 => (tStr.de x3).bind fun y3 => some ⟨y0, y1, y2, y3⟩
    | _ => none) (by
  intro xs a h
  split at h
  · obtain ⟨y0, h0, h⟩ := Option.bind_eq_some_iff.1 h
    obtain ⟨y1, h1, h⟩ := Option.bind_eq_some_iff.1 h
    obtain ⟨y2, h2, h⟩ := Option.bind_eq_some_iff.1 h
    obtain ⟨y3, h3, h⟩ := Option.bind_eq_some_iff.1 h
    injection h with h
    subst h
    exact refines_cons ((tInt .i64).ok h0) (refines_cons ((tInt .i64).ok h1) (refines_cons ((tInt .i64).ok h2) (refines_cons (tStr.ok h3) refines_nil)))
  · cases h)
structure ref21_Cmd where
  Kind : Int
  N : Int
  M : Int
  Text : ByteArray
def ref21_Cmd.cells (a : ref21_Cmd) : List AVal := [.int .i64 a.Kind, .int .i64 a.N, .int .i64 a.M, .str a.Text]
def t_ref21_Cmd : Ty ref21_Cmd := tStruct ref21_Cmd.cells (fun xs => match xs with
    | [x0, x1, x2, x3] => ((tInt .i64).de x0).bind fun y0 => ((tInt .i64).de x1).bind fun y1 => ((tInt .i64).de x2).bind fun y2 => (tStr.de x3).bind fun y3 => some ⟨y0, y1, y2, y3⟩
    | _ => none) (by
  intro xs a h
  split at h
  · obtain ⟨y0, h0, h⟩ := Option.bind_eq_some_iff.1 h
    obtain ⟨y1, h1, h⟩ := Option.bind_eq_some_iff.1 h
    obtain ⟨y2, h2, h⟩ := Option.bind_eq_some_iff.1 h
    obtain ⟨y3, h3, h⟩ := Option.bind_eq_some_iff.1 h
    injection h with h
    subst h
    exact refines_cons ((tInt .i64).ok h0) (refines_cons ((tInt .i64).ok h1) (refines_cons ((tInt .i64).ok h2) (refines_cons (tStr.ok h3) refines_nil)))
  · cases h)
structure Arr_2_Int where
  i0 : Int
  i1 : Int
def Arr_2_Int.cells (a : Arr_2_Int) : List AVal := [.int .i64 a.i0, .int .i64 a.i1]
def t_Arr_2_Int : Ty Arr_2_Int := tStruct Arr_2_Int.cells (fun xs => match xs with
    | [x0, x1] => ((tInt .i64).de x0).bind fun y0 => ((tInt .i64).de x1).bind fun y1 => some ⟨y0, y1⟩
    | _ => none) (by
  intro xs a h
  split at h
  · obtain ⟨y0, h0, h⟩ := Option.bind_eq_some_iff.1 h
    obtain ⟨y1, h1, h⟩ := Option.bind_eq_some_iff.1 h
    injection h with h
    subst h
    exact refines_cons ((tInt .i64).ok h0) (refines_cons ((tInt .i64).ok h1) refines_nil)
  · cases h)
structure command_Keys where
  Waits : Bool
def command_Keys.cells (a : command_Keys) : List AVal := [.bool a.Waits]
def t_command_Keys : Ty command_Keys := tStruct command_Keys.cells (fun xs => match xs with
    | [x0] => (tBool.de x0).bind fun y0 => some ⟨y0⟩
    | _ => none) (by
  intro xs a h
  split at h
  · obtain ⟨y0, h0, h⟩ := Option.bind_eq_some_iff.1 h
    injection h with h
    subst h
    exact refines_cons (tBool.ok h0) refines_nil
  · cases h)
end Go.Abs.TD
