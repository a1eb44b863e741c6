/-
The types of the lifted functions.
-/
import Derived.Test.YtcfohnfnajfahaaDoorTabA
namespace Go.Abs.TA
open Go Go.Abs Go.Proofs
structure api_Style where
  Bold : Bool
  Under : Bool
  Turned : Bool
  Fore : Int
  Back : Int
def api_Style.cells (a : api_Style) : List AVal := [.bool a.Bold, .bool a.Under, .bool a.Turned, .int .i64 a.Fore, .int .i64 a.Back]
def t_api_Style : Ty api_Style := tStruct api_Style.cells (fun xs => match xs with
    | [x0, x1, x2, x3, x4] => (tBool.de x0).bind fun y0 => (tBool.de x1).bind fun y1 => (tBool.de x2).bind fun y2 => ((tInt .i64).de x3).bind fun y3 => ((tInt .i64).de x4).bind fun y4 => some ⟨y0, y1, y2, y3, y4⟩
    | _ => none) (by
  intro xs a h
  split at h
  · obtain ⟨y0, h0, h⟩ := Option.bind_eq_some_iff.1 h
    obtain ⟨y1, h1, h⟩ := Option.bind_eq_some_iff.1 h
    obtain ⟨y2, h2, h⟩ := Option.bind_eq_some_iff.1 h
    obtain ⟨y3, h3, h⟩ := Option.bind_eq_some_iff.1 h
    obtain ⟨y4, h4, h⟩ := Option.bind_eq_some_iff.1 h
    injection h with h
    subst h
    exact refines_cons (tBool.ok h0) (refines_cons (tBool.ok h1) (refines_cons (tBool.ok h2) (refines_cons ((tInt .i64).ok h3) (refines_cons ((tInt .i64).ok h4) refines_nil))))
  · cases h)
structure api_Cell where
  Rune : Int
  Style : api_Style
def api_Cell.cells (a : api_Cell) : List AVal := [.int .i32 a.Rune, .bool a.Style.Bold, .bool a.Style.Under, .bool a.Style.Turned, .int .i64 a.Style.Fore, .int .i64 a.Style.Back]
def t_api_Cell : Ty api_Cell := tStruct api_Cell.cells (fun xs => match xs with
    | [x0, x1, x2, x3, x4, x5] => ((tInt .i32).de x0).bind fun y0 => (tBool.de x1).bind fun y1 => (tBool.de x2).bind fun y2 => (tBool.de x3).bind fun y3 => ((tInt .i64).de x4).bind fun y4 => ((tInt .i64).de x5).bind fun y5 => some ⟨y0, ⟨y1, y2, y3, y4, y5⟩⟩
    | _ => none) (by
  intro xs a h
  split at h
  · obtain ⟨y0, h0, h⟩ := Option.bind_eq_some_iff.1 h
    obtain ⟨y1, h1, h⟩ := Option.bind_eq_some_iff.1 h
    obtain ⟨y2, h2, h⟩ := Option.bind_eq_some_iff.1 h
    obtain ⟨y3, h3, h⟩ := Option.bind_eq_some_iff.1 h
    obtain ⟨y4, h4, h⟩ := Option.bind_eq_some_iff.1 h
    obtain ⟨y5, h5, h⟩ := Option.bind_eq_some_iff.1 h
    injection h with h
    subst h
    exact refines_cons ((tInt .i32).ok h0) (refines_cons (tBool.ok h1) (refines_cons (tBool.ok h2) (refines_cons (tBool.ok h3) (refines_cons ((tInt .i64).ok h4) (refines_cons ((tInt .i64).ok h5) refines_nil)))))
  · cases h)
structure Arr_2_Int where
  i0 : Int
  i1 : Int
def Arr_2_Int.cells (a : Arr_2_Int) : List AVal := [.int .i64 a.i0, .int .i64 a.i1]
def t_Arr_2_Int : Ty Arr_2_Int := tStruct Arr_2_Int.cells (fun xs => match xs with
    | [x0, x1] => ((tInt .i64).de x0).bind fun y0 => ((tInt .i64).de x1).bind fun y1 => some ⟨y0, y1⟩
    | _ => none) (by
  intro xs a h
  split at h
  · obtain ⟨y0, h0, h⟩ := Option.bind_eq_some_iff.1 h
    obtain ⟨y1, h1, h⟩ := Option.bind_eq_some_iff.1 h
    injection h with h
    subst h
    exact refines_cons ((tInt .i64).ok h0) (refines_cons ((tInt .i64).ok h1) refines_nil)
  · cases h)
structure Arr_3_Int where
  i0 : Int
  i1 : Int
  i2 : Int
def Arr_3_Int.cells (a : Arr_3_Int) : List AVal := [.int .i64 a.i0, .int .i64 a.i1, .int .i64 a.i2]
def t_Arr_3_Int : Ty Arr_3_Int := tStruct Arr_3_Int.cells (fun xs => match xs with
    | [x0, x1, x2] => ((tInt .i64).de x0).bind fun y0 => ((tInt .i64).de x1).bind fun y1 => ((tInt .i64).de x2).bind fun y2 => some ⟨y0, y1, y2⟩
    | _ => none) (by
  intro xs a h
  split at h
  · obtain ⟨y0, h0, h⟩ := Option.bind_eq_some_iff.1 h
    obtain ⟨y1, h1, h⟩ := Option.bind_eq_some_iff.1 h
    obtain ⟨y2, h2, h⟩ := Option.bind_eq_some_iff.1 h
    injection h with h
    subst h
    exact refines_cons ((tInt .i64).ok h0) (refines_cons ((tInt .i64).ok h1) (refines_cons ((tInt .i64).ok h2) refines_nil))
  · cases h)
structure law09_Deed where
  Kind : Int
  A : Int
  B : Int
  C : Int
  Cell : api_Cell
def law09_Deed.cells (a : law09_Deed) : List AVal := [.int .i64 a.Kind, .int .i64 a.A, .int .i64 a.B, .int .i64 a.C, .int .i32 a.Cell.Rune, .bool a.Cell.Style.Bold, .bool a.Cell.Style.Under, .bool a.Cell.Style.Turned, .int .i64 a.Cell.Style.Fore, .int .i64 a.Cell.Style.Back]
def t_law09_Deed : Ty law09_Deed := tStruct law09_Deed.cells (fun xs => match xs with
    | [x0, x1, x2, x3, x4, x5, x6, x7, x8, x9] => ((tInt .i64).de x0).bind fun y0 => ((tInt .i64).de x1).bind fun y1 => ((tInt .i64).de x2).bind fun y2 => ((tInt .i64).de x3).bind fun y3 => ((tInt .i32).de x4).bind fun y4 => (tBool.de x5).bind fun y5 => (tBool.de x6).bind fun y6 => (tBool.de x7).bind fun y7 => ((tInt .i64).de x8).bind fun y8 => ((tInt .i64).de x9).bind fun y9 => some ⟨y0, y1, y2, y3, ⟨y4, ⟨y5, y6, y7, y8, y9⟩⟩⟩
    | _ => none) (by
  intro xs a h
  split at h
  · obtain ⟨y0, h0, h⟩ := Option.bind_eq_some_iff.1 h
    obtain ⟨y1, h1, h⟩ := Option.bind_eq_some_iff.1 h
    obtain ⟨y2, h2, h⟩ := Option.bind_eq_some_iff.1 h
    obtain ⟨y3, h3, h⟩ := Option.bind_eq_some_iff.1 h
    obtain ⟨y4, h4, h⟩ := Option.bind_eq_some_iff.1 h
    obtain ⟨y5, h5, h⟩ := Option.bind_eq_some_iff.1 h
    obtain ⟨y6, h6, h⟩ := Option.bind_eq_some_iff.1 h
    obtain ⟨y7, h7, h⟩ := Option.bind_eq_some_iff.1 h
    obtain ⟨y8, h8, h⟩ := Option.bind_eq_some_iff.1 h
    obtain ⟨y9, h9, h⟩ := Option.bind_eq_some_iff.1 h
    injection h with h
    subst h
    exact refines_cons ((tInt .i64).ok h0) (refines_cons ((tInt .i64).ok h1) (refines_cons ((tInt .i64).ok h2) (refines_cons ((tInt .i64).ok h3) (refines_cons ((tInt .i32).ok h4) (refines_cons (tBool.ok h5) (refines_cons (tBool.ok h6) (refines_cons (tBool.ok h7) (refines_cons ((tInt .i64).ok h8) (refines_cons ((tInt .i64).ok h9) refines_nil)))))))))
  · cases h)
end Go.Abs.TA
