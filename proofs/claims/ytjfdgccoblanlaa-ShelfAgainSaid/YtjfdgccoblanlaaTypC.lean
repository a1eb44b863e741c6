/-
The types of the lifted functions.
-/
import Derived.Test.YtjfdgccoblanlaaTabC
namespace Go.Abs.TC
open Go Go.Abs Go.Proofs
structure law04_Call where
  Kind : Int
  N : Int
  Name : ByteArray
  To : ByteArray
  Data : Sl
def law04_Call.cells (a : law04_Call) : List AVal := [.int .i64 a.Kind, .int .i64 a.N, .str a.Name, .str a.To, .slice a.Data.b a.Data.o a.Data.n 1]
def t_law04_Call : Ty law04_Call := tStruct law04_Call.cells (fun xs => match xs with
    | [x0, x1, x2, x3, x4] => ((tInt .i64).de x0).bind fun y0 => ((tInt .i64).de x1).bind fun y1 => (tStr.de x2).bind fun y2 => (tStr.de x3).bind fun y3 => ((tSl 1).de x4).bind fun y4 => some ⟨y0, y1, y2, y3, y4⟩
    | _ => none) (by
  intro xs a h
  split at h
  · obtain ⟨y0, h0, h⟩ := Option.bind_eq_some_iff.1 h
    obtain ⟨y1, h1, h⟩ := Option.bind_eq_some_iff.1 h
    obtain ⟨y2, h2, h⟩ := Option.bind_eq_some_iff.1 h
    obtain ⟨y3, h3, h⟩ := Option.bind_eq_some_iff.1 h
    obtain ⟨y4, h4, h⟩ := Option.bind_eq_some_iff.1 h
    injection h with h
    subst h
    exact refines_cons ((tInt .i64).ok h0) (refines_cons ((tInt .i64).ok h1) (refines_cons (tStr.ok h2) (refines_cons (tStr.ok h3) (refines_cons ((tSl 1).ok h4) refines_nil))))
  · cases h)
structure law19_One where
  Data : ByteArray
  Sure : Int
  There : Bool
def law19_One.cells (a : law19_One) : List AVal := [.str a.Data, .int .i64 a.Sure, .bool a.There]
def t_law19_One : Ty law19_One := tStruct law19_One.cells (fun xs => match xs with
    | [x0, x1, x2] => (tStr.de x0).bind fun y0 => ((tInt .i64).de x1).bind fun y1 => (tBool.de x2).bind fun y2 => some ⟨y0, y1, y2⟩
    | _ => none) (by
  intro xs a h
  split at h
  · obtain ⟨y0, h0, h⟩ := Option.bind_eq_some_iff.1 h
    obtain ⟨y1, h1, h⟩ := Option.bind_eq_some_iff.1 h
    obtain ⟨y2, h2, h⟩ := Option.bind_eq_some_iff.1 h
    injection h with h
    subst h
    exact refines_cons (tStr.ok h0) (refines_cons ((tInt .i64).ok h1) (refines_cons (tBool.ok h2) refines_nil))
  · cases h)
structure Arr_3_Int where
  i0 : Int
  i1 : Int
  i2 : Int
def Arr_3_Int.cells (a : Arr_3_Int) : List AVal := [.int .i64 a.i0, .int .i64 a.i1, .int .i64 a.i2]
def t_Arr_3_Int : Ty Arr_3_Int := tStruct Arr_3_Int.cells (fun xs => match xs with
    | [x0, x1, x2] => ((tInt .i64).de x0).bind fun y0 => ((tInt .i64).de x1).bind fun y1 => ((tInt .i64).de x2).bind fun y2 => some ⟨y0, y1, y2⟩
    | _ => none) (by
  intro xs a h
  split at h
  · obtain ⟨y0, h0, h⟩ := Option.bind_eq_some_iff.1 h
    obtain ⟨y1, h1, h⟩ := Option.bind_eq_some_iff.1 h
    obtain ⟨y2, h2, h⟩ := Option.bind_eq_some_iff.1 h
    injection h with h
    subst h
    exact refines_cons ((tInt .i64).ok h0) (refines_cons ((tInt .i64).ok h1) (refines_cons ((tInt .i64).ok h2) refines_nil))
  · cases h)
structure law04_one where
  name : ByteArray
  data : ByteArray
  sure : Int
def law04_one.cells (a : law04_one) : List AVal := [.str a.name, .str a.data, .int .i64 a.sure]
def t_law04_one : Ty law04_one := tStruct law04_one.cells (fun xs => match xs with
    | [x0, x1, x2] => (tStr.de x0).bind fun y0 => (tStr.de x1).bind fun y1 => ((tInt .i64).de x2).bind fun y2 => some ⟨y0, y1, y2⟩
    | _ => none) (by
  intro xs a h
  split at h
  · obtain ⟨y0, h0, h⟩ := Option.bind_eq_some_iff.1 h
    obtain ⟨y1, h1, h⟩ := Option.bind_eq_some_iff.1 h
    obtain ⟨y2, h2, h⟩ := Option.bind_eq_some_iff.1 h
    injection h with h
    subst h
    exact refines_cons (tStr.ok h0) (refines_cons (tStr.ok h1) (refines_cons ((tInt .i64).ok h2) refines_nil))
  · cases h)
end Go.Abs.TC
