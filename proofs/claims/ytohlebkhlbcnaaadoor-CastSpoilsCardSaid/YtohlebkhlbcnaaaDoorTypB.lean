/-
The types of the lifted functions.
-/
import Derived.Test.YtohlebkhlbcnaaaDoorTabB
namespace Go.Abs.TB
open Go Go.Abs Go.Proofs
structure api_Event where
  Time : Int
  Kind : Int
  Data : ByteArray
  W : Int
  H : Int
def api_Event.cells (a : api_Event) : List AVal := [.int .i64 a.Time, .int .i64 a.Kind, .str a.Data, .int .i64 a.W, .int .i64 a.H]
def t_api_Event : Ty api_Event := tStruct api_Event.cells (fun xs => match xs with
    | [x0, x1, x2, x3, x4] => ((tInt .i64).de x0).bind fun y0 => ((tInt .i64).de x1).bind fun y1 => (tStr.de x2).bind fun y2 => ((tInt .i64).de x3).bind fun y3 => ((tInt .i64).de x4).bind fun y4 => some ⟨y0, y1, y2, y3, y4⟩
    | _ => none) (by
  intro xs a h
  split at h
  · obtain ⟨y0, h0, h⟩ := Option.bind_eq_some_iff.1 h
    obtain ⟨y1, h1, h⟩ := Option.bind_eq_some_iff.1 h
    obtain ⟨y2, h2, h⟩ := Option.bind_eq_some_iff.1 h
    obtain ⟨y3, h3, h⟩ := Option.bind_eq_some_iff.1 h
    obtain ⟨y4, h4, h⟩ := Option.bind_eq_some_iff.1 h
    injection h with h
    subst h
    exact refines_cons ((tInt .i64).ok h0) (refines_cons ((tInt .i64).ok h1) (refines_cons (tStr.ok h2) (refines_cons ((tInt .i64).ok h3) (refines_cons ((tInt .i64).ok h4) refines_nil))))
  · cases h)
end Go.Abs.TB
