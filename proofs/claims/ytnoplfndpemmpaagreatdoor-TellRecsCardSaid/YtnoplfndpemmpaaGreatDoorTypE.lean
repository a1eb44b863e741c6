/-
The types of the lifted functions.
-/
import Derived.Test.YtnoplfndpemmpaaGreatDoorTabE
namespace Go.Abs.TE
open Go Go.Abs Go.Proofs
structure api_Op where
  Kind : Int
  Client : Int
  Pane : Int
  N : Int
  W : Int
  H : Int
  Data : ByteArray
def api_Op.cells (a : api_Op) : List AVal := [.int .i64 a.Kind, .int .i64 a.Client, .int .i64 a.Pane, .int .i64 a.N, .int .i64 a.W, .int .i64 a.H, .str a.Data]
def t_api_Op : Ty api_Op := tStruct api_Op.cells (fun xs => match xs with
    | [x0, x1, x2, x3, x4, x5, x6] => ((tInt .i64).de x0).bind fun y0 => ((tInt .i64).de x1).bind fun y1 => ((tInt .i64).de x2).bind fun y2 => ((tInt .i64).de x3).bind fun y3 => ((tInt .i64).de x4).bind fun y4 => ((tInt .i64).de x5).bind fun y5 => (tStr.de x6).bind fun y6 => some ⟨y0, y1, y2, y3, y4, y5, y6⟩
    | _ => none) (by
  intro xs a h
  split at h
  · obtain ⟨y0, h0, h⟩ := Option.bind_eq_some_iff.1 h
    obtain ⟨y1, h1, h⟩ := Option.bind_eq_some_iff.1 h
    obtain ⟨y2, h2, h⟩ := Option.bind_eq_some_iff.1 h
    obtain ⟨y3, h3, h⟩ := Option.bind_eq_some_iff.1 h
    obtain ⟨y4, h4, h⟩ := Option.bind_eq_some_iff.1 h
    obtain ⟨y5, h5, h⟩ := Option.bind_eq_some_iff.1 h
    obtain ⟨y6, h6, h⟩ := Option.bind_eq_some_iff.1 h
    injection h with h
    subst h
    exact refines_cons ((tInt .i64).ok h0) (refines_cons ((tInt .i64).ok h1) (refines_cons ((tInt .i64).ok h2) (refines_cons ((tInt .i64).ok h3) (refines_cons ((tInt .i64).ok h4) (refines_cons ((tInt .i64).ok h5) (refines_cons (tStr.ok h6) refines_nil))))))
  · cases h)
structure Arr_2_Int where
  i0 : Int
  i1 : Int
def Arr_2_Int.cells (a : Arr_2_Int) : List AVal := [.int .i64 a.i0, .int .i64 a.i1]
def t_Arr_2_Int : Ty Arr_2_Int := tStruct Arr_2_Int.cells (fun xs => match xs with
    | [x0, x1] => ((tInt .i64).de x0).bind fun y0 => ((tInt .i64).de x1).bind fun y1 => some ⟨y0, y1⟩
    | _ => none) (by
  intro xs a h
  split at h
  · obtain ⟨y0, h0, h⟩ := Option.bind_eq_some_iff.1 h
    obtain ⟨y1, h1, h⟩ := Option.bind_eq_some_iff.1 h
    injection h with h
    subst h
    exact refines_cons ((tInt .i64).ok h0) (refines_cons ((tInt .i64).ok h1) refines_nil)
  · cases h)
structure law13_Plan where
  Size : Arr_2_Int
  Events : Sl
  Marks : Sl
def law13_Plan.cells (a : law13_Plan) : List AVal := [.int .i64 a.Size.i0, .int .i64 a.Size.i1, .slice a.Events.b a.Events.o a.Events.n 5, .slice a.Marks.b a.Marks.o a.Marks.n 1]
def t_law13_Plan : Ty law13_Plan := tStruct law13_Plan.cells (fun xs => match xs with
    | [x0, x1, x2, x3] => ((tInt .i64).de x0).bind fun y0 => ((tInt .i64).de x1).bind fun y1 => ((tSl 5).de x2).bind fun y2 => ((tSl 1).de x3).bind fun y3 => some ⟨⟨y0, y1⟩, y2, y3⟩
    | _ => none) (by
  intro xs a h
  split at h
  · obtain ⟨y0, h0, h⟩ := Option.bind_eq_some_iff.1 h
    obtain ⟨y1, h1, h⟩ := Option.bind_eq_some_iff.1 h
    obtain ⟨y2, h2, h⟩ := Option.bind_eq_some_iff.1 h
    obtain ⟨y3, h3, h⟩ := Option.bind_eq_some_iff.1 h
    injection h with h
    subst h
    exact refines_cons ((tInt .i64).ok h0) (refines_cons ((tInt .i64).ok h1) (refines_cons ((tSl 5).ok h2) (refines_cons ((tSl 1).ok h3) refines_nil)))
  · cases h)
structure tell_screen where
  Term : Pt
def tell_screen.cells (a : tell_screen) : List AVal := [.ptr a.Term]
def t_tell_screen : Ty tell_screen := tStruct tell_screen.cells (fun xs => match xs with
    | [x0] => (tPtr.de x0).bind fun y0 => some ⟨y0⟩
    | _ => none) (by
  intro xs a h
  split at h
  · obtain ⟨y0, h0, h⟩ := Option.bind_eq_some_iff.1 h
    injection h with h
    subst h
    exact refines_cons (tPtr.ok h0) refines_nil
  · cases h)
structure tell_rec where
  Rec : Pt
def tell_rec.cells (a : tell_rec) : List AVal := [.ptr a.Rec]
def t_tell_rec : Ty tell_rec := tStruct tell_rec.cells (fun xs => match xs with
    | [x0] => (tPtr.de x0).bind fun y0 => some ⟨y0⟩
    | _ => none) (by
  intro xs a h
  split at h
  · obtain ⟨y0, h0, h⟩ := Option.bind_eq_some_iff.1 h
    injection h with h
    subst h
    exact refines_cons (tPtr.ok h0) refines_nil
  · cases h)
structure api_Style where
  Bold : Bool
  Under : Bool
  Turned : Bool
  Fore : Int
  Back : Int
def api_Style.cells (a : api_Style) : List AVal := [.bool a.Bold, .bool a.Under, .bool a.Turned, .int .i64 a.Fore, .int .i64 a.Back]
def t_api_Style : Ty api_Style := tStruct api_Style.cells (fun xs => match xs with
    | [x0, x1, x2, x3, x4] => (tBool.de x0).bind fun y0 => (tBool.de x1).bind fun y1 => (tBool.de x2).bind fun y2 => ((tInt .i64).de x3).bind fun y3 => ((tInt .i64).de x4).bind fun y4 => some ⟨y0, y1, y2, y3, y4⟩
    | _ => none) (by
  intro xs a h
  split at h
  · obtain ⟨y0, h0, h⟩ := Option.bind_eq_some_iff.1 h
    obtain ⟨y1, h1, h⟩ := Option.bind_eq_some_iff.1 h
    obtain ⟨y2, h2, h⟩ := Option.bind_eq_some_iff.1 h
    obtain ⟨y3, h3, h⟩ := Option.bind_eq_some_iff.1 h
    obtain ⟨y4, h4, h⟩ := Option.bind_eq_some_iff.1 h
    injection h with h
    subst h
    exact refines_cons (tBool.ok h0) (refines_cons (tBool.ok h1) (refines_cons (tBool.ok h2) (refines_cons ((tInt .i64).ok h3) (refines_cons ((tInt .i64).ok h4) refines_nil))))
  · cases h)
structure api_Event where
  Time : Int
  Kind : Int
  Data : ByteArray
  W : Int
  H : Int
def api_Event.cells (a : api_Event) : List AVal := [.int .i64 a.Time, .int .i64 a.Kind, .str a.Data, .int .i64 a.W, .int .i64 a.H]
def t_api_Event : Ty api_Event := tStruct api_Event.cells (fun xs => match xs with
    | [x0, x1, x2, x3, x4] => ((tInt .i64).de x0).bind fun y0 => ((tInt .i64).de x1).bind fun y1 => (tStr.de x2).bind fun y2 => ((tInt .i64).de x3).bind fun y3 => ((tInt .i64).de x4).bind fun y4 => some ⟨y0, y1, y2, y3, y4⟩
    | _ => none) (by
  intro xs a h
  split at h
  · obtain ⟨y0, h0, h⟩ := Option.bind_eq_some_iff.1 h
    obtain ⟨y1, h1, h⟩ := Option.bind_eq_some_iff.1 h
    obtain ⟨y2, h2, h⟩ := Option.bind_eq_some_iff.1 h
    obtain ⟨y3, h3, h⟩ := Option.bind_eq_some_iff.1 h
    obtain ⟨y4, h4, h⟩ := Option.bind_eq_some_iff.1 h
    injection h with h
    subst h
    exact refines_cons ((tInt .i64).ok h0) (refines_cons ((tInt .i64).ok h1) (refines_cons (tStr.ok h2) (refines_cons ((tInt .i64).ok h3) (refines_cons ((tInt .i64).ok h4) refines_nil))))
  · cases h)
structure api_Cell where
  Rune : Int
  Style : api_Style
def api_Cell.cells (a : api_Cell) : List AVal := [.int .i32 a.Rune, .bool a.Style.Bold, .bool a.Style.Under, .bool a.Style.Turned, .int .i64 a.Style.Fore, .int .i64 a.Style.Back]
def t_api_Cell : Ty api_Cell := tStruct api_Cell.cells (fun xs => match xs with
    | [x0, x1, x2, x3, x4, x5] => ((tInt .i32).de x0).bind fun y0 => (tBool.de x1).bind fun y1 => (tBool.de x2).bind fun y2 => (tBool.de x3).bind fun y3 => ((tInt .i64).de x4).bind fun y4 => ((tInt .i64).de x5).bind fun y5 => some ⟨y0, ⟨y1, y2, y3, y4, y5⟩⟩
    | _ => none) (by
  intro xs a h
  split at h
  · obtain ⟨y0, h0, h⟩ := Option.bind_eq_some_iff.1 h
    obtain ⟨y1, h1, h⟩ := Option.bind_eq_some_iff.1 h
    obtain ⟨y2, h2, h⟩ := Option.bind_eq_some_iff.1 h
    obtain ⟨y3, h3, h⟩ := Option.bind_eq_some_iff.1 h
    obtain ⟨y4, h4, h⟩ := Option.bind_eq_some_iff.1 h
    obtain ⟨y5, h5, h⟩ := Option.bind_eq_some_iff.1 h
    injection h with h
    subst h
    exact refines_cons ((tInt .i32).ok h0) (refines_cons (tBool.ok h1) (refines_cons (tBool.ok h2) (refines_cons (tBool.ok h3) (refines_cons ((tInt .i64).ok h4) (refines_cons ((tInt .i64).ok h5) refines_nil)))))
  · cases h)
structure api_Cursor where
  X : Int
  Y : Int
  Late : Bool
  Style : api_Style
def api_Cursor.cells (a : api_Cursor) : List AVal := [.int .i64 a.X, .int .i64 a.Y, .bool a.Late, .bool a.Style.Bold, .bool a.Style.Under, .bool a.Style.Turned, .int .i64 a.Style.Fore, .int .i64 a.Style.Back]
def t_api_Cursor : Ty api_Cursor := tStruct api_Cursor.cells (fun xs => match xs with
    | [x0, x1, x2, x3, x4, x5, x6, x7] => ((tInt .i64).de x0).bind fun y0 => ((tInt .i64).de x1).bind fun y1 => (tBool.de x2).bind fun y2 => (tBool.de x3).bind fun y3 => (tBool.de x4).bind fun y4 => (tBool.de x5).bind fun y5 => ((tInt .i64).de x6).bind fun y6 => ((tInt .i64).de x7).bind fun y7 => some ⟨y0, y1, y2, ⟨y3, y4, y5, y6, y7⟩⟩
    | _ => none) (by
  intro xs a h
  split at h
  · obtain ⟨y0, h0, h⟩ := Option.bind_eq_some_iff.1 h
    obtain ⟨y1, h1, h⟩ := Option.bind_eq_some_iff.1 h
    obtain ⟨y2, h2, h⟩ := Option.bind_eq_some_iff.1 h
    obtain ⟨y3, h3, h⟩ := Option.bind_eq_some_iff.1 h
    obtain ⟨y4, h4, h⟩ := Option.bind_eq_some_iff.1 h
    obtain ⟨y5, h5, h⟩ := Option.bind_eq_some_iff.1 h
    obtain ⟨y6, h6, h⟩ := Option.bind_eq_some_iff.1 h
    obtain ⟨y7, h7, h⟩ := Option.bind_eq_some_iff.1 h
    injection h with h
    subst h
    exact refines_cons ((tInt .i64).ok h0) (refines_cons ((tInt .i64).ok h1) (refines_cons (tBool.ok h2) (refines_cons (tBool.ok h3) (refines_cons (tBool.ok h4) (refines_cons (tBool.ok h5) (refines_cons ((tInt .i64).ok h6) (refines_cons ((tInt .i64).ok h7) refines_nil)))))))
  · cases h)
structure Arr_3_Int where
  i0 : Int
  i1 : Int
  i2 : Int
def Arr_3_Int.cells (a : Arr_3_Int) : List AVal := [.int .u8 a.i0, .int .u8 a.i1, .int .u8 a.i2]
def t_Arr_3_Int : Ty Arr_3_Int := tStruct Arr_3_Int.cells (fun xs => match xs with
    | [x0, x1, x2] => ((tInt .u8).de x0).bind fun y0 => ((tInt .u8).de x1).bind fun y1 => ((tInt .u8).de x2).bind fun y2 => some ⟨y0, y1, y2⟩
    | _ => none) (by
  intro xs a h
  split at h
  · obtain ⟨y0, h0, h⟩ := Option.bind_eq_some_iff.1 h
    obtain ⟨y1, h1, h⟩ := Option.bind_eq_some_iff.1 h
    obtain ⟨y2, h2, h⟩ := Option.bind_eq_some_iff.1 h
    injection h with h
    subst h
    exact refines_cons ((tInt .u8).ok h0) (refines_cons ((tInt .u8).ok h1) (refines_cons ((tInt .u8).ok h2) refines_nil))
  · cases h)
structure utf_Decoder where
  Bytes : Arr_3_Int
  N : Int
def utf_Decoder.cells (a : utf_Decoder) : List AVal := [.int .u8 a.Bytes.i0, .int .u8 a.Bytes.i1, .int .u8 a.Bytes.i2, .int .i64 a.N]
def t_utf_Decoder : Ty utf_Decoder := tStruct utf_Decoder.cells (fun xs => match xs with
    | [x0, x1, x2, x3] => ((tInt .u8).de x0).bind fun y0 => ((tInt .u8).de x1).bind fun y1 => ((tInt .u8).de x2).bind fun y2 => ((tInt .i64).de x3).bind fun y3 => some ⟨⟨y0, y1, y2⟩, y3⟩
    | _ => none) (by
  intro xs a h
  split at h
  · obtain ⟨y0, h0, h⟩ := Option.bind_eq_some_iff.1 h
    obtain ⟨y1, h1, h⟩ := Option.bind_eq_some_iff.1 h
    obtain ⟨y2, h2, h⟩ := Option.bind_eq_some_iff.1 h
    obtain ⟨y3, h3, h⟩ := Option.bind_eq_some_iff.1 h
    injection h with h
    subst h
    exact refines_cons ((tInt .u8).ok h0) (refines_cons ((tInt .u8).ok h1) (refines_cons ((tInt .u8).ok h2) (refines_cons ((tInt .i64).ok h3) refines_nil)))
  · cases h)
structure vt_Parser where
  State : Int
  Utf : utf_Decoder
  Marks : ByteArray
  Params : Sl
  Text : ByteArray
  Within : Int
def vt_Parser.cells (a : vt_Parser) : List AVal := [.int .i64 a.State, .int .u8 a.Utf.Bytes.i0, .int .u8 a.Utf.Bytes.i1, .int .u8 a.Utf.Bytes.i2, .int .i64 a.Utf.N, .str a.Marks, .slice a.Params.b a.Params.o a.Params.n 1, .str a.Text, .int .i64 a.Within]
def t_vt_Parser : Ty vt_Parser := tStruct vt_Parser.cells (fun xs => match xs with
    | [x0, x1, x2, x3, x4, x5, x6, x7, x8] => ((tInt .i64).de x0).bind fun y0 => ((tInt .u8).de x1).bind fun y1 => ((tInt .u8).de x2).bind fun y2 => ((tInt .u8).de x3).bind fun y3 => ((tInt .i64).de x4).bind fun y4 => (tStr.de x5).bind fun y5 => ((tSl 1).de x6).bind fun y6 => (tStr.de x7).bind fun y7 => ((tInt .i64).de x8).bind fun y8 => some ⟨y0, ⟨⟨y1, y2, y3⟩, y4⟩, y5, y6, y7, y8⟩
    | _ => none) (by
  intro xs a h
  split at h
  · obtain ⟨y0, h0, h⟩ := Option.bind_eq_some_iff.1 h
    obtain ⟨y1, h1, h⟩ := Option.bind_eq_some_iff.1 h
    obtain ⟨y2, h2, h⟩ := Option.bind_eq_some_iff.1 h
    obtain ⟨y3, h3, h⟩ := Option.bind_eq_some_iff.1 h
    obtain ⟨y4, h4, h⟩ := Option.bind_eq_some_iff.1 h
    obtain ⟨y5, h5, h⟩ := Option.bind_eq_some_iff.1 h
    obtain ⟨y6, h6, h⟩ := Option.bind_eq_some_iff.1 h
    obtain ⟨y7, h7, h⟩ := Option.bind_eq_some_iff.1 h
    obtain ⟨y8, h8, h⟩ := Option.bind_eq_some_iff.1 h
    injection h with h
    subst h
    exact refines_cons ((tInt .i64).ok h0) (refines_cons ((tInt .u8).ok h1) (refines_cons ((tInt .u8).ok h2) (refines_cons ((tInt .u8).ok h3) (refines_cons ((tInt .i64).ok h4) (refines_cons (tStr.ok h5) (refines_cons ((tSl 1).ok h6) (refines_cons (tStr.ok h7) (refines_cons ((tInt .i64).ok h8) refines_nil))))))))
  · cases h)
end Go.Abs.TE
