/-
The table of the abstract machine for this program, made by a small program (gen.py).
-/
import Derived.Test.YtlfndndmegjnlaaDoorMAd
import Derived.Test.YtlfndndmegjnlaaDoorProg
namespace Go.Abs.TD
open Go Go.Abs Go.Proofs

def tis : List (Nat × TI) := [
  (2, { shape := [.int .i64], agg := false, bytes := 8, kind := .scalar }),
  (3, { shape := [.int .i64], agg := false, bytes := 8, kind := .scalar }),
  (4, { shape := [.bool], agg := false, bytes := 1, kind := .scalar }),
  (5, { shape := [.int .u8], agg := false, bytes := 1, kind := .scalar }),
  (9, { shape := [.str], agg := false, bytes := 16, kind := .scalar }),
  (20, { shape := [.iface], agg := false, bytes := 16, kind := .scalar }),
  (21, { shape := [.int .i32], agg := false, bytes := 4, kind := .scalar }),
  (24, { shape := [.int .i64, .int .i64, .int .i64, .str], agg := true, bytes := 40, kind := .struct [(0, 3), (1, 3), (2, 3), (3, 9)] }),
  (25, { shape := [.int .i64], agg := false, bytes := 8, kind := .scalar }),
  (28, { shape := [.int .i64, .int .i64, .int .i64, .str], agg := true, bytes := 40, kind := .struct [(0, 3), (1, 3), (2, 3), (3, 9)] }),
  (33, { shape := [.slice 2], agg := false, bytes := 24, kind := .slice 57 }),
  (35, { shape := [.slice 2], agg := false, bytes := 24, kind := .slice 38 }),
  (38, { shape := [.int .u8, .str], agg := true, bytes := 24, kind := .struct [(0, 5), (1, 9)] }),
  (43, { shape := [.int .i64, .int .i64], agg := true, bytes := 16, kind := .array 2 3 }),
  (46, { shape := [.bool], agg := true, bytes := 1, kind := .struct [(0, 4)] }),
  (53, { shape := [.str, .str, .str, .str, .str, .str, .str, .str, .str, .str, .str, .str, .str, .str, .str, .str, .str, .str], agg := true, bytes := 288, kind := .array 18 9 }),
  (57, { shape := [.int .u8, .str], agg := true, bytes := 24, kind := .struct [(0, 5), (1, 9)] }),
  (59, { shape := [.slice 1], agg := false, bytes := 24, kind := .slice 5 }),
  (60, { shape := [.ptr], agg := false, bytes := 8, kind := .scalar }),
  (66, { shape := [.slice 1], agg := false, bytes := 24, kind := .slice 9 }),
  (69, { shape := [.iface], agg := false, bytes := 16, kind := .scalar }),
  (75, { shape := [.int .u64], agg := false, bytes := 8, kind := .scalar }),
  (77, { shape := [.int .u8, .int .u8, .int .u8, .int .u8, .int .u8, .int .u8, .int .u8, .int .u8, .int .u8, .int .u8, .int .u8, .int .u8, .int .u8, .int .u8, .int .u8, .int .u8, .int .u8, .int .u8, .int .u8, .int .u8, .int .u8, .int .u8, .int .u8, .int .u8], agg := true, bytes := 24, kind := .array 24 5 }),
  (78, { shape := [.int .u64], agg := false, bytes := 8, kind := .scalar }),
  (83, { shape := [.int .u32], agg := false, bytes := 4, kind := .scalar }),
  (86, { shape := [.int .i64], agg := false, bytes := 8, kind := .scalar }),
  (89, { shape := [.ptr], agg := false, bytes := 8, kind := .scalar }),
  (93, { shape := [.int .u64, .int .u64, .int .u64, .int .u64, .int .u64, .int .u64, .int .u64, .int .u64, .int .u64, .int .u64, .int .u64, .int .u64, .int .u64, .int .u64, .int .u64, .int .u64, .int .u64, .int .u64, .int .u64, .int .u64], agg := true, bytes := 160, kind := .array 20 78 }),
  (94, { shape := [.int .u8, .int .u8, .int .u8, .int .u8, .int .u8, .int .u8, .int .u8, .int .u8, .int .u8, .int .u8, .int .u8, .int .u8, .int .u8, .int .u8, .int .u8, .int .u8, .int .u8, .int .u8, .int .u8, .int .u8, .int .u8, .int .u8, .int .u8, .int .u8, .int .u8, .int .u8, .int .u8, .int .u8, .int .u8, .int .u8, .int .u8, .int .u8, .int .u8, .int .u8, .int .u8, .int .u8, .int .u8, .int .u8, .int .u8, .int .u8, .int .u8, .int .u8, .int .u8, .int .u8, .int .u8, .int .u8, .int .u8, .int .u8, .int .u8, .int .u8, .int .u8, .int .u8, .int .u8, .int .u8, .int .u8, .int .u8, .int .u8, .int .u8, .int .u8, .int .u8, .int .u8, .int .u8, .int .u8, .int .u8, .int .u8], agg := true, bytes := 65, kind := .array 65 5 }),
  (101, { shape := [.str, .str, .iface], agg := true, bytes := 48, kind := .struct [(0, 9), (1, 9), (2, 69)] }),
  (105, { shape := [.ptr], agg := false, bytes := 8, kind := .scalar }),
  (106, { shape := [.ptr], agg := false, bytes := 8, kind := .scalar }),
  (108, { shape := [.str], agg := true, bytes := 16, kind := .struct [(0, 9)] }),
  (109, { shape := [.int .u8, .int .u8, .int .u8, .int .u8, .int .u8, .int .u8, .int .u8, .int .u8, .int .u8, .int .u8, .int .u8, .int .u8, .int .u8, .int .u8, .int .u8, .int .u8, .int .u8, .int .u8, .int .u8, .int .u8, .int .u8, .int .u8, .int .u8, .int .u8, .int .u8, .int .u8, .int .u8, .int .u8, .int .u8, .int .u8, .int .u8, .int .u8], agg := true, bytes := 32, kind := .array 32 5 }),
  (110, { shape := [.int .u8, .int .u8, .int .u8, .int .u8, .int .u8, .int .u8, .int .u8, .int .u8, .int .u8, .int .u8, .int .u8, .int .u8, .int .u8, .int .u8, .int .u8, .int .u8, .int .u8, .int .u8, .int .u8, .int .u8, .int .u8, .int .u8, .int .u8, .int .u8, .int .u8, .int .u8, .int .u8, .int .u8, .int .u8, .int .u8, .int .u8, .int .u8, .int .u8, .int .u8, .int .u8, .int .u8, .int .u8, .int .u8, .int .u8, .int .u8, .int .u8, .int .u8, .int .u8, .int .u8, .int .u8, .int .u8, .int .u8, .int .u8, .int .u8, .int .u8, .int .u8, .int .u8, .int .u8, .int .u8, .int .u8, .int .u8, .int .u8, .int .u8, .int .u8, .int .u8, .int .u8, .int .u8, .int .u8, .int .u8], agg := true, bytes := 64, kind := .array 64 5 })]
def tups : List (Nat × List Nat) := [(0, []), (26, [24, 25]), (29, [28, 25]), (47, [46, 9, 4]), (51, [9, 9, 4]), (61, [3, 4]), (63, [3, 3, 4]), (70, [3, 69]), (81, [59, 9]), (84, [83, 83]), (87, [2, 69]), (97, [78, 69])]
noncomputable def fns : List (Nat × Func) := [(3, Tryd.f3), (4, Tryd.f4), (5, Tryd.f5), (6, Tryd.f6), (7, Tryd.f7), (8, Tryd.f8), (9, Tryd.f9), (10, Tryd.f10), (11, Tryd.f11), (12, Tryd.f12), (13, Tryd.f13), (14, Tryd.f14), (15, Tryd.f15), (16, Tryd.f16), (17, Tryd.f17), (18, Tryd.f18), (19, Tryd.f19), (20, Tryd.f20), (21, Tryd.f21), (22, Tryd.f22), (23, Tryd.f23), (24, Tryd.f24), (25, Tryd.f25), (26, Tryd.f26), (27, Tryd.f27), (28, Tryd.f28), (29, Tryd.f29), (30, Tryd.f30), (31, Tryd.f31), (32, Tryd.f32), (33, Tryd.f33), (34, Tryd.f34), (35, Tryd.f35), (36, Tryd.f36), (38, Tryd.f38), (39, Tryd.f39), (40, Tryd.f40), (41, Tryd.f41), (42, Tryd.f42), (43, Tryd.f43), (44, Tryd.f44), (45, Tryd.f45), (47, Tryd.f47), (48, Tryd.f48), (49, Tryd.f49), (50, Tryd.f50), (51, Tryd.f51), (52, Tryd.f52), (53, Tryd.f53), (54, Tryd.f54), (55, Tryd.f55), (56, Tryd.f56), (57, Tryd.f57), (58, Tryd.f58), (59, Tryd.f59), (60, Tryd.f60), (61, Tryd.f61), (62, Tryd.f62), (63, Tryd.f63), (64, Tryd.f64), (93, Tryd.f93)]
def locs : List (Nat × List Nat) := [(3, [3, 5]), (4, [7]), (5, [3]), (6, [4, 7, 8]), (7, [6]), (8, [1]), (9, [2]), (10, [2]), (11, [2, 3]), (12, [5]), (14, [6]), (15, [1]), (16, [3, 6]), (17, [19, 27]), (21, [4, 6, 8]), (22, [10, 30, 38, 46]), (28, [8])]
def masks : List (Nat × List (Nat × List Nat)) := [(4, [(7, [4, 6, 7, 8, 9, 10, 11, 12, 13, 14, 18, 19, 20, 21, 22, 23, 24, 25, 26, 27, 28, 29, 30, 31, 32, 33, 34, 35, 36, 37, 38, 39, 40, 41, 42, 43, 44, 45, 46, 47, 48, 49])]), (7, [(9, [4, 8, 9, 10, 11, 12, 13, 14, 15, 16, 17, 18, 19, 20, 21, 22, 23, 24, 25, 28, 29, 30, 31, 32, 33, 34, 35, 36, 37, 38, 39, 40, 41, 42, 43, 44, 45, 46, 47, 48, 49, 50, 51, 52, 53, 54, 55, 56, 57, 58, 59, 60, 61, 62, 63, 64, 65, 66, 67, 68, 69, 70, 71, 72, 73, 74, 75, 76, 77, 78, 79, 80, 81, 82, 83, 84, 85, 86, 87, 88, 89, 90, 91])]), (9, [(3, [0, 3, 7, 8, 9, 10, 11, 12, 13, 14, 15, 16, 19, 20, 21, 22, 23, 24, 25, 26, 27, 28, 29, 30, 31, 32, 33, 34, 35])]), (10, [(2, [3, 5, 6, 7, 8, 9, 10, 11, 12, 13, 14, 15, 16, 17, 18, 19, 20, 21, 22, 23, 24, 25, 26, 27, 28, 29, 30, 31, 32, 33, 34, 35, 36, 37, 38, 39, 40, 41, 42, 43, 44, 45, 46, 47, 48, 49, 50, 51, 52, 53, 54, 55, 56, 57])]), (12, [(3, [0, 2, 5, 6, 10, 11, 12, 13, 14, 15, 16, 17, 18, 19])]), (13, [(2, [4, 6, 7, 8, 9, 10, 11, 12, 13, 14, 15, 16, 17, 18, 19, 20, 21, 22, 23, 24])]), (14, [(2, [0, 4, 6, 10, 11, 12, 13, 14, 15, 16, 17, 18, 19])]), (17, [(3, [0, 3, 4, 5, 6, 7, 8, 9, 10, 11, 12, 13, 14, 15, 16, 17, 18, 19, 20])]), (22, [(4, [0, 6, 10, 11, 12, 16, 17, 18, 19, 20, 21, 22, 23, 24, 25, 26, 27, 28, 29, 30, 31, 32, 33, 34, 35, 36, 37, 38, 39, 40])]), (30, [(5, [2, 3, 6, 7, 8, 9, 10, 11, 12, 13, 14, 15, 16, 17, 18, 19, 20, 21, 22, 23, 24, 25, 26, 27, 28, 29, 30, 31, 32, 33, 34, 35, 36, 37, 38, 39, 40, 41, 42, 43, 44, 45, 46, 47, 48, 49, 50, 51])]), (31, [(2, [2, 3, 4, 6, 7, 8, 9, 10, 11, 12, 13, 14, 15, 16, 17, 18, 19, 20, 21, 22, 23, 24, 25, 26, 27, 28, 29, 30, 31, 32, 33, 34, 35, 36, 37, 38, 39, 40])]), (33, [(15, [4, 11, 12, 13, 14, 15, 16, 17, 18, 19, 20, 21, 22, 23, 24, 25, 26, 27, 28, 29, 30, 31, 32, 33, 34, 35, 36, 37, 38, 39, 40, 41, 42, 43, 44, 45, 46, 47, 48, 49, 50, 51, 52, 53, 54, 55, 56, 57, 58, 59, 60, 61, 62, 63, 64, 65, 66, 67, 68, 69, 70, 71, 72, 73, 74, 75, 76, 77, 78, 79, 80, 81, 82, 83, 84, 85, 86, 87, 88, 89, 90, 91, 92, 93, 94, 95, 96, 97, 98, 99, 100, 101, 102, 103, 104, 105, 106, 107, 108, 109, 110, 111, 112, 113, 114, 115, 116, 117, 118, 119, 120, 121, 122, 123, 124, 125, 126, 127, 128, 129, 130, 131, 132, 133, 134, 135, 136, 137, 138, 139, 140, 141, 142])]), (39, [(11, [4, 9, 11, 12, 13, 14, 15, 16, 17, 18, 19, 20, 21, 22, 23, 24, 25, 26, 27, 28, 29, 30, 31, 32, 33, 34, 35, 36, 37, 38, 39, 40, 41, 42, 43, 44, 45, 46, 47, 48, 49, 50, 51, 52, 53, 54, 55, 56, 57, 58, 59, 60, 61, 62, 63, 64, 65, 66, 67, 68, 69, 70, 71, 72, 73, 74, 75, 76, 77, 78, 79, 80]), (5, [4, 11, 12, 13, 14, 15, 16, 17, 18, 19, 20, 21, 22, 23, 24, 25, 26, 27, 28, 29])]), (40, [(10, [0, 2, 3, 4, 8, 11, 12, 13, 14, 15, 16, 17, 18, 19, 20, 21, 22, 23, 24, 25, 26, 27, 28, 29, 30, 31, 32, 33, 34, 35, 36, 37, 38, 39, 40, 41, 42, 43, 44, 45, 46, 50, 51, 52, 53, 54, 55, 56, 57, 58, 59, 60, 61, 62, 63])]), (44, [(1, [5, 6, 7, 8, 9, 10, 11, 17, 18, 19, 20, 21, 22, 23, 24, 25, 26, 27, 28, 29, 30, 31, 32, 33, 34, 35, 36, 37, 38, 39, 40, 41, 42, 43, 44, 45, 46, 47, 48, 49, 50, 51, 52, 53, 54, 55, 56, 57, 58, 59, 60, 61, 62, 63, 64, 65, 66, 67, 68, 69, 70, 71, 72, 73, 74, 75, 76, 77, 78, 79, 80, 81, 82, 83, 84, 85, 86, 87, 88, 89, 90, 91, 92, 93, 94, 95])]), (45, [(11, [2, 19, 20, 21, 22, 23, 24, 25, 26, 27, 28, 29, 30, 31, 32, 33, 34, 35, 36, 37, 38, 39, 40, 41, 42, 43, 44, 45, 46, 47, 48, 49, 50, 51, 52, 53, 54, 55, 56, 57]), (18, [2, 18, 19, 20, 21, 22, 23, 24, 25, 26, 27, 28, 29, 30, 31, 32, 33, 34, 64, 65, 66, 67, 68, 69, 70, 71, 72, 73, 74, 75, 76, 77, 78, 79, 80, 81, 82])]), (47, [(8, [0, 2, 3, 5, 9, 10, 11, 12, 13, 14, 15, 16, 17, 18, 19, 20, 21, 22, 23, 24, 25, 26, 27, 28, 29, 30, 31, 32, 33, 34, 35, 36]), (3, [2, 3, 9, 10, 11, 12, 13, 14, 15, 16, 17, 18, 19, 20, 21])]), (58, [(36, [0, 2, 6, 7, 15, 16, 17, 18, 19, 20, 21, 22, 23, 24, 25, 26, 27, 28, 29, 30, 31, 32, 33, 34, 35, 36, 37, 38, 39, 40, 41, 42, 43, 44, 45, 46, 47, 48, 49, 50, 51, 52, 53, 54, 55, 56, 57, 58, 59, 60, 61, 62, 63, 64, 65, 66, 67, 68, 69, 70, 71, 72, 73, 74, 75, 76, 77, 78, 79, 80, 81, 82, 83, 84, 85, 86, 87, 88, 89, 90, 91, 92, 93, 94, 95, 96, 97, 98, 102, 103, 104, 105, 106, 107, 108, 109, 110, 111, 112, 113, 114, 115, 116, 117, 118, 119, 120, 121, 122, 123, 124, 125, 126, 127, 128, 129, 130, 131, 132, 133, 134, 135, 136, 137, 138, 139, 140, 141, 142, 143, 144, 145, 146, 147, 148, 149, 150, 151, 152, 153, 154, 155, 156, 157, 158, 159, 160, 161, 162, 163])]), (64, [(10, [2, 6, 7, 8, 9, 10, 11, 12, 13, 14, 15, 16, 17, 18, 19, 20, 21, 22, 23, 24, 25, 26, 27, 28, 29, 30, 31, 32, 33, 34, 35, 36, 37, 38, 39, 40, 41, 42, 43, 44, 45, 46, 47, 48, 49, 50, 51, 52, 53, 54, 55, 56, 57, 58, 59, 60, 61, 62, 63, 64, 65, 66, 67, 68, 69, 70, 71, 72, 73, 74, 75, 76, 77, 78, 79, 80, 81, 82, 83, 84, 85, 86, 87, 88, 89, 90, 91])])]
def joins : List (Nat × List (Nat × List Nat)) := [(19, [(22, [0, 1, 2, 6, 8, 9, 10, 11, 12, 13, 14, 15, 16, 17, 18, 19, 20, 21, 22, 23, 24, 25, 26, 27, 28, 29, 30, 31, 32, 33, 34, 35, 36, 37, 38, 39, 40, 41, 42, 43, 44, 45, 46, 47, 48, 49, 50, 51, 52, 53, 54, 55, 56, 57, 58, 59, 60, 61, 62, 63, 64, 65, 66, 67])]), (10, [(20, [0, 3, 4, 5, 6, 7, 8, 9, 10, 11, 12, 13, 14, 15, 16, 17, 18, 19, 20, 21, 22, 23, 24, 25, 26, 27, 28, 29, 30, 31, 32, 33, 34, 35, 36, 37, 38, 39, 40, 41, 42, 43, 44, 45, 46, 47, 48, 49, 50, 51, 52, 53, 54, 55, 56, 57])]), (21, []), (7, [(15, [4, 13, 14, 15, 16, 17, 18, 19, 20, 21, 22, 23, 24, 25, 28, 29, 30, 31, 32, 33, 34, 35, 36, 37, 38, 39, 40, 41, 42, 43, 44, 45, 46, 47, 48, 49, 50, 51, 52, 53, 54, 55, 56, 57, 58, 59, 60, 61, 62, 63, 64, 65, 66, 67, 68, 69, 70, 71, 72, 73, 74, 75, 76, 77, 78, 79, 80, 81, 82, 83, 84, 85, 86, 87, 88, 89, 90, 91]), (17, [4, 13, 14, 15, 16, 17, 18, 19, 20, 21, 22, 23, 24, 25, 28, 29, 30, 31, 32, 33, 34, 35, 36, 37, 38, 39, 40, 41, 42, 43, 44, 45, 46, 47, 48, 49, 50, 51, 52, 53, 54, 55, 56, 57, 58, 59, 60, 61, 62, 63, 64, 65, 66, 67, 68, 69, 70, 71, 72, 73, 74, 75, 76, 77, 78, 79, 80, 81, 82, 83, 84, 85, 86, 87, 88, 89, 90, 91]), (18, [4, 8, 13, 14, 15, 16, 17, 18, 19, 20, 21, 22, 23, 24, 25, 28, 29, 30, 31, 32, 33, 34, 35, 36, 37, 38, 39, 40, 41, 42, 43, 44, 45, 46, 47, 48, 49, 50, 51, 52, 53, 54, 55, 56, 57, 58, 59, 60, 61, 62, 63, 64, 65, 66, 67, 68, 69, 70, 71, 72, 73, 74, 75, 76, 77, 78, 79, 80, 81, 82, 83, 84, 85, 86, 87, 88, 89, 90, 91])])]
def quiets : List (Nat × List (Nat × List Bool)) := [(4, [(9, [false, false, false, false, false, false, false, true, true, true, true, true, true, true, true, false, false, false, false, true, true, true, true, true, true, false, false])]), (6, [(12, [true, true, true, true, true, true, true, true, false, false])]), (7, [(13, [true, true, true, true, true, false, false, true, true, true, true, true, false]), (14, [false, false, false, true, true, false, false, false, false, false, false, true, true, true, true, true, true, true, false])]), (15, [(11, [false, true, true, true, true, true, true, true, true, false, false, false])]), (25, [(3, [false, false, true, true, true, true, true, true, true, true, false, false])]), (44, [(7, [false, false, true, true, true, true, true, true, true, true, true, true, true, false, false]), (8, [false, false, true, true, true, true, true, true, true, true, true, true, true, false, false]), (9, [false, false, true, true, true, true, true, true, true, true, true, true, true, false, false]), (10, [false, false, true, true, true, true, true, true, true, true, true, true, true, false, false]), (17, [false, false, true, true, true, true, true, true, true, true, true, true, true, false, false]), (18, [false, false, true, true, true, true, true, true, true, true, true, true, true, false, false]), (23, [false, false, true, true, true, true, true, true, true, true, true, true, true, false, false])]), (49, [(1, [false, false, true, true, false, false, false])]), (50, [(1, [false, false, true, true, false, false, false])])]
def halfs : List (Nat × List (Nat × List Bool)) := [(6, [(12, [false, false, false, false, true, false, false, false, false, false])]), (7, [(13, [false, false, false, false, false, false, false, false, true, false, false, false, false])]), (44, [(7, [false, false, false, false, false, false, false, true, false, false, false, false, false, false, false]), (8, [false, false, false, false, false, false, false, true, false, false, false, false, false, false, false]), (9, [false, false, false, false, false, false, false, true, false, false, false, false, false, false, false]), (10, [false, false, false, false, false, false, false, true, false, false, false, false, false, false, false]), (17, [false, false, false, false, false, false, false, true, false, false, false, false, false, false, false]), (18, [false, false, false, false, false, false, false, true, false, false, false, false, false, false, false]), (23, [false, false, false, false, false, false, false, true, false, false, false, false, false, false, false])])]
def perms : List (Nat × List (Nat × List Nat)) := [(6, [(12, [0, 1, 2, 6, 7, 3, 4, 5, 8, 9])]), (7, [(13, [0, 1, 2, 3, 4, 5, 6, 7, 10, 8, 9, 11, 12])]), (44, [(7, [0, 1, 2, 6, 7, 8, 11, 12, 3, 4, 5, 9, 10, 13, 14]), (8, [0, 1, 2, 6, 7, 8, 11, 12, 3, 4, 5, 9, 10, 13, 14]), (9, [0, 1, 2, 6, 7, 8, 11, 12, 3, 4, 5, 9, 10, 13, 14]), (10, [0, 1, 2, 6, 7, 8, 11, 12, 3, 4, 5, 9, 10, 13, 14]), (17, [0, 1, 2, 6, 7, 8, 11, 12, 3, 4, 5, 9, 10, 13, 14]), (18, [0, 1, 2, 6, 7, 8, 11, 12, 3, 4, 5, 9, 10, 13, 14]), (23, [0, 1, 2, 6, 7, 8, 11, 12, 3, 4, 5, 9, 10, 13, 14])])]
noncomputable def lists : Lists := { tis := tis, tups := tups, fns := fns, locs := locs, masks := masks, joins := joins, quiets := quiets, halfs := halfs, perms := perms, globs := [0, 1, 2, 3, 4], gszs := [(0, 18), (1, 1), (2, 20), (3, 1), (4, 1)], eqs := [24] }
noncomputable def T : Tab := lists.tab
theorem good3 : fnGood T (3, Tryd.f3) = true := by kernel_rfl
theorem good4 : fnGood T (4, Tryd.f4) = true := by kernel_rfl
theorem good5 : fnGood T (5, Tryd.f5) = true := by kernel_rfl
theorem good6 : fnGood T (6, Tryd.f6) = true := by kernel_rfl
theorem good7 : fnGood T (7, Tryd.f7) = true := by kernel_rfl
theorem good8 : fnGood T (8, Tryd.f8) = true := by kernel_rfl
theorem good9 : fnGood T (9, Tryd.f9) = true := by kernel_rfl
theorem good10 : fnGood T (10, Tryd.f10) = true := by kernel_rfl
theorem good11 : fnGood T (11, Tryd.f11) = true := by kernel_rfl
theorem good12 : fnGood T (12, Tryd.f12) = true := by kernel_rfl
theorem good13 : fnGood T (13, Tryd.f13) = true := by kernel_rfl
theorem good14 : fnGood T (14, Tryd.f14) = true := by kernel_rfl
theorem good15 : fnGood T (15, Tryd.f15) = true := by kernel_rfl
theorem good16 : fnGood T (16, Tryd.f16) = true := by kernel_rfl
theorem good17 : fnGood T (17, Tryd.f17) = true := by kernel_rfl
theorem good18 : fnGood T (18, Tryd.f18) = true := by kernel_rfl
theorem good19 : fnGood T (19, Tryd.f19) = true := by kernel_rfl
theorem good20 : fnGood T (20, Tryd.f20) = true := by kernel_rfl
theorem good21 : fnGood T (21, Tryd.f21) = true := by kernel_rfl
theorem good22 : fnGood T (22, Tryd.f22) = true := by kernel_rfl
theorem good23 : fnGood T (23, Tryd.f23) = true := by kernel_rfl
theorem good24 : fnGood T (24, Tryd.f24) = true := by kernel_rfl
theorem good25 : fnGood T (25, Tryd.f25) = true := by kernel_rfl
theorem good26 : fnGood T (26, Tryd.f26) = true := by kernel_rfl
theorem good27 : fnGood T (27, Tryd.f27) = true := by kernel_rfl
theorem good28 : fnGood T (28, Tryd.f28) = true := by kernel_rfl
theorem good29 : fnGood T (29, Tryd.f29) = true := by kernel_rfl
theorem good30 : fnGood T (30, Tryd.f30) = true := by kernel_rfl
theorem good31 : fnGood T (31, Tryd.f31) = true := by kernel_rfl
theorem good32 : fnGood T (32, Tryd.f32) = true := by kernel_rfl
theorem good33 : fnGood T (33, Tryd.f33) = true := by kernel_rfl
theorem good34 : fnGood T (34, Tryd.f34) = true := by kernel_rfl
theorem good35 : fnGood T (35, Tryd.f35) = true := by kernel_rfl
theorem good36 : fnGood T (36, Tryd.f36) = true := by kernel_rfl
theorem good38 : fnGood T (38, Tryd.f38) = true := by kernel_rfl
theorem good39 : fnGood T (39, Tryd.f39) = true := by kernel_rfl
theorem good40 : fnGood T (40, Tryd.f40) = true := by kernel_rfl
theorem good41 : fnGood T (41, Tryd.f41) = true := by kernel_rfl
theorem good42 : fnGood T (42, Tryd.f42) = true := by kernel_rfl
theorem good43 : fnGood T (43, Tryd.f43) = true := by kernel_rfl
theorem good44 : fnGood T (44, Tryd.f44) = true := by kernel_rfl
theorem good45 : fnGood T (45, Tryd.f45) = true := by kernel_rfl
theorem good47 : fnGood T (47, Tryd.f47) = true := by kernel_rfl
theorem good48 : fnGood T (48, Tryd.f48) = true := by kernel_rfl
theorem good49 : fnGood T (49, Tryd.f49) = true := by kernel_rfl
theorem good50 : fnGood T (50, Tryd.f50) = true := by kernel_rfl
theorem good51 : fnGood T (51, Tryd.f51) = true := by kernel_rfl
theorem good52 : fnGood T (52, Tryd.f52) = true := by kernel_rfl
theorem good53 : fnGood T (53, Tryd.f53) = true := by kernel_rfl
theorem good54 : fnGood T (54, Tryd.f54) = true := by kernel_rfl
theorem good55 : fnGood T (55, Tryd.f55) = true := by kernel_rfl
theorem good56 : fnGood T (56, Tryd.f56) = true := by kernel_rfl
theorem good57 : fnGood T (57, Tryd.f57) = true := by kernel_rfl
theorem good58 : fnGood T (58, Tryd.f58) = true := by kernel_rfl
theorem good59 : fnGood T (59, Tryd.f59) = true := by kernel_rfl
theorem good60 : fnGood T (60, Tryd.f60) = true := by kernel_rfl
theorem good61 : fnGood T (61, Tryd.f61) = true := by kernel_rfl
theorem good62 : fnGood T (62, Tryd.f62) = true := by kernel_rfl
theorem good63 : fnGood T (63, Tryd.f63) = true := by kernel_rfl
theorem good64 : fnGood T (64, Tryd.f64) = true := by kernel_rfl
theorem good93 : fnGood T (93, Tryd.f93) = true := by kernel_rfl
theorem tisOk : (lists.tis.all fun p => tiOk Tryd.prog lists.tab p.1 p.2) = true := by kernel_rfl
theorem fnsOk : FnAll Tryd.prog lists.tab lists.fns := ⟨⟨Tryd.func3, by kernel_rfl, good3⟩, ⟨Tryd.func4, by kernel_rfl, good4⟩, ⟨Tryd.func5, by kernel_rfl, good5⟩, ⟨Tryd.func6, by kernel_rfl, good6⟩, ⟨Tryd.func7, by kernel_rfl, good7⟩, ⟨Tryd.func8, by kernel_rfl, good8⟩, ⟨Tryd.func9, by kernel_rfl, good9⟩, ⟨Tryd.func10, by kernel_rfl, good10⟩, ⟨Tryd.func11, by kernel_rfl, good11⟩, ⟨Tryd.func12, by kernel_rfl, good12⟩, ⟨Tryd.func13, by kernel_rfl, good13⟩, ⟨Tryd.func14, by kernel_rfl, good14⟩, ⟨Tryd.func15, by kernel_rfl, good15⟩, ⟨Tryd.func16, by kernel_rfl, good16⟩, ⟨Tryd.func17, by kernel_rfl, good17⟩, ⟨Tryd.func18, by kernel_rfl, good18⟩, ⟨Tryd.func19, by kernel_rfl, good19⟩, ⟨Tryd.func20, by kernel_rfl, good20⟩, ⟨Tryd.func21, by kernel_rfl, good21⟩, ⟨Tryd.func22, by kernel_rfl, good22⟩, ⟨Tryd.func23, by kernel_rfl, good23⟩, ⟨Tryd.func24, by kernel_rfl, good24⟩, ⟨Tryd.func25, by kernel_rfl, good25⟩, ⟨Tryd.func26, by kernel_rfl, good26⟩, ⟨Tryd.func27, by kernel_rfl, good27⟩, ⟨Tryd.func28, by kernel_rfl, good28⟩, ⟨Tryd.func29, by kernel_rfl, good29⟩, ⟨Tryd.func30, by kernel_rfl, good30⟩, ⟨Tryd.func31, by kernel_rfl, good31⟩, ⟨Tryd.func32, by kernel_rfl, good32⟩, ⟨Tryd.func33, by kernel_rfl, good33⟩, ⟨Tryd.func34, by kernel_rfl, good34⟩, ⟨Tryd.func35, by kernel_rfl, good35⟩, ⟨Tryd.func36, by kernel_rfl, good36⟩, ⟨Tryd.func38, by kernel_rfl, good38⟩, ⟨Tryd.func39, by kernel_rfl, good39⟩, ⟨Tryd.func40, by kernel_rfl, good40⟩, ⟨Tryd.func41, by kernel_rfl, good41⟩, ⟨Tryd.func42, by kernel_rfl, good42⟩, ⟨Tryd.func43, by kernel_rfl, good43⟩, ⟨Tryd.func44, by kernel_rfl, good44⟩, ⟨Tryd.func45, by kernel_rfl, good45⟩, ⟨Tryd.func47, by kernel_rfl, good47⟩, ⟨Tryd.func48, by kernel_rfl, good48⟩, ⟨Tryd.func49, by kernel_rfl, good49⟩, ⟨Tryd.func50, by kernel_rfl, good50⟩, ⟨Tryd.func51, by kernel_rfl, good51⟩, ⟨Tryd.func52, by kernel_rfl, good52⟩, ⟨Tryd.func53, by kernel_rfl, good53⟩, ⟨Tryd.func54, by kernel_rfl, good54⟩, ⟨Tryd.func55, by kernel_rfl, good55⟩, ⟨Tryd.func56, by kernel_rfl, good56⟩, ⟨Tryd.func57, by kernel_rfl, good57⟩, ⟨Tryd.func58, by kernel_rfl, good58⟩, ⟨Tryd.func59, by kernel_rfl, good59⟩, ⟨Tryd.func60, by kernel_rfl, good60⟩, ⟨Tryd.func61, by kernel_rfl, good61⟩, ⟨Tryd.func62, by kernel_rfl, good62⟩, ⟨Tryd.func63, by kernel_rfl, good63⟩, ⟨Tryd.func64, by kernel_rfl, good64⟩, ⟨Tryd.func93, by kernel_rfl, good93⟩, trivial⟩
theorem eqsOk : eqAll Tryd.prog lists = true := by kernel_rfl
theorem ok : TabOK Tryd.prog T := tab_ok tisOk fnsOk eqsOk (by kernel_rfl)
end Go.Abs.TD
