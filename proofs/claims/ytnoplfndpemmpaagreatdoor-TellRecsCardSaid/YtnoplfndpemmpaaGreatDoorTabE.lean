/-
The table of the abstract machine for this program, made by a small program (gen.py).
-/
import Derived.Test.YtnoplfndpemmpaaGreatDoorMAd
import Derived.Test.YtnoplfndpemmpaaGreatDoorProg
namespace Go.Abs.TE
open Go Go.Abs Go.Proofs

def tis : List (Nat × TI) := [
  (2, { shape := [.int .i64], agg := false, bytes := 8, kind := .scalar }),
  (3, { shape := [.int .i64], agg := false, bytes := 8, kind := .scalar }),
  (4, { shape := [.bool], agg := false, bytes := 1, kind := .scalar }),
  (5, { shape := [.int .u8], agg := false, bytes := 1, kind := .scalar }),
  (9, { shape := [.str], agg := false, bytes := 16, kind := .scalar }),
  (20, { shape := [.iface], agg := false, bytes := 16, kind := .scalar }),
  (21, { shape := [.int .i32], agg := false, bytes := 4, kind := .scalar }),
  (22, { shape := [.slice 7], agg := false, bytes := 24, kind := .slice 33 }),
  (25, { shape := [.slice 1], agg := false, bytes := 24, kind := .slice 5 }),
  (30, { shape := [.ptr], agg := false, bytes := 8, kind := .scalar }),
  (33, { shape := [.int .i64, .int .i64, .int .i64, .int .i64, .int .i64, .int .i64, .str], agg := true, bytes := 64, kind := .struct [(0, 3), (1, 3), (2, 3), (3, 3), (4, 3), (5, 3), (6, 9)] }),
  (37, { shape := [.int .i64, .int .i64], agg := true, bytes := 16, kind := .array 2 3 }),
  (40, { shape := [.ptr], agg := false, bytes := 8, kind := .scalar }),
  (47, { shape := [.slice 5], agg := false, bytes := 24, kind := .slice 100 }),
  (48, { shape := [.slice 1], agg := false, bytes := 24, kind := .slice 3 }),
  (50, { shape := [.int .i64, .int .i64, .slice 5, .slice 1], agg := true, bytes := 64, kind := .struct [(0, 37), (2, 47), (3, 48)] }),
  (53, { shape := [.ptr], agg := false, bytes := 8, kind := .scalar }),
  (54, { shape := [.slice 2], agg := false, bytes := 24, kind := .slice 265 }),
  (56, { shape := [.slice 1, .slice 5, .slice 2], agg := true, bytes := 72, kind := .struct [(0, 25), (1, 47), (2, 54)] }),
  (59, { shape := [.ptr], agg := false, bytes := 8, kind := .scalar }),
  (65, { shape := [.int .u64], agg := false, bytes := 8, kind := .scalar }),
  (68, { shape := [.slice 1, .bool], agg := true, bytes := 32, kind := .struct [(0, 25), (1, 4)] }),
  (72, { shape := [.ptr], agg := false, bytes := 8, kind := .scalar }),
  (74, { shape := [.bool, .bool, .bool, .int .i64, .int .i64], agg := true, bytes := 24, kind := .struct [(0, 4), (1, 4), (2, 4), (3, 3), (4, 3)] }),
  (76, { shape := [.int .i64, .int .i64, .bool, .bool, .bool, .bool, .int .i64, .int .i64], agg := true, bytes := 48, kind := .struct [(0, 3), (1, 3), (2, 4), (3, 74)] }),
  (77, { shape := [.bool, .bool, .bool, .bool, .bool, .bool, .bool, .bool, .bool, .bool, .bool, .bool, .bool, .bool, .bool, .bool, .bool, .bool, .bool, .bool, .bool, .bool, .bool, .bool, .bool, .bool, .bool, .bool, .bool, .bool, .bool, .bool, .bool, .bool, .bool, .bool, .bool, .bool, .bool, .bool, .bool, .bool, .bool, .bool, .bool, .bool, .bool, .bool, .bool, .bool, .bool, .bool, .bool, .bool, .bool, .bool, .bool, .bool, .bool, .bool], agg := true, bytes := 60, kind := .array 60 4 }),
  (78, { shape := [.bool, .bool], agg := true, bytes := 2, kind := .array 2 4 }),
  (79, { shape := [.slice 1], agg := false, bytes := 24, kind := .slice 150 }),
  (80, { shape := [.int .u8, .int .u8, .int .u8], agg := true, bytes := 3, kind := .array 3 5 }),
  (82, { shape := [.int .u8, .int .u8, .int .u8, .int .i64], agg := true, bytes := 16, kind := .struct [(0, 80), (3, 3)] }),
  (84, { shape := [.int .i64, .int .u8, .int .u8, .int .u8, .int .i64, .str, .slice 1, .str, .int .i64], agg := true, bytes := 88, kind := .struct [(0, 3), (1, 82), (5, 9), (6, 48), (7, 9), (8, 3)] }),
  (86, { shape := [.ptr, .ptr, .int .i64, .int .i64, .bool, .bool, .bool, .bool, .int .i64, .int .i64, .int .i64, .int .i64, .bool, .bool, .bool, .bool, .int .i64, .int .i64, .int .i64, .int .i64, .bool, .bool, .bool, .bool, .int .i64, .int .i64, .int .i64, .int .i64, .bool, .bool, .bool, .bool, .bool, .bool, .bool, .bool, .bool, .bool, .bool, .bool, .bool, .bool, .bool, .bool, .bool, .bool, .bool, .bool, .bool, .bool, .bool, .bool, .bool, .bool, .bool, .bool, .bool, .bool, .bool, .bool, .bool, .bool, .bool, .bool, .bool, .bool, .bool, .bool, .bool, .bool, .bool, .bool, .bool, .bool, .bool, .bool, .bool, .bool, .bool, .bool, .bool, .bool, .bool, .bool, .bool, .bool, .bool, .bool, .bool, .bool, .bool, .bool, .bool, .bool, .bool, .bool, .str, .slice 1, .int .i64, .int .u8, .int .u8, .int .u8, .int .i64, .str, .slice 1, .str, .int .i64, .str], agg := true, bytes := 392, kind := .struct [(0, 72), (1, 72), (2, 76), (10, 76), (18, 76), (26, 3), (27, 3), (28, 77), (88, 4), (89, 4), (90, 4), (91, 4), (92, 78), (94, 4), (95, 4), (96, 9), (97, 79), (98, 84), (107, 9)] }),
  (91, { shape := [.ptr], agg := true, bytes := 8, kind := .struct [(0, 40)] }),
  (94, { shape := [.int .i64, .int .i64, .slice 1], agg := true, bytes := 40, kind := .struct [(0, 3), (1, 3), (2, 79)] }),
  (98, { shape := [.ptr], agg := true, bytes := 8, kind := .struct [(0, 53)] }),
  (100, { shape := [.int .i64, .int .i64, .str, .int .i64, .int .i64], agg := true, bytes := 48, kind := .struct [(0, 3), (1, 3), (2, 9), (3, 3), (4, 3)] }),
  (101, { shape := [.ptr], agg := false, bytes := 8, kind := .scalar }),
  (103, { shape := [.ptr], agg := false, bytes := 8, kind := .scalar }),
  (105, { shape := [.map], agg := false, bytes := 8, kind := .map 3 163 }),
  (106, { shape := [.map], agg := false, bytes := 8, kind := .map 3 211 }),
  (108, { shape := [.slice 2], agg := false, bytes := 24, kind := .slice 162 }),
  (111, { shape := [.ptr, .ptr, .map, .map, .slice 2, .int .i64, .int .i64, .bool], agg := true, bytes := 80, kind := .struct [(0, 101), (1, 103), (2, 105), (3, 106), (4, 108), (5, 3), (6, 3), (7, 4)] }),
  (113, { shape := [.int .i64], agg := false, bytes := 8, kind := .scalar }),
  (115, { shape := [.slice 1], agg := false, bytes := 24, kind := .slice 65 }),
  (116, { shape := [.int .u64], agg := false, bytes := 8, kind := .scalar }),
  (117, { shape := [.ptr], agg := false, bytes := 8, kind := .scalar }),
  (118, { shape := [.ptr, .ptr, .ptr, .ptr, .ptr, .ptr], agg := true, bytes := 48, kind := .array 6 117 }),
  (119, { shape := [.int .i64, .int .i64, .int .i64, .int .i64, .int .i64, .int .i64], agg := true, bytes := 48, kind := .array 6 3 }),
  (132, { shape := [.ptr], agg := false, bytes := 8, kind := .scalar }),
  (133, { shape := [.slice 1], agg := false, bytes := 24, kind := .slice 132 }),
  (134, { shape := [.slice 1], agg := false, bytes := 24, kind := .slice 139 }),
  (135, { shape := [.ptr], agg := false, bytes := 8, kind := .scalar }),
  (137, { shape := [.ptr, .slice 1], agg := true, bytes := 32, kind := .struct [(0, 135), (1, 25)] }),
  (139, { shape := [.iface], agg := false, bytes := 16, kind := .scalar }),
  (140, { shape := [.slice 1], agg := false, bytes := 24, kind := .slice 9 }),
  (143, { shape := [.iface], agg := false, bytes := 16, kind := .scalar }),
  (149, { shape := [.slice 1], agg := false, bytes := 24, kind := .slice 21 }),
  (150, { shape := [.slice 6], agg := false, bytes := 24, kind := .slice 152 }),
  (152, { shape := [.int .i32, .bool, .bool, .bool, .int .i64, .int .i64], agg := true, bytes := 32, kind := .struct [(0, 21), (1, 74)] }),
  (153, { shape := [.map], agg := false, bytes := 8, kind := .map 9 240 }),
  (155, { shape := [.map, .int .i64, .bool, .int .i64, .bool], agg := true, bytes := 40, kind := .struct [(0, 153), (1, 3), (2, 4), (3, 3), (4, 4)] }),
  (156, { shape := [.ptr], agg := false, bytes := 8, kind := .scalar }),
  (158, { shape := [.int .i64, .bool, .ptr, .ptr], agg := true, bytes := 32, kind := .struct [(0, 3), (1, 4), (2, 156), (3, 156)] }),
  (160, { shape := [.ptr], agg := true, bytes := 8, kind := .struct [(0, 156)] }),
  (162, { shape := [.int .u8, .str], agg := true, bytes := 24, kind := .struct [(0, 5), (1, 9)] }),
  (163, { shape := [.ptr], agg := false, bytes := 8, kind := .scalar }),
  (164, { shape := [.ptr], agg := false, bytes := 8, kind := .scalar }),
  (166, { shape := [.ptr, .ptr], agg := true, bytes := 16, kind := .struct [(0, 40), (1, 164)] }),
  (169, { shape := [.map], agg := false, bytes := 8, kind := .map 3 178 }),
  (170, { shape := [.slice 4], agg := false, bytes := 24, kind := .slice 178 }),
  (174, { shape := [.func], agg := false, bytes := 8, kind := .scalar }),
  (175, { shape := [.func], agg := false, bytes := 8, kind := .scalar }),
  (178, { shape := [.int .i64, .int .i64, .int .i64, .int .i64], agg := true, bytes := 32, kind := .struct [(0, 3), (1, 3), (2, 3), (3, 3)] }),
  (182, { shape := [.func], agg := false, bytes := 8, kind := .scalar }),
  (186, { shape := [.slice 1, .slice 5, .slice 2, .ptr, .str, .ptr, .bool], agg := true, bytes := 112, kind := .struct [(0, 56), (3, 101), (4, 9), (5, 40), (6, 4)] }),
  (195, { shape := [.ptr], agg := false, bytes := 8, kind := .scalar }),
  (196, { shape := [.int .u32], agg := false, bytes := 4, kind := .scalar }),
  (211, { shape := [.ptr], agg := false, bytes := 8, kind := .scalar }),
  (215, { shape := [.ptr], agg := true, bytes := 8, kind := .struct [(0, 59)] }),
  (218, { shape := [.bool], agg := true, bytes := 1, kind := .struct [(0, 4)] }),
  (219, { shape := [.map], agg := false, bytes := 8, kind := .map 3 268 }),
  (221, { shape := [.ptr, .int .i64, .int .i64, .bool], agg := true, bytes := 32, kind := .struct [(0, 72), (1, 3), (2, 3), (3, 4)] }),
  (223, { shape := [.int .i64, .int .i64, .int .i64, .bool, .map, .ptr, .int .i64, .int .i64, .bool, .str], agg := true, bytes := 88, kind := .struct [(0, 3), (1, 3), (2, 3), (3, 218), (4, 219), (5, 221), (9, 9)] }),
  (240, { shape := [.ptr], agg := false, bytes := 8, kind := .scalar }),
  (245, { shape := [.slice 1, .int .i64], agg := true, bytes := 32, kind := .struct [(0, 25), (1, 3)] }),
  (253, { shape := [.c128], agg := false, bytes := 16, kind := .scalar }),
  (254, { shape := [.f64], agg := false, bytes := 8, kind := .scalar }),
  (256, { shape := [.ptr], agg := false, bytes := 8, kind := .scalar }),
  (265, { shape := [.int .i64, .slice 1], agg := true, bytes := 32, kind := .struct [(0, 3), (1, 25)] }),
  (268, { shape := [.ptr], agg := false, bytes := 8, kind := .scalar }),
  (269, { shape := [.func], agg := false, bytes := 8, kind := .scalar }),
  (275, { shape := [.ptr], agg := false, bytes := 8, kind := .scalar }),
  (277, { shape := [.ptr, .ptr], agg := true, bytes := 16, kind := .struct [(0, 40), (1, 275)] }),
  (302, { shape := [.int .u8, .int .u8, .int .u8, .int .u8, .int .u8, .int .u8, .int .u8, .int .u8, .int .u8, .int .u8, .int .u8, .int .u8, .int .u8, .int .u8, .int .u8, .int .u8, .int .u8, .int .u8, .int .u8, .int .u8, .int .u8, .int .u8, .int .u8, .int .u8], agg := true, bytes := 24, kind := .array 24 5 }),
  (308, { shape := [.slice 1], agg := false, bytes := 24, kind := .slice 4 }),
  (309, { shape := [.slice 8], agg := false, bytes := 24, kind := .slice 76 }),
  (311, { shape := [.slice 1], agg := false, bytes := 24, kind := .slice 72 }),
  (315, { shape := [.func], agg := false, bytes := 8, kind := .scalar }),
  (420, { shape := [.bool, .bool, .bool], agg := true, bytes := 3, kind := .array 3 4 })]
def tups : List (Nat × List Nat) := [(0, []), (34, [33, 4]), (120, [65, 3]), (144, [3, 143]), (167, [164, 113]), (171, [169, 170]), (197, [25, 113]), (204, [3, 3]), (224, [40, 3, 4]), (241, [240, 113]), (250, [25, 48]), (290, [116, 116]), (305, [25, 9]), (352, [196, 196]), (354, [65, 65])]
noncomputable def fns : List (Nat × Func) := [(3, Tryz.f3), (4, Tryz.f4), (6, Tryz.f6), (7, Tryz.f7), (8, Tryz.f8), (9, Tryz.f9), (10, Tryz.f10), (11, Tryz.f11), (12, Tryz.f12), (13, Tryz.f13), (14, Tryz.f14), (16, Tryz.f16), (18, Tryz.f18), (20, Tryz.f20), (21, Tryz.f21), (22, Tryz.f22), (23, Tryz.f23), (24, Tryz.f24), (25, Tryz.f25), (26, Tryz.f26), (27, Tryz.f27), (28, Tryz.f28), (29, Tryz.f29), (30, Tryz.f30), (31, Tryz.f31), (32, Tryz.f32), (33, Tryz.f33), (34, Tryz.f34), (35, Tryz.f35), (36, Tryz.f36), (38, Tryz.f38), (39, Tryz.f39), (40, Tryz.f40), (41, Tryz.f41), (42, Tryz.f42), (43, Tryz.f43), (44, Tryz.f44), (45, Tryz.f45), (46, Tryz.f46), (47, Tryz.f47), (48, Tryz.f48), (49, Tryz.f49), (50, Tryz.f50), (51, Tryz.f51), (52, Tryz.f52), (53, Tryz.f53), (56, Tryz.f56), (57, Tryz.f57), (58, Tryz.f58), (59, Tryz.f59), (60, Tryz.f60), (61, Tryz.f61), (62, Tryz.f62), (63, Tryz.f63), (64, Tryz.f64), (65, Tryz.f65), (66, Tryz.f66), (67, Tryz.f67), (68, Tryz.f68), (69, Tryz.f69), (70, Tryz.f70), (71, Tryz.f71), (72, Tryz.f72), (73, Tryz.f73), (74, Tryz.f74), (75, Tryz.f75), (76, Tryz.f76), (77, Tryz.f77), (78, Tryz.f78), (79, Tryz.f79), (80, Tryz.f80), (81, Tryz.f81), (82, Tryz.f82), (93, Tryz.f93), (94, Tryz.f94), (95, Tryz.f95), (96, Tryz.f96), (97, Tryz.f97), (98, Tryz.f98), (99, Tryz.f99), (100, Tryz.f100), (101, Tryz.f101), (102, Tryz.f102), (103, Tryz.f103), (104, Tryz.f104), (108, Tryz.f108), (109, Tryz.f109), (112, Tryz.f112), (118, Tryz.f118), (119, Tryz.f119), (120, Tryz.f120), (121, Tryz.f121), (135, Tryz.f135), (137, Tryz.f137), (138, Tryz.f138), (140, Tryz.f140), (141, Tryz.f141), (142, Tryz.f142), (143, Tryz.f143), (144, Tryz.f144), (145, Tryz.f145), (146, Tryz.f146), (148, Tryz.f148), (152, Tryz.f152), (153, Tryz.f153), (154, Tryz.f154), (155, Tryz.f155), (156, Tryz.f156), (178, Tryz.f178), (195, Tryz.f195), (199, Tryz.f199), (200, Tryz.f200), (201, Tryz.f201), (202, Tryz.f202), (204, Tryz.f204), (219, Tryz.f219), (243, Tryz.f243), (257, Tryz.f257), (264, Tryz.f264), (296, Tryz.f296), (388, Tryz.f388), (389, Tryz.f389)]
def locs : List (Nat × List Nat) := [(3, [58]), (4, [6, 7, 10]), (6, [1]), (8, [5, 47]), (9, [5]), (11, [5, 21]), (13, [2, 4]), (20, [1]), (21, [1]), (23, [5]), (25, [7]), (28, [21, 26]), (31, [2, 5, 6]), (41, [8, 25, 31, 37, 53, 56]), (42, [8, 31]), (43, [6, 55]), (46, [19, 27]), (49, [3]), (52, [8]), (53, [29]), (56, [50, 61]), (61, [11]), (68, [5]), (70, [3]), (72, [8]), (82, [3]), (97, [9, 23, 48, 76]), (100, [35]), (108, [3, 9, 68, 94]), (109, [4]), (121, [1, 2]), (140, [5]), (141, [32]), (146, [44]), (148, [75]), (152, [1]), (154, [3]), (156, [5]), (200, [3]), (204, [4]), (219, [30]), (257, [3]), (296, [1]), (388, [1, 75]), (389, [1, 5, 43])]
def masks : List (Nat × List (Nat × List Nat)) := [(4, [(8, [2, 6, 7, 8, 12, 13, 14, 15, 16, 17, 18, 19, 20, 24, 25, 26, 27, 28, 29, 30, 31, 32, 33, 34, 35, 36, 37, 38, 39])]), (6, [(9, [0, 1, 2, 6, 7, 8, 9, 10, 11, 12, 13, 14, 15, 16, 17, 18, 21, 22, 23, 24, 25, 26, 27, 28, 29])]), (8, [(3, [0, 2, 5, 9, 10, 11, 12, 13, 14, 15, 16, 17, 18, 19, 20, 21, 22, 23, 24, 25, 26, 27, 28, 29, 30, 31, 32, 33, 34, 35, 36, 37, 38, 39, 40, 41, 42, 43, 44, 45, 46, 47, 48, 49])]), (9, [(3, [0, 2, 5, 9, 10, 11, 12, 13, 14, 15, 16, 17, 18, 19, 20, 21, 22, 23, 24, 25, 26, 27, 28, 29, 30, 31, 32, 33, 34, 35, 36, 37])]), (10, [(4, [4, 5, 6, 7, 8, 9, 10, 11, 14, 15, 16, 17, 18, 19, 20, 21, 22, 23, 24, 25])]), (11, [(3, [0, 2, 5, 6, 7, 8, 9, 10, 11, 12, 13, 14, 15, 16, 17, 18, 19, 20, 21, 22])]), (23, [(3, [0, 2, 5, 9, 10, 11, 12, 13, 14, 15, 16, 17, 18, 19, 20, 21, 22, 23, 24, 25, 26, 27, 28, 29, 30, 31, 32, 33, 34, 35, 36, 37, 38, 39, 40])]), (25, [(3, [1, 4, 7, 11, 12, 13, 14, 15, 16, 17, 18, 19, 20])]), (28, [(4, [1, 4, 10, 11, 12, 13, 14, 15, 16, 17, 18, 19, 20, 21, 22, 23, 24, 25, 26, 27, 28]), (2, [1, 4, 6, 10, 11, 12, 13, 14, 15, 16, 17, 18, 19, 20, 21, 22, 23, 24, 25, 26, 27, 28])]), (31, [(5, [3, 5, 7, 8, 9, 10, 11, 12, 13, 14, 15, 16, 19, 20, 21, 22, 23, 24, 25, 26, 27, 28, 29])]), (36, [(3, [1, 2, 7, 8, 9, 10, 11, 12, 13, 14, 15, 16, 17, 18, 19, 20, 21, 22, 23, 24, 25, 26, 27, 28, 29, 30, 31, 32, 33, 34, 35, 36, 37, 38, 39, 40, 41, 42])]), (38, [(9, [1, 2, 6, 7, 9, 10, 11, 12, 13, 14, 15, 16, 17, 18, 19, 20, 21, 22, 23, 24, 25, 26, 27, 28, 29, 30, 31, 32, 33, 34, 35, 36, 37, 38, 39, 40, 41, 42, 43, 44, 45, 46, 47, 48, 49, 50, 51, 52, 53, 54, 55, 56, 57, 58, 59, 60, 61, 62, 63, 64, 65, 66, 67, 68, 69, 70, 71, 72, 73, 74, 75, 76, 80, 81, 82, 83, 84, 85, 86, 87, 88, 89, 90, 91, 92, 93, 94, 95, 96, 97, 98, 99, 100, 101, 102, 103, 104, 105, 106, 107, 108, 109, 110, 111, 112, 113, 114, 115, 116, 117, 118, 119, 120, 121, 122, 123, 124, 125, 126, 127, 128, 129, 130, 131, 132, 133, 134, 135, 136, 137])]), (39, [(6, [0, 2, 5, 7, 11, 12, 13, 14, 18, 19, 20, 21, 22, 23, 24, 25]), (3, [0, 2, 5, 7, 11, 12, 13, 14, 15, 16, 17, 18, 19, 20, 21, 22, 23, 24, 25])]), (40, [(3, [0, 2, 5, 9, 10, 11, 12, 13, 14, 15, 16, 17])]), (41, [(3, [0, 2, 5, 6, 7, 9, 10, 11, 12, 13, 14, 15, 16, 17, 18, 19, 20, 21, 22, 23, 24, 25, 26, 27, 28, 29, 30, 31, 32, 33, 34, 35, 36, 37, 38, 39, 40, 41, 42, 43, 44, 45, 46, 47, 48, 49, 50, 51, 52, 53, 54])]), (42, [(6, [0, 1, 4, 8, 9, 10, 11, 12, 13, 14, 15, 16, 17, 18, 22, 23, 24, 25, 26, 27, 28, 29, 30, 31, 32, 33, 34, 35, 36, 37, 38])]), (43, [(4, [2, 6, 7, 8, 9, 10, 11, 12, 13, 14, 15, 16, 17, 18, 19, 20, 21, 22, 23, 24, 25, 26, 27, 28, 29, 30, 31, 32, 33, 34, 35, 36, 37, 38, 39, 40, 41, 42, 43, 44, 45, 46, 47, 48, 49, 50, 51, 52, 53, 54, 55, 56])]), (46, [(3, [0, 3, 4, 5, 6, 7, 8, 9, 10, 11, 12, 13, 14, 15, 16, 17, 18, 19, 20])]), (48, [(2, [3, 5, 6, 7, 8, 9, 10, 11, 12, 13, 14, 15, 16, 17, 18, 22, 23, 24, 25, 26, 27, 28, 29, 30, 31, 32, 33, 34, 35, 36, 37, 38, 39, 40, 41, 42, 43, 44, 45, 46, 47, 48, 49, 50, 51, 52, 53, 54, 55, 56, 57, 58, 59, 60, 61, 62, 63, 64, 65, 66, 67, 68, 69, 70, 71, 72, 73, 74, 75, 76, 77, 78, 79, 80])]), (51, [(3, [0, 2, 3, 5, 6, 10, 11, 12, 13, 14, 15, 16, 17, 18, 19, 20, 21, 22, 23, 24, 25, 26, 27, 28, 29, 30, 31, 32, 33, 34, 35, 36, 37, 38, 39, 40, 41, 42, 43])]), (52, [(16, [2, 4, 5, 7, 8, 9, 11, 12, 13, 14, 15, 16, 17, 18, 19, 20, 21, 22, 23, 24, 25, 26, 27, 28, 29, 30, 31, 32, 33, 34, 35, 36, 37, 38, 39, 40, 41, 42, 43, 44, 45, 46, 47, 48, 49, 50, 51, 52, 53, 54, 55, 56, 57, 58, 59, 60, 61, 62, 63, 64, 65, 66, 67, 68, 69, 70, 71, 72, 73, 77, 78, 79, 80, 81, 82, 83, 84, 85, 86, 87, 88, 89, 90, 91, 92, 93, 94]), (7, [2, 5, 7, 8, 9, 12, 13, 14, 15, 16, 17, 18, 19, 20, 21, 22, 23, 24, 25, 26, 27, 28, 29, 30, 31, 35, 36, 37, 38, 39, 40, 41, 42, 43, 44, 45, 46, 47, 48, 49, 50, 51, 52, 53, 54, 55, 56, 57, 58, 59, 60, 61, 62, 63, 64, 65, 66, 67, 68, 69, 70, 71, 72])]), (53, [(3, [0, 1, 4, 6, 7, 8, 9, 10, 11, 12, 13, 14, 17, 18, 19, 20, 21, 22, 23, 24, 25, 26, 27, 28, 29, 30, 31, 32, 33])]), (56, [(11, [3, 8, 12, 13, 14, 15, 16, 17, 18, 19, 20, 21, 22, 23, 24, 25, 26, 27, 28, 29, 30, 31, 32, 33, 34, 35, 36, 37, 38, 39, 40, 41, 42, 43, 44, 45, 46, 47, 48, 49, 50, 51, 52, 53, 54, 55, 56, 57, 58, 59, 60, 61, 62]), (6, [3, 8, 12, 13, 14, 15, 16, 17, 18, 19, 20, 21, 22, 23, 24, 25, 26, 27, 28, 29, 30, 31, 32, 33, 34, 35, 39, 40, 41, 42, 43, 44, 45, 46, 47, 48, 49, 50, 51, 52])]), (73, [(3, [0, 2, 5, 9, 10, 11, 12, 13, 14, 15, 16, 17])]), (80, [(3, [4, 7, 8, 9, 10, 11, 15, 16, 17, 18, 19, 20, 21, 22, 23, 24, 25, 26, 27, 28, 29, 30, 31, 32, 33])]), (100, [(5, [2, 5, 6, 7, 8, 9, 10, 11, 12, 13, 14, 15, 16, 17, 18, 19, 20, 21, 22, 23, 24, 28, 29, 30, 31, 32, 33, 34, 35, 36, 37, 38])]), (104, [(5, [0, 2, 3, 7, 8, 9, 10, 11, 12, 13, 14, 15, 16, 17, 19, 20, 21, 22, 23, 24, 25, 26, 27, 28, 29, 30, 31, 32, 33, 34])]), (109, [(2, [0, 2, 3, 4, 5, 6, 7, 8, 10, 11, 12, 13, 14, 15, 16, 17, 18, 19, 20, 21, 22, 23, 24, 25, 26, 27, 28, 29, 30, 31, 32, 33, 34, 35, 36, 37, 38, 39, 40, 41, 42, 43, 44, 45, 46, 47, 48, 49, 50, 51, 52, 53, 54, 55, 56, 57, 58, 59, 60])]), (112, [(10, [0, 4, 6, 8, 9, 10, 11, 12, 13, 14, 15, 16, 17, 18, 19, 20, 21, 22, 23, 24, 25, 26, 27, 28, 29, 30, 31, 33, 34, 35, 36, 37, 38, 39, 40, 42, 43, 44, 45, 46, 47, 48, 49, 50, 51, 52, 53]), (7, [0, 4, 6, 8, 9, 10, 11, 12, 13, 14, 15, 16, 17, 18, 19, 20, 21, 22, 23, 24, 25, 26, 27, 28, 29, 30, 31, 33, 34, 35, 36, 37, 38, 39, 40, 41, 42, 43, 44, 45, 46, 47, 48, 49, 50, 51, 52, 53])]), (120, [(8, [0, 1, 4, 5, 6, 9, 10, 11, 12, 13, 14, 15, 16, 17, 18, 19, 20, 21, 22, 23, 24, 25, 26, 27, 28, 29, 30, 31, 32, 33, 34, 35, 36, 37, 38, 39, 40, 41, 42, 43, 44, 45, 46])]), (140, [(19, [2, 5, 7, 9, 11, 12, 13, 14, 15, 16, 17, 18, 19, 20, 21, 22, 23, 24, 25, 26, 27, 28, 29, 30, 31, 32, 33, 34, 35, 36, 37, 38, 39, 40, 41, 42, 43, 44, 45, 46, 47, 48, 49, 50, 51, 52, 53, 54, 55, 56, 57, 58, 59, 60, 61, 62, 63, 64, 65, 66, 67, 68, 69, 70, 71, 72, 73, 74, 75, 76, 77, 78, 79, 80, 81, 82, 83, 84, 85, 86, 87, 88, 89, 90, 91, 92, 93, 94, 95, 96, 97, 98, 99, 100, 101, 102, 103, 104, 105, 106, 107, 108, 109, 110, 111, 112, 113, 114, 115, 116, 117, 118, 119, 120, 121, 122, 123, 124, 125, 126, 127, 128, 129, 130, 131, 132, 133, 134, 135, 136, 137, 138, 139, 140, 141, 142, 143, 144, 145, 149, 150, 151, 152, 153, 154, 155, 156, 157, 158, 159, 160]), (12, [2, 5, 7, 9, 12, 13, 14, 15, 16, 17, 18, 19, 20, 21, 22, 23, 24, 25, 26, 27, 28, 29, 30, 31, 32, 33, 34, 35, 36, 37, 38, 39, 40, 41, 42, 43, 44, 45, 46, 47, 48, 49, 50, 51, 52, 53, 54, 55, 56, 57, 58, 59, 60, 61, 62, 63, 64, 65, 66, 67, 68, 69, 70, 71, 72, 73, 74, 75, 76, 77, 78, 79, 80, 81, 82, 83, 84, 85, 86, 87, 88, 89, 90, 91, 92, 93, 94, 95, 96, 97, 98, 99, 100, 101, 102, 103, 104, 105, 106, 107, 108, 109, 110, 111, 112, 113, 117, 118, 119, 120, 121, 122, 126, 127, 128, 129, 130, 131, 132, 133]), (9, [2, 5, 7, 9, 12, 13, 14, 15, 16, 17, 18, 19, 20, 21, 22, 23, 24, 25, 26, 27, 28, 29, 30, 31, 32, 33, 34, 35, 36, 37, 38, 39, 40, 41, 42, 43, 44, 45, 46, 47, 48, 49, 50, 51, 52, 53, 54, 55, 56, 57, 58, 59, 60, 61, 62, 63, 64, 65, 66, 67, 68, 69, 70, 71, 72, 73, 74, 75, 76, 77, 78, 79, 80, 81, 82, 83, 84, 85, 86, 87, 88, 89, 90, 91, 92, 93, 94, 95, 96, 97, 98, 99, 100, 101, 102, 103, 104, 105, 106, 107, 108, 109, 110, 111, 112, 113, 117, 118, 119, 120, 121, 122, 123, 124, 125, 126, 127, 128, 129, 130, 131, 132, 133]), (4, [2, 5, 12, 13, 14, 15, 16, 17, 18, 19, 20, 21, 22, 23, 24, 25, 26, 27, 28, 29, 30, 31, 32, 33, 34, 35, 36, 37, 38, 39, 40, 41, 42, 43, 44, 45, 46, 47, 48, 49, 50, 51, 52, 53, 54, 55, 56, 57, 58, 59, 60, 61, 62, 63, 64, 65, 66, 67, 68, 69, 70, 71, 72, 73, 74, 75, 76, 77, 78, 79, 80, 81, 82, 83, 84, 85, 86, 87, 88, 89, 90, 91, 92, 93, 94, 95, 99, 100, 101, 102, 103, 104, 105])]), (141, [(3, [0, 2, 5, 6, 7, 8, 9, 10, 11, 12, 13, 14, 15, 16, 17, 18, 22, 23, 24, 25, 26, 27, 28, 29, 30, 31, 32, 33, 34, 35, 36])]), (144, [(3, [0, 2, 5, 6, 7, 8, 9, 11, 12, 13, 14, 15, 16, 17, 18, 19, 20, 21])]), (146, [(5, [2, 3, 7, 8, 9, 10, 11, 12, 13, 14, 15, 16, 17, 20, 21, 22, 23, 24, 25, 26, 27, 28, 29, 30, 31, 32, 33, 34, 35, 36, 37, 38, 39, 40, 41, 42, 43, 44, 45, 46, 47, 48, 49, 50, 51, 52, 53, 54, 55, 56, 57, 58, 59, 60, 61, 62, 63, 64, 65, 66, 67, 68, 69, 70, 71, 72, 73, 74, 75, 76, 77, 78])]), (199, [(3, [0, 2, 4, 5, 9, 10, 11, 12, 13, 14, 15, 16, 17, 18])]), (201, [(4, [4, 7, 8, 9, 10, 11, 12, 13, 14, 15, 16, 17, 18, 19, 20, 21, 22, 23, 24, 25, 26, 27, 28, 29, 30, 31, 32, 33, 34, 35, 36, 37, 38, 39, 40, 41, 42, 43, 44, 45, 46, 47, 48]), (2, [4, 6, 7, 8, 9, 10, 11, 12, 13, 14, 15, 16, 17, 18, 19, 20, 21, 22, 23, 24, 25, 26, 27, 28, 29, 30, 31, 32, 33, 34, 35, 36, 37, 38, 39, 40, 41, 42, 43, 44, 45, 46, 47, 48])]), (202, [(4, [1, 4, 6, 7, 8, 9, 10, 11, 12, 13, 14, 15, 16, 17, 18, 19, 20, 21, 22, 23, 24, 25, 26, 27, 28, 29, 30, 31, 32, 33, 34, 38, 39, 40, 41, 42, 43, 44, 45, 46])]), (264, [(7, [0, 2, 5, 9, 10, 11, 12, 13, 14, 15, 17, 18, 19, 20, 21, 22, 23, 24, 25]), (3, [0, 2, 5, 9, 10, 11, 12, 13, 14, 15, 16, 17, 18, 19, 20, 21, 22, 23, 24, 25])]), (296, [(3, [0, 1, 2, 4, 5, 6, 7, 8, 9, 10, 11, 12, 13, 14, 15, 16, 17, 18, 19, 22, 23, 24, 25, 26, 27, 28, 29, 30])]), (388, [(3, [0, 2, 4, 5, 6, 7, 8, 9, 10, 11, 12, 13, 14, 15, 16, 17, 18, 19, 20, 21, 22, 23, 24, 25, 26, 27, 28, 29, 30, 31, 32, 33, 34, 35, 36, 37, 38, 39, 40, 41, 42, 43, 44, 45, 46, 47, 48, 49, 50, 51, 52, 55, 56, 57, 58, 59, 60, 61, 62, 63, 64, 65, 66, 67, 68, 69, 70, 71, 72, 73, 74, 75, 76, 77])]), (389, [(3, [0, 1, 2, 5, 6, 7, 8, 9, 10, 14, 15, 16, 17, 18, 19, 20, 21, 22, 23, 24, 25, 26, 27, 28, 29, 30, 31, 32, 33, 34, 35, 36, 37, 38, 39, 40, 41, 42, 43, 44, 45])])]
def joins : List (Nat × List (Nat × List Nat)) := []
def quiets : List (Nat × List (Nat × List Bool)) := [(4, [(16, [false, false, false, true, true, true, true, false, false, false, true, true, true, true, true, true, true, false, false, false])]), (10, [(6, [false, false, true, true, true, true, true, true, false])]), (13, [(8, [true, true, true, false, false])]), (31, [(10, [true, true, true, false, false])]), (36, [(0, [false, false, false, true, true, true, true, true, true, true, true, true, true, true, true, false, false, false])]), (38, [(8, [false, true, true, true, true, true, true, true, true, true, true, true]), (11, [false, false, false, false, false, false, true, true, true, true, true, true, true, true, true, true, true, true, false, false, false, false, false]), (12, [false, false, false, true, true, true, true, true, true, true, true, true, true, true, true, true, true, true, true, true, true, true, true, true, true, true, true, true, true, true, true, false, false, false])]), (41, [(13, [false, false, true, true, true, true, true, false, false, false])]), (47, [(1, [false, false, true, true, true, true, true, true, true, true, true, false, false, true, true, true, true, true])]), (48, [(5, [false, false, true, true, true, true, true, true, true, true, true, false])]), (53, [(4, [false, false, true, true, true, true, true, true, true, true, true, true, false, false, false, false])]), (57, [(1, [false, false, true, true, true, true, true, true, true, true, true, true, false, false, false, false])]), (59, [(1, [false, true, true, true, true, true, true, true, true, true, false, false])]), (63, [(4, [false, true, true, true, true, true, true, true, false, false, false])]), (65, [(1, [false, true, true, true, true, true, true, true, false, true, true, false, false])]), (68, [(3, [false, true, true, true, true, false])]), (70, [(13, [false, true, true, true, true, true, false, false]), (15, [false, true, true, true, true, true, false]), (23, [false, true, true, true, true, true, false])]), (72, [(0, [true, true, true, true, true, true, false, false])]), (100, [(2, [false, true, true, true, true, true, true, true, true, false, false, false, false, false]), (7, [true, true, true, true, true, false, false, false])]), (101, [(5, [false, true, true, true, true, true, true, true, true, false, false]), (12, [false, false, true, true, true, true, true, true, true, true, true, true, true, true, true, true, true, false, false, false])]), (103, [(5, [false, true, true, false])]), (104, [(7, [false, false, true, true, true, true, true, true, true, true, true, true, true, false])]), (108, [(1, [false, false, false, false, true, true, true, true, true, true, false, false, false]), (7, [false, true, true, true, true, false, false, false]), (14, [false, true, true, true, true, true, true, true, true, false, false]), (17, [false, false, false, false, false, false, true, true, true, true, true, true, false, false, false, false, false, false, false, false, false, false, false, false])]), (109, [(4, [true, true, true, true, true, true, true, true, false, false]), (8, [false, true, true, true, true, true, true, true, true, true, false, false, false, false])]), (119, [(1, [false, true, true, true, true, true, true, true, true, true, true, true, true, false]), (6, [false, true, true, true, true, true, true, true, true, false, false, false])]), (120, [(9, [false, false, false, true, true, true, true, false, false, false])]), (140, [(1, [false, true, true, true, true, true, true, true, true, true, true, true, true, true, true, true, true, true, true, true, true, true, true, true, true, true, false, false, false]), (2, [false, false, true, true, true, true, true, true, true, true, true, true, true, true, true, true, true, true, true, true, true, true, true, true, true, true, true, true, true, true, true, true, true, true, true, true, true, true, true, true, true, false, false, false, false]), (3, [false, true, true, true, true, true, true, true, true, true, true, true, true, true, true]), (8, [false, true, true, true, true, true, true, true, true, true, true]), (23, [false, false, true, true, true, true, true, true, true, true, true, true, true, true, true, false, false])]), (141, [(1, [false, true, true, true, true, true, true, true, false, false, false]), (5, [false, false, true, true, true, true, true, true, false, false, false, false])]), (146, [(12, [false, false, false, true, true, true, true, true, true, true, true, false, false, false])]), (148, [(1, [false, false, true, true, true, true, true, true, false]), (8, [false, true, true, true, true, true, true, true, true, true, true, true, true, false]), (9, [false, false, true, true, true, true, true, true, true, true, true, true, true, true, true, true, true, true, false, false, false]), (10, [false, true, true, true, true, true, true, true, true, true, true, true, true, true, true, true, true, true, true, true, true, true, true, true, true, false])]), (153, [(3, [false, true, true, true, true, true, true, true, true, true, false, false, false, false])]), (200, [(1, [false, true, true, true, true, true, true, true, true, true, true, true, true, true, true, false, false])]), (201, [(4, [false, false, false, false, false, true, true, true, true, true, true, true, true, false, false]), (6, [false, false, false, true, true, true, true, true, true, true, true, true, true, true, true, true, true, true, false, false])]), (202, [(1, [false, true, true, true, true, true, true, true, true, true, true, true, true, true, true, true, false, false]), (2, [false, true, true, true, true, true, true, true, true, false, false])]), (388, [(1, [true, true, true, true, true, true, true, true, true, true, true, true, true, true, true, true, true, true, true, true, true, true, true, true, true, true, true, true, true, true, true, true, true, true, true, true, true, true, false, false, false])])]
def halfs : List (Nat × List (Nat × List Bool)) := [(38, [(12, [false, false, false, false, false, false, false, false, false, false, false, false, false, false, false, false, false, false, false, false, false, false, false, false, false, false, false, false, true, false, false, false, false, false])]), (47, [(1, [false, false, false, false, false, false, false, false, false, false, false, false, false, false, false, false, true, false])]), (101, [(12, [false, false, false, false, false, false, false, false, false, false, false, true, false, false, false, false, false, false, false, false])]), (140, [(23, [false, false, false, false, false, true, false, false, false, false, true, false, false, false, false, false, false])]), (200, [(1, [false, false, false, false, false, false, false, false, false, false, false, false, true, false, false, false, false])]), (201, [(6, [false, false, false, false, false, false, false, false, false, false, false, false, true, false, false, false, false, false, false, false])]), (202, [(1, [false, false, false, false, false, false, false, false, true, false, false, false, false, false, false, false, false, false]), (2, [false, false, false, true, false, false, false, false, false, false, false])])]
def perms : List (Nat × List (Nat × List Nat)) := [(38, [(12, [0, 1, 2, 3, 4, 5, 6, 7, 8, 9, 10, 11, 12, 13, 14, 15, 16, 17, 18, 19, 20, 21, 22, 23, 24, 25, 28, 29, 30, 26, 27, 31, 32, 33])]), (47, [(1, [0, 1, 2, 3, 4, 5, 6, 7, 8, 9, 10, 11, 12, 13, 15, 16, 17, 14])]), (101, [(12, [0, 6, 7, 8, 9, 10, 11, 12, 13, 14, 15, 16, 1, 2, 3, 4, 5, 17, 18, 19])]), (108, [(17, [0, 1, 2, 3, 4, 12, 5, 6, 7, 8, 9, 10, 11, 13, 14, 15, 16, 17, 18, 19, 20, 21, 22, 23])])]
noncomputable def lists : Lists := { tis := tis, tups := tups, fns := fns, locs := locs, masks := masks, joins := joins, quiets := quiets, halfs := halfs, perms := perms, globs := [0, 1, 2, 3, 4, 5, 6, 7, 8, 9, 10, 11, 12], gszs := [(0, 18), (1, 256), (2, 32), (3, 31), (4, 18), (5, 20), (6, 1), (7, 1), (8, 32), (9, 64), (10, 1), (11, 1), (12, 1)], eqs := [33, 152], tags := [137], tagAs := [58, 59], byts := [(195, 5)], concs := [9, 91, 98, 215], meths := [(91, [("Lines", 388)]), (98, [("Lines", 389)])] }
noncomputable def T : Tab := lists.tab
theorem good3 : fnGood T (3, Tryz.f3) = true := by kernel_rfl
theorem good4 : fnGood T (4, Tryz.f4) = true := by kernel_rfl
theorem good6 : fnGood T (6, Tryz.f6) = true := by kernel_rfl
theorem good7 : fnGood T (7, Tryz.f7) = true := by kernel_rfl
theorem good8 : fnGood T (8, Tryz.f8) = true := by kernel_rfl
theorem good9 : fnGood T (9, Tryz.f9) = true := by kernel_rfl
theorem good10 : fnGood T (10, Tryz.f10) = true := by kernel_rfl
theorem good11 : fnGood T (11, Tryz.f11) = true := by kernel_rfl
theorem good12 : fnGood T (12, Tryz.f12) = true := by kernel_rfl
theorem good13 : fnGood T (13, Tryz.f13) = true := by kernel_rfl
theorem good14 : fnGood T (14, Tryz.f14) = true := by kernel_rfl
theorem good16 : fnGood T (16, Tryz.f16) = true := by kernel_rfl
theorem good18 : fnGood T (18, Tryz.f18) = true := by kernel_rfl
theorem good20 : fnGood T (20, Tryz.f20) = true := by kernel_rfl
theorem good21 : fnGood T (21, Tryz.f21) = true := by kernel_rfl
theorem good22 : fnGood T (22, Tryz.f22) = true := by kernel_rfl
theorem good23 : fnGood T (23, Tryz.f23) = true := by kernel_rfl
theorem good24 : fnGood T (24, Tryz.f24) = true := by kernel_rfl
theorem good25 : fnGood T (25, Tryz.f25) = true := by kernel_rfl
theorem good26 : fnGood T (26, Tryz.f26) = true := by kernel_rfl
theorem good27 : fnGood T (27, Tryz.f27) = true := by kernel_rfl
theorem good28 : fnGood T (28, Tryz.f28) = true := by kernel_rfl
theorem good29 : fnGood T (29, Tryz.f29) = true := by kernel_rfl
theorem good30 : fnGood T (30, Tryz.f30) = true := by kernel_rfl
theorem good31 : fnGood T (31, Tryz.f31) = true := by kernel_rfl
theorem good32 : fnGood T (32, Tryz.f32) = true := by kernel_rfl
theorem good33 : fnGood T (33, Tryz.f33) = true := by kernel_rfl
theorem good34 : fnGood T (34, Tryz.f34) = true := by kernel_rfl
theorem good35 : fnGood T (35, Tryz.f35) = true := by kernel_rfl
theorem good36 : fnGood T (36, Tryz.f36) = true := by kernel_rfl
theorem good38 : fnGood T (38, Tryz.f38) = true := by kernel_rfl
theorem good39 : fnGood T (39, Tryz.f39) = true := by kernel_rfl
theorem good40 : fnGood T (40, Tryz.f40) = true := by kernel_rfl
theorem good41 : fnGood T (41, Tryz.f41) = true := by kernel_rfl
theorem good42 : fnGood T (42, Tryz.f42) = true := by kernel_rfl
theorem good43 : fnGood T (43, Tryz.f43) = true := by kernel_rfl
theorem good44 : fnGood T (44, Tryz.f44) = true := by kernel_rfl
theorem good45 : fnGood T (45, Tryz.f45) = true := by kernel_rfl
theorem good46 : fnGood T (46, Tryz.f46) = true := by kernel_rfl
theorem good47 : fnGood T (47, Tryz.f47) = true := by kernel_rfl
theorem good48 : fnGood T (48, Tryz.f48) = true := by kernel_rfl
theorem good49 : fnGood T (49, Tryz.f49) = true := by kernel_rfl
theorem good50 : fnGood T (50, Tryz.f50) = true := by kernel_rfl
theorem good51 : fnGood T (51, Tryz.f51) = true := by kernel_rfl
theorem good52 : fnGood T (52, Tryz.f52) = true := by kernel_rfl
theorem good53 : fnGood T (53, Tryz.f53) = true := by kernel_rfl
theorem good56 : fnGood T (56, Tryz.f56) = true := by kernel_rfl
theorem good57 : fnGood T (57, Tryz.f57) = true := by kernel_rfl
theorem good58 : fnGood T (58, Tryz.f58) = true := by kernel_rfl
theorem good59 : fnGood T (59, Tryz.f59) = true := by kernel_rfl
theorem good60 : fnGood T (60, Tryz.f60) = true := by kernel_rfl
theorem good61 : fnGood T (61, Tryz.f61) = true := by kernel_rfl
theorem good62 : fnGood T (62, Tryz.f62) = true := by kernel_rfl
theorem good63 : fnGood T (63, Tryz.f63) = true := by kernel_rfl
theorem good64 : fnGood T (64, Tryz.f64) = true := by kernel_rfl
theorem good65 : fnGood T (65, Tryz.f65) = true := by kernel_rfl
theorem good66 : fnGood T (66, Tryz.f66) = true := by kernel_rfl
theorem good67 : fnGood T (67, Tryz.f67) = true := by kernel_rfl
theorem good68 : fnGood T (68, Tryz.f68) = true := by kernel_rfl
theorem good69 : fnGood T (69, Tryz.f69) = true := by kernel_rfl
theorem good70 : fnGood T (70, Tryz.f70) = true := by kernel_rfl
theorem good71 : fnGood T (71, Tryz.f71) = true := by kernel_rfl
theorem good72 : fnGood T (72, Tryz.f72) = true := by kernel_rfl
theorem good73 : fnGood T (73, Tryz.f73) = true := by kernel_rfl
theorem good74 : fnGood T (74, Tryz.f74) = true := by kernel_rfl
theorem good75 : fnGood T (75, Tryz.f75) = true := by kernel_rfl
theorem good76 : fnGood T (76, Tryz.f76) = true := by kernel_rfl
theorem good77 : fnGood T (77, Tryz.f77) = true := by kernel_rfl
theorem good78 : fnGood T (78, Tryz.f78) = true := by kernel_rfl
theorem good79 : fnGood T (79, Tryz.f79) = true := by kernel_rfl
theorem good80 : fnGood T (80, Tryz.f80) = true := by kernel_rfl
theorem good81 : fnGood T (81, Tryz.f81) = true := by kernel_rfl
theorem good82 : fnGood T (82, Tryz.f82) = true := by kernel_rfl
theorem good93 : fnGood T (93, Tryz.f93) = true := by kernel_rfl
theorem good94 : fnGood T (94, Tryz.f94) = true := by kernel_rfl
theorem good95 : fnGood T (95, Tryz.f95) = true := by kernel_rfl
theorem good96 : fnGood T (96, Tryz.f96) = true := by kernel_rfl
theorem good97 : fnGood T (97, Tryz.f97) = true := by kernel_rfl
theorem good98 : fnGood T (98, Tryz.f98) = true := by kernel_rfl
theorem good99 : fnGood T (99, Tryz.f99) = true := by kernel_rfl
theorem good100 : fnGood T (100, Tryz.f100) = true := by kernel_rfl
theorem good101 : fnGood T (101, Tryz.f101) = true := by kernel_rfl
theorem good102 : fnGood T (102, Tryz.f102) = true := by kernel_rfl
theorem good103 : fnGood T (103, Tryz.f103) = true := by kernel_rfl
theorem good104 : fnGood T (104, Tryz.f104) = true := by kernel_rfl
theorem good108 : fnGood T (108, Tryz.f108) = true := by kernel_rfl
theorem good109 : fnGood T (109, Tryz.f109) = true := by kernel_rfl
theorem good112 : fnGood T (112, Tryz.f112) = true := by kernel_rfl
theorem good118 : fnGood T (118, Tryz.f118) = true := by kernel_rfl
theorem good119 : fnGood T (119, Tryz.f119) = true := by kernel_rfl
theorem good120 : fnGood T (120, Tryz.f120) = true := by kernel_rfl
theorem good121 : fnGood T (121, Tryz.f121) = true := by kernel_rfl
theorem good135 : fnGood T (135, Tryz.f135) = true := by kernel_rfl
theorem good137 : fnGood T (137, Tryz.f137) = true := by kernel_rfl
theorem good138 : fnGood T (138, Tryz.f138) = true := by kernel_rfl
theorem good140 : fnGood T (140, Tryz.f140) = true := by kernel_rfl
theorem good141 : fnGood T (141, Tryz.f141) = true := by kernel_rfl
theorem good142 : fnGood T (142, Tryz.f142) = true := by kernel_rfl
theorem good143 : fnGood T (143, Tryz.f143) = true := by kernel_rfl
theorem good144 : fnGood T (144, Tryz.f144) = true := by kernel_rfl
theorem good145 : fnGood T (145, Tryz.f145) = true := by kernel_rfl
theorem good146 : fnGood T (146, Tryz.f146) = true := by kernel_rfl
theorem good148 : fnGood T (148, Tryz.f148) = true := by kernel_rfl
theorem good152 : fnGood T (152, Tryz.f152) = true := by kernel_rfl
theorem good153 : fnGood T (153, Tryz.f153) = true := by kernel_rfl
theorem good154 : fnGood T (154, Tryz.f154) = true := by kernel_rfl
theorem good155 : fnGood T (155, Tryz.f155) = true := by kernel_rfl
theorem good156 : fnGood T (156, Tryz.f156) = true := by kernel_rfl
theorem good178 : fnGood T (178, Tryz.f178) = true := by kernel_rfl
theorem good195 : fnGood T (195, Tryz.f195) = true := by kernel_rfl
theorem good199 : fnGood T (199, Tryz.f199) = true := by kernel_rfl
theorem good200 : fnGood T (200, Tryz.f200) = true := by kernel_rfl
theorem good201 : fnGood T (201, Tryz.f201) = true := by kernel_rfl
theorem good202 : fnGood T (202, Tryz.f202) = true := by kernel_rfl
theorem good204 : fnGood T (204, Tryz.f204) = true := by kernel_rfl
theorem good219 : fnGood T (219, Tryz.f219) = true := by kernel_rfl
theorem good243 : fnGood T (243, Tryz.f243) = true := by kernel_rfl
theorem good257 : fnGood T (257, Tryz.f257) = true := by kernel_rfl
theorem good264 : fnGood T (264, Tryz.f264) = true := by kernel_rfl
theorem good296 : fnGood T (296, Tryz.f296) = true := by kernel_rfl
theorem good388 : fnGood T (388, Tryz.f388) = true := by kernel_rfl
theorem good389 : fnGood T (389, Tryz.f389) = true := by kernel_rfl
theorem tisOk : (lists.tis.all fun p => tiOk Tryz.prog lists.tab p.1 p.2) = true := by kernel_rfl
set_option maxRecDepth 100000 in
theorem fnsOk : FnAll Tryz.prog lists.tab lists.fns := ⟨⟨Tryz.func3, by kernel_rfl, good3⟩, ⟨Tryz.func4, by kernel_rfl, good4⟩, ⟨Tryz.func6, by kernel_rfl, good6⟩, ⟨Tryz.func7, by kernel_rfl, good7⟩, ⟨Tryz.func8, by kernel_rfl, good8⟩, ⟨Tryz.func9, by kernel_rfl, good9⟩, ⟨Tryz.func10, by kernel_rfl, good10⟩, ⟨Tryz.func11, by kernel_rfl, good11⟩, ⟨Tryz.func12, by kernel_rfl, good12⟩, ⟨Tryz.func13, by kernel_rfl, good13⟩, ⟨Tryz.func14, by kernel_rfl, good14⟩, ⟨Tryz.func16, by kernel_rfl, good16⟩, ⟨Tryz.func18, by kernel_rfl, good18⟩, ⟨Tryz.func20, by kernel_rfl, good20⟩, ⟨Tryz.func21, by kernel_rfl, good21⟩, ⟨Tryz.func22, by kernel_rfl, good22⟩, ⟨Tryz.func23, by kernel_rfl, good23⟩, ⟨Tryz.func24, by kernel_rfl, good24⟩, ⟨Tryz.func25, by kernel_rfl, good25⟩, ⟨Tryz.func26, by kernel_rfl, good26⟩, ⟨Tryz.func27, by kernel_rfl, good27⟩, ⟨Tryz.func28, by kernel_rfl, good28⟩, ⟨Tryz.func29, by kernel_rfl, good29⟩, ⟨Tryz.func30, by kernel_rfl, good30⟩, ⟨Tryz.func31, by kernel_rfl, good31⟩, ⟨Tryz.func32, by kernel_rfl, good32⟩, ⟨Tryz.func33, by kernel_rfl, good33⟩, ⟨Tryz.func34, by kernel_rfl, good34⟩, ⟨Tryz.func35, by kernel_rfl, good35⟩, ⟨Tryz.func36, by kernel_rfl, good36⟩, ⟨Tryz.func38, by kernel_rfl, good38⟩, ⟨Tryz.func39, by kernel_rfl, good39⟩, ⟨Tryz.func40, by kernel_rfl, good40⟩, ⟨Tryz.func41, by kernel_rfl, good41⟩, ⟨Tryz.func42, by kernel_rfl, good42⟩, ⟨Tryz.func43, by kernel_rfl, good43⟩, ⟨Tryz.func44, by kernel_rfl, good44⟩, ⟨Tryz.func45, by kernel_rfl, good45⟩, ⟨Tryz.func46, by kernel_rfl, good46⟩, ⟨Tryz.func47, by kernel_rfl, good47⟩, ⟨Tryz.func48, by kernel_rfl, good48⟩, ⟨Tryz.func49, by kernel_rfl, good49⟩, ⟨Tryz.func50, by kernel_rfl, good50⟩, ⟨Tryz.func51, by kernel_rfl, good51⟩, ⟨Tryz.func52, by kernel_rfl, good52⟩, ⟨Tryz.func53, by kernel_rfl, good53⟩, ⟨Tryz.func56, by kernel_rfl, good56⟩, ⟨Tryz.func57, by kernel_rfl, good57⟩, ⟨Tryz.func58, by kernel_rfl, good58⟩, ⟨Tryz.func59, by kernel_rfl, good59⟩, ⟨Tryz.func60, by kernel_rfl, good60⟩, ⟨Tryz.func61, by kernel_rfl, good61⟩, ⟨Tryz.func62, by kernel_rfl, good62⟩, ⟨Tryz.func63, by kernel_rfl, good63⟩, ⟨Tryz.func64, by kernel_rfl, good64⟩, ⟨Tryz.func65, by kernel_rfl, good65⟩, ⟨Tryz.func66, by kernel_rfl, good66⟩, ⟨Tryz.func67, by kernel_rfl, good67⟩, ⟨Tryz.func68, by kernel_rfl, good68⟩, ⟨Tryz.func69, by kernel_rfl, good69⟩, ⟨Tryz.func70, by kernel_rfl, good70⟩, ⟨Tryz.func71, by kernel_rfl, good71⟩, ⟨Tryz.func72, by kernel_rfl, good72⟩, ⟨Tryz.func73, by kernel_rfl, good73⟩, ⟨Tryz.func74, by kernel_rfl, good74⟩, ⟨Tryz.func75, by kernel_rfl, good75⟩, ⟨Tryz.func76, by kernel_rfl, good76⟩, ⟨Tryz.func77, by kernel_rfl, good77⟩, ⟨Tryz.func78, by kernel_rfl, good78⟩, ⟨Tryz.func79, by kernel_rfl, good79⟩, ⟨Tryz.func80, by kernel_rfl, good80⟩, ⟨Tryz.func81, by kernel_rfl, good81⟩, ⟨Tryz.func82, by kernel_rfl, good82⟩, ⟨Tryz.func93, by kernel_rfl, good93⟩, ⟨Tryz.func94, by kernel_rfl, good94⟩, ⟨Tryz.func95, by kernel_rfl, good95⟩, ⟨Tryz.func96, by kernel_rfl, good96⟩, ⟨Tryz.func97, by kernel_rfl, good97⟩, ⟨Tryz.func98, by kernel_rfl, good98⟩, ⟨Tryz.func99, by kernel_rfl, good99⟩, ⟨Tryz.func100, by kernel_rfl, good100⟩, ⟨Tryz.func101, by kernel_rfl, good101⟩, ⟨Tryz.func102, by kernel_rfl, good102⟩, ⟨Tryz.func103, by kernel_rfl, good103⟩, ⟨Tryz.func104, by kernel_rfl, good104⟩, ⟨Tryz.func108, by kernel_rfl, good108⟩, ⟨Tryz.func109, by kernel_rfl, good109⟩, ⟨Tryz.func112, by kernel_rfl, good112⟩, ⟨Tryz.func118, by kernel_rfl, good118⟩, ⟨Tryz.func119, by kernel_rfl, good119⟩, ⟨Tryz.func120, by kernel_rfl, good120⟩, ⟨Tryz.func121, by kernel_rfl, good121⟩, ⟨Tryz.func135, by kernel_rfl, good135⟩, ⟨Tryz.func137, by kernel_rfl, good137⟩, ⟨Tryz.func138, by kernel_rfl, good138⟩, ⟨Tryz.func140, by kernel_rfl, good140⟩, ⟨Tryz.func141, by kernel_rfl, good141⟩, ⟨Tryz.func142, by kernel_rfl, good142⟩, ⟨Tryz.func143, by kernel_rfl, good143⟩, ⟨Tryz.func144, by kernel_rfl, good144⟩, ⟨Tryz.func145, by kernel_rfl, good145⟩, ⟨Tryz.func146, by kernel_rfl, good146⟩, ⟨Tryz.func148, by kernel_rfl, good148⟩, ⟨Tryz.func152, by kernel_rfl, good152⟩, ⟨Tryz.func153, by kernel_rfl, good153⟩, ⟨Tryz.func154, by kernel_rfl, good154⟩, ⟨Tryz.func155, by kernel_rfl, good155⟩, ⟨Tryz.func156, by kernel_rfl, good156⟩, ⟨Tryz.func178, by kernel_rfl, good178⟩, ⟨Tryz.func195, by kernel_rfl, good195⟩, ⟨Tryz.func199, by kernel_rfl, good199⟩, ⟨Tryz.func200, by kernel_rfl, good200⟩, ⟨Tryz.func201, by kernel_rfl, good201⟩, ⟨Tryz.func202, by kernel_rfl, good202⟩, ⟨Tryz.func204, by kernel_rfl, good204⟩, ⟨Tryz.func219, by kernel_rfl, good219⟩, ⟨Tryz.func243, by kernel_rfl, good243⟩, ⟨Tryz.func257, by kernel_rfl, good257⟩, ⟨Tryz.func264, by kernel_rfl, good264⟩, ⟨Tryz.func296, by kernel_rfl, good296⟩, ⟨Tryz.func388, by kernel_rfl, good388⟩, ⟨Tryz.func389, by kernel_rfl, good389⟩, trivial⟩
theorem eqsOk : eqAll Tryz.prog lists = true := by kernel_rfl
theorem ok : TabOK Tryz.prog T := tab_ok tisOk fnsOk eqsOk (by kernel_rfl) (by kernel_rfl) (by kernel_rfl) ⟨⟨fun _ _ => by kernel_rfl, trivial⟩, ⟨fun _ _ => by kernel_rfl, trivial⟩, trivial⟩
end Go.Abs.TE
