/- The types and functions of this translation, as the rules want them. No condition. -/
import Derived.Test.YtgcpmmbljhnacaaApp
import Derived.Test.YtgcpmmbljhnacaaChecked
namespace Go.Proofs.Ytgcpmmbljhnacaa
open Go Go.Proofs.Ytgcpmmbljhnacaa.K

def tab : Tab := [
  (1, ⟨.fn, 1, 8, [.nilFunc]⟩),
  (2, ⟨.int .i64, 1, 8, [.int .i64 0]⟩),
  (3, ⟨.int .i64, 1, 8, [.int .i64 0]⟩),
  (4, ⟨.bool, 1, 1, [.bool false]⟩),
  (5, ⟨.int .u8, 1, 1, [.int .u8 0]⟩),
  (6, ⟨.int .u8, 1, 1, [.int .u8 0]⟩),
  (7, ⟨.strct [(0, 1), (1, 1), (2, 1), (3, 1)], 4, 24, [.int .i64 0, .int .i64 0, .bool false, .int .u8 0]⟩),
  (8, ⟨.strct [(0, 1), (1, 1), (2, 1), (3, 1)], 4, 24, [.int .i64 0, .int .i64 0, .bool false, .int .u8 0]⟩),
  (9, ⟨.str, 1, 16, [.string ⟨#[]⟩]⟩),
  (10, ⟨.str, 1, 16, [.string ⟨#[]⟩]⟩),
  (11, ⟨.str, 1, 16, [.string ⟨#[]⟩]⟩),
  (12, ⟨.int .u64, 1, 8, [.int .u64 0]⟩),
  (13, ⟨.strct [(0, 1), (1, 1)], 2, 24, [.string ⟨#[]⟩, .int .u64 0]⟩),
  (14, ⟨.strct [(0, 1), (1, 1)], 2, 24, [.string ⟨#[]⟩, .int .u64 0]⟩),
  (15, ⟨.ptr 118, 1, 8, [.pointer .none]⟩),
  (16, ⟨.ptr 121, 1, 8, [.pointer .none]⟩),
  (17, ⟨.ptr 130, 1, 8, [.pointer .none]⟩),
  (18, ⟨.strct [(0, 1)], 1, 8, [.pointer .none]⟩),
  (19, ⟨.strct [(0, 1)], 1, 8, [.pointer .none]⟩),
  (20, ⟨.iface, 1, 16, [.nilIface]⟩),
  (21, ⟨.int .i32, 1, 4, [.int .i32 0]⟩),
  (22, ⟨.slice 53, 1, 24, [.slice .none 0 0]⟩),
  (23, ⟨.slice 3, 1, 24, [.slice .none 0 0]⟩),
  (24, ⟨.fn, 1, 8, [.nilFunc]⟩),
  (25, ⟨.ptr 68, 1, 8, [.pointer .none]⟩),
  (26, ⟨.fn, 1, 8, [.nilFunc]⟩),
  (27, ⟨.fn, 1, 8, [.nilFunc]⟩),
  (28, ⟨.fn, 1, 8, [.nilFunc]⟩),
  (29, ⟨.slice 22, 1, 24, [.slice .none 0 0]⟩),
  (30, ⟨.fn, 1, 8, [.nilFunc]⟩),
  (31, ⟨.arr 3 3, 3, 24, [.int .i64 0, .int .i64 0, .int .i64 0]⟩),
  (32, ⟨.fn, 1, 8, [.nilFunc]⟩),
  (33, ⟨.slice 31, 1, 24, [.slice .none 0 0]⟩),
  (34, ⟨.slice 23, 1, 24, [.slice .none 0 0]⟩),
  (35, ⟨.strct [(0, 1), (1, 1)], 2, 48, [.slice .none 0 0, .slice .none 0 0]⟩),
  (36, ⟨.strct [(0, 1), (1, 1)], 2, 48, [.slice .none 0 0, .slice .none 0 0]⟩),
  (37, ⟨.int .i64, 1, 8, [.int .i64 0]⟩),
  (39, ⟨.fn, 1, 8, [.nilFunc]⟩),
  (40, ⟨.fn, 1, 8, [.nilFunc]⟩),
  (42, ⟨.fn, 1, 8, [.nilFunc]⟩),
  (43, ⟨.strct [(0, 1), (1, 1), (2, 1)], 3, 40, [.slice .none 0 0, .int .i64 0, .int .i64 0]⟩),
  (44, ⟨.strct [(0, 1), (1, 1), (2, 1)], 3, 40, [.slice .none 0 0, .int .i64 0, .int .i64 0]⟩),
  (46, ⟨.fn, 1, 8, [.nilFunc]⟩),
  (47, ⟨.fn, 1, 8, [.nilFunc]⟩),
  (48, ⟨.fn, 1, 8, [.nilFunc]⟩),
  (49, ⟨.fn, 1, 8, [.nilFunc]⟩),
  (50, ⟨.fn, 1, 8, [.nilFunc]⟩),
  (51, ⟨.fn, 1, 8, [.nilFunc]⟩),
  (52, ⟨.strct [(0, 1), (1, 1), (2, 1)], 3, 24, [.int .i64 0, .int .i64 0, .int .i64 0]⟩),
  (53, ⟨.strct [(0, 1), (1, 1), (2, 1)], 3, 24, [.int .i64 0, .int .i64 0, .int .i64 0]⟩),
  (54, ⟨.fn, 1, 8, [.nilFunc]⟩),
  (55, ⟨.fn, 1, 8, [.nilFunc]⟩),
  (56, ⟨.fn, 1, 8, [.nilFunc]⟩),
  (58, ⟨.fn, 1, 8, [.nilFunc]⟩),
  (59, ⟨.fn, 1, 8, [.nilFunc]⟩),
  (60, ⟨.fn, 1, 8, [.nilFunc]⟩),
  (62, ⟨.fn, 1, 8, [.nilFunc]⟩),
  (63, ⟨.strct [(0, 1), (1, 1), (2, 1)], 3, 24, [.bool false, .int .i64 0, .int .i64 0]⟩),
  (64, ⟨.strct [(0, 1), (1, 1), (2, 1)], 3, 24, [.bool false, .int .i64 0, .int .i64 0]⟩),
  (66, ⟨.fn, 1, 8, [.nilFunc]⟩),
  (67, ⟨.strct [(0, 1), (1, 1)], 2, 32, [.slice .none 0 0, .int .i64 0]⟩),
  (68, ⟨.strct [(0, 1), (1, 1)], 2, 32, [.slice .none 0 0, .int .i64 0]⟩),
  (69, ⟨.fn, 1, 8, [.nilFunc]⟩),
  (70, ⟨.fn, 1, 8, [.nilFunc]⟩),
  (71, ⟨.fn, 1, 8, [.nilFunc]⟩),
  (72, ⟨.fn, 1, 8, [.nilFunc]⟩),
  (73, ⟨.fn, 1, 8, [.nilFunc]⟩),
  (74, ⟨.fn, 1, 8, [.nilFunc]⟩),
  (75, ⟨.ptr 101, 1, 8, [.pointer .none]⟩),
  (76, ⟨.strct [(0, 1), (1, 1), (2, 1), (3, 2)], 5, 88, [.int .i64 0, .slice .none 0 0, .int .i64 0, .slice .none 0 0, .slice .none 0 0]⟩),
  (77, ⟨.strct [(0, 1), (1, 1), (2, 1), (3, 2)], 5, 88, [.int .i64 0, .slice .none 0 0, .int .i64 0, .slice .none 0 0, .slice .none 0 0]⟩),
  (78, ⟨.fn, 1, 8, [.nilFunc]⟩),
  (79, ⟨.fn, 1, 8, [.nilFunc]⟩),
  (80, ⟨.fn, 1, 8, [.nilFunc]⟩),
  (82, ⟨.fn, 1, 8, [.nilFunc]⟩),
  (84, ⟨.fn, 1, 8, [.nilFunc]⟩),
  (85, ⟨.fn, 1, 8, [.nilFunc]⟩),
  (86, ⟨.fn, 1, 8, [.nilFunc]⟩),
  (87, ⟨.fn, 1, 8, [.nilFunc]⟩),
  (88, ⟨.fn, 1, 8, [.nilFunc]⟩),
  (89, ⟨.fn, 1, 8, [.nilFunc]⟩),
  (90, ⟨.strct [(0, 3), (3, 3), (6, 1), (7, 1)], 8, 96, [.slice .none 0 0, .int .i64 0, .int .i64 0, .slice .none 0 0, .int .i64 0, .int .i64 0, .int .i64 0, .bool false]⟩),
  (91, ⟨.strct [(0, 3), (3, 3), (6, 1), (7, 1)], 8, 96, [.slice .none 0 0, .int .i64 0, .int .i64 0, .slice .none 0 0, .int .i64 0, .int .i64 0, .int .i64 0, .bool false]⟩),
  (93, ⟨.fn, 1, 8, [.nilFunc]⟩),
  (94, ⟨.fn, 1, 8, [.nilFunc]⟩),
  (96, ⟨.fn, 1, 8, [.nilFunc]⟩),
  (97, ⟨.fn, 1, 8, [.nilFunc]⟩),
  (98, ⟨.fn, 1, 8, [.nilFunc]⟩),
  (99, ⟨.slice 4, 1, 24, [.slice .none 0 0]⟩),
  (100, ⟨.strct [(0, 1), (1, 1), (2, 1), (3, 1), (4, 1)], 5, 72, [.int .i64 0, .int .i64 0, .slice .none 0 0, .slice .none 0 0, .int .i64 0]⟩),
  (101, ⟨.strct [(0, 1), (1, 1), (2, 1), (3, 1), (4, 1)], 5, 72, [.int .i64 0, .int .i64 0, .slice .none 0 0, .slice .none 0 0, .int .i64 0]⟩),
  (102, ⟨.fn, 1, 8, [.nilFunc]⟩),
  (103, ⟨.fn, 1, 8, [.nilFunc]⟩),
  (104, ⟨.fn, 1, 8, [.nilFunc]⟩),
  (105, ⟨.fn, 1, 8, [.nilFunc]⟩),
  (106, ⟨.fn, 1, 8, [.nilFunc]⟩),
  (107, ⟨.fn, 1, 8, [.nilFunc]⟩),
  (108, ⟨.fn, 1, 8, [.nilFunc]⟩),
  (109, ⟨.fn, 1, 8, [.nilFunc]⟩),
  (110, ⟨.fn, 1, 8, [.nilFunc]⟩),
  (111, ⟨.fn, 1, 8, [.nilFunc]⟩),
  (112, ⟨.fn, 1, 8, [.nilFunc]⟩),
  (113, ⟨.fn, 1, 8, [.nilFunc]⟩),
  (114, ⟨.fn, 1, 8, [.nilFunc]⟩),
  (115, ⟨.fn, 1, 8, [.nilFunc]⟩),
  (116, ⟨.fn, 1, 8, [.nilFunc]⟩),
  (117, ⟨.strct [(0, 1), (1, 1), (2, 1), (3, 1)], 4, 40, [.pointer .none, .pointer .none, .pointer .none, .string ⟨#[]⟩]⟩),
  (118, ⟨.strct [(0, 1), (1, 1), (2, 1), (3, 1)], 4, 40, [.pointer .none, .pointer .none, .pointer .none, .string ⟨#[]⟩]⟩),
  (119, ⟨.arr 0 16, 0, 0, []⟩),
  (120, ⟨.strct [(0, 0)], 0, 0, []⟩),
  (121, ⟨.strct [(0, 0)], 0, 0, []⟩),
  (122, ⟨.int .u32, 1, 4, [.int .u32 0]⟩),
  (123, ⟨.int .u8, 1, 1, [.int .u8 0]⟩),
  (124, ⟨.int .u8, 1, 1, [.int .u8 0]⟩),
  (125, ⟨.fn, 1, 8, [.nilFunc]⟩),
  (126, ⟨.ptr 5, 1, 8, [.pointer .none]⟩),
  (127, ⟨.int .i32, 1, 4, [.int .i32 0]⟩),
  (128, ⟨.int .i32, 1, 4, [.int .i32 0]⟩),
  (129, ⟨.strct [(0, 1), (1, 1), (2, 1), (3, 1), (4, 1), (5, 1), (6, 1), (7, 1), (8, 1), (9, 1), (10, 1)], 11, 48, [.int .u64 0, .int .u64 0, .int .u32 0, .int .u8 0, .int .u8 0, .int .u8 0, .int .u8 0, .nilFunc, .pointer .none, .int .i32 0, .int .i32 0]⟩),
  (130, ⟨.strct [(0, 1), (1, 1), (2, 1), (3, 1), (4, 1), (5, 1), (6, 1), (7, 1), (8, 1), (9, 1), (10, 1)], 11, 48, [.int .u64 0, .int .u64 0, .int .u32 0, .int .u8 0, .int .u8 0, .int .u8 0, .int .u8 0, .nilFunc, .pointer .none, .int .i32 0, .int .i32 0]⟩)]
theorem tab_ok : TabOk Try.prog tab := by unfold TabOk; kernel_rfl
theorem mixed : Try.prog.follows .mixedOrders = true := by kernel_rfl
theorem en3 : Enters Try.prog 3 := Enters.of Try.func3 (by kernel_rfl) rfl
theorem en4 : Enters Try.prog 4 := Enters.of Try.func4 (by kernel_rfl) rfl
theorem en5 : Enters Try.prog 5 := Enters.of Try.func5 (by kernel_rfl) rfl
theorem en6 : Enters Try.prog 6 := Enters.of Try.func6 (by kernel_rfl) rfl
theorem en7 : Enters Try.prog 7 := Enters.of Try.func7 (by kernel_rfl) rfl
theorem en8 : Enters Try.prog 8 := Enters.of Try.func8 (by kernel_rfl) rfl
theorem en9 : Enters Try.prog 9 := Enters.of Try.func9 (by kernel_rfl) rfl
theorem en10 : Enters Try.prog 10 := Enters.of Try.func10 (by kernel_rfl) rfl
theorem en11 : Enters Try.prog 11 := Enters.of Try.func11 (by kernel_rfl) rfl
theorem en12 : Enters Try.prog 12 := Enters.of Try.func12 (by kernel_rfl) rfl
theorem en13 : Enters Try.prog 13 := Enters.of Try.func13 (by kernel_rfl) rfl
theorem en14 : Enters Try.prog 14 := Enters.of Try.func14 (by kernel_rfl) rfl
theorem en15 : Enters Try.prog 15 := Enters.of Try.func15 (by kernel_rfl) rfl
theorem en16 : Enters Try.prog 16 := Enters.of Try.func16 (by kernel_rfl) rfl
theorem en17 : Enters Try.prog 17 := Enters.of Try.func17 (by kernel_rfl) rfl
theorem en18 : Enters Try.prog 18 := Enters.of Try.func18 (by kernel_rfl) rfl
theorem en19 : Enters Try.prog 19 := Enters.of Try.func19 (by kernel_rfl) rfl
theorem en20 : Enters Try.prog 20 := Enters.of Try.func20 (by kernel_rfl) rfl
theorem en21 : Enters Try.prog 21 := Enters.of Try.func21 (by kernel_rfl) rfl
theorem en22 : Enters Try.prog 22 := Enters.of Try.func22 (by kernel_rfl) rfl
theorem en23 : Enters Try.prog 23 := Enters.of Try.func23 (by kernel_rfl) rfl
theorem en24 : Enters Try.prog 24 := Enters.of Try.func24 (by kernel_rfl) rfl
theorem en25 : Enters Try.prog 25 := Enters.of Try.func25 (by kernel_rfl) rfl
theorem en26 : Enters Try.prog 26 := Enters.of Try.func26 (by kernel_rfl) rfl
theorem en27 : Enters Try.prog 27 := Enters.of Try.func27 (by kernel_rfl) rfl
theorem en28 : Enters Try.prog 28 := Enters.of Try.func28 (by kernel_rfl) rfl
theorem en29 : Enters Try.prog 29 := Enters.of Try.func29 (by kernel_rfl) rfl
theorem en30 : Enters Try.prog 30 := Enters.of Try.func30 (by kernel_rfl) rfl
theorem en31 : Enters Try.prog 31 := Enters.of Try.func31 (by kernel_rfl) rfl
theorem en32 : Enters Try.prog 32 := Enters.of Try.func32 (by kernel_rfl) rfl
theorem en33 : Enters Try.prog 33 := Enters.of Try.func33 (by kernel_rfl) rfl
theorem en34 : Enters Try.prog 34 := Enters.of Try.func34 (by kernel_rfl) rfl
theorem en35 : Enters Try.prog 35 := Enters.of Try.func35 (by kernel_rfl) rfl
theorem en36 : Enters Try.prog 36 := Enters.of Try.func36 (by kernel_rfl) rfl
theorem en37 : Enters Try.prog 37 := Enters.of Try.func37 (by kernel_rfl) rfl
theorem en38 : Enters Try.prog 38 := Enters.of Try.func38 (by kernel_rfl) rfl
theorem en39 : Enters Try.prog 39 := Enters.of Try.func39 (by kernel_rfl) rfl
theorem en40 : Enters Try.prog 40 := Enters.of Try.func40 (by kernel_rfl) rfl
theorem en41 : Enters Try.prog 41 := Enters.of Try.func41 (by kernel_rfl) rfl
theorem en42 : Enters Try.prog 42 := Enters.of Try.func42 (by kernel_rfl) rfl
theorem en43 : Enters Try.prog 43 := Enters.of Try.func43 (by kernel_rfl) rfl
theorem en44 : Enters Try.prog 44 := Enters.of Try.func44 (by kernel_rfl) rfl
theorem en45 : Enters Try.prog 45 := Enters.of Try.func45 (by kernel_rfl) rfl
theorem en46 : Enters Try.prog 46 := Enters.of Try.func46 (by kernel_rfl) rfl
theorem en47 : Enters Try.prog 47 := Enters.of Try.func47 (by kernel_rfl) rfl
theorem en48 : Enters Try.prog 48 := Enters.of Try.func48 (by kernel_rfl) rfl
theorem en49 : Enters Try.prog 49 := Enters.of Try.func49 (by kernel_rfl) rfl
theorem en50 : Enters Try.prog 50 := Enters.of Try.func50 (by kernel_rfl) rfl
theorem en51 : Enters Try.prog 51 := Enters.of Try.func51 (by kernel_rfl) rfl
theorem en52 : Enters Try.prog 52 := Enters.of Try.func52 (by kernel_rfl) rfl
theorem en53 : Enters Try.prog 53 := Enters.of Try.func53 (by kernel_rfl) rfl
theorem en54 : Enters Try.prog 54 := Enters.of Try.func54 (by kernel_rfl) rfl
theorem en55 : Enters Try.prog 55 := Enters.of Try.func55 (by kernel_rfl) rfl
theorem en56 : Enters Try.prog 56 := Enters.of Try.func56 (by kernel_rfl) rfl
theorem en57 : Enters Try.prog 57 := Enters.of Try.func57 (by kernel_rfl) rfl
theorem en58 : Enters Try.prog 58 := Enters.of Try.func58 (by kernel_rfl) rfl
theorem en59 : Enters Try.prog 59 := Enters.of Try.func59 (by kernel_rfl) rfl
theorem en60 : Enters Try.prog 60 := Enters.of Try.func60 (by kernel_rfl) rfl
theorem en61 : Enters Try.prog 61 := Enters.of Try.func61 (by kernel_rfl) rfl
theorem en62 : Enters Try.prog 62 := Enters.of Try.func62 (by kernel_rfl) rfl
theorem en63 : Enters Try.prog 63 := Enters.of Try.func63 (by kernel_rfl) rfl
theorem en64 : Enters Try.prog 64 := Enters.of Try.func64 (by kernel_rfl) rfl
theorem en65 : Enters Try.prog 65 := Enters.of Try.func65 (by kernel_rfl) rfl
theorem en66 : Enters Try.prog 66 := Enters.of Try.func66 (by kernel_rfl) rfl
theorem en67 : Enters Try.prog 67 := Enters.of Try.func67 (by kernel_rfl) rfl
theorem en68 : Enters Try.prog 68 := Enters.of Try.func68 (by kernel_rfl) rfl
theorem en69 : Enters Try.prog 69 := Enters.of Try.func69 (by kernel_rfl) rfl
theorem en70 : Enters Try.prog 70 := Enters.of Try.func70 (by kernel_rfl) rfl
theorem en71 : Enters Try.prog 71 := Enters.of Try.func71 (by kernel_rfl) rfl
theorem en72 : Enters Try.prog 72 := Enters.of Try.func72 (by kernel_rfl) rfl
theorem en73 : Enters Try.prog 73 := Enters.of Try.func73 (by kernel_rfl) rfl
theorem en74 : Enters Try.prog 74 := Enters.of Try.func74 (by kernel_rfl) rfl
theorem en75 : Enters Try.prog 75 := Enters.of Try.func75 (by kernel_rfl) rfl
theorem en76 : Enters Try.prog 76 := Enters.of Try.func76 (by kernel_rfl) rfl
theorem en77 : Enters Try.prog 77 := Enters.of Try.func77 (by kernel_rfl) rfl
theorem en78 : Enters Try.prog 78 := Enters.of Try.func78 (by kernel_rfl) rfl
theorem en79 : Enters Try.prog 79 := Enters.of Try.func79 (by kernel_rfl) rfl
theorem en80 : Enters Try.prog 80 := Enters.of Try.func80 (by kernel_rfl) rfl
theorem en81 : Enters Try.prog 81 := Enters.of Try.func81 (by kernel_rfl) rfl
theorem en82 : Enters Try.prog 82 := Enters.of Try.func82 (by kernel_rfl) rfl
end Go.Proofs.Ytgcpmmbljhnacaa
