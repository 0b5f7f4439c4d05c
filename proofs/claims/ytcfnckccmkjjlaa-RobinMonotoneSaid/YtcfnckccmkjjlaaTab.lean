/- The types and functions of this translation, as the rules want them. No condition. -/
import Derived.Test.YtcfnckccmkjjlaaApp
import Derived.Test.YtcfnckccmkjjlaaChecked
namespace Go.Proofs.Ytcfnckccmkjjlaa
open Go Go.Proofs.Ytcfnckccmkjjlaa.K

def tab : Tab := [
  (1, ⟨.fn, 1, 8, [.nilFunc]⟩),
  (2, ⟨.int .i64, 1, 8, [.int .i64 0]⟩),
  (3, ⟨.int .i64, 1, 8, [.int .i64 0]⟩),
  (4, ⟨.bool, 1, 1, [.bool false]⟩),
  (5, ⟨.int .u8, 1, 1, [.int .u8 0]⟩),
  (6, ⟨.int .u8, 1, 1, [.int .u8 0]⟩),
  (7, ⟨.strct [(0, 1), (1, 1), (2, 1), (3, 1)], 4, 24, [.int .i64 0, .int .i64 0, .bool false, .int .u8 0]⟩),
  (8, ⟨.strct [(0, 1), (1, 1), (2, 1), (3, 1)], 4, 24, [.int .i64 0, .int .i64 0, .bool false, .int .u8 0]⟩),
  (9, ⟨.str, 1, 16, [.string ⟨#[]⟩]⟩),
  (10, ⟨.str, 1, 16, [.string ⟨#[]⟩]⟩),
  (11, ⟨.str, 1, 16, [.string ⟨#[]⟩]⟩),
  (12, ⟨.int .u64, 1, 8, [.int .u64 0]⟩),
  (13, ⟨.strct [(0, 1), (1, 1)], 2, 24, [.string ⟨#[]⟩, .int .u64 0]⟩),
  (14, ⟨.strct [(0, 1), (1, 1)], 2, 24, [.string ⟨#[]⟩, .int .u64 0]⟩),
  (15, ⟨.ptr 150, 1, 8, [.pointer .none]⟩),
  (16, ⟨.ptr 153, 1, 8, [.pointer .none]⟩),
  (17, ⟨.ptr 162, 1, 8, [.pointer .none]⟩),
  (18, ⟨.strct [(0, 1)], 1, 8, [.pointer .none]⟩),
  (19, ⟨.strct [(0, 1)], 1, 8, [.pointer .none]⟩),
  (20, ⟨.iface, 1, 16, [.nilIface]⟩),
  (21, ⟨.int .i32, 1, 4, [.int .i32 0]⟩),
  (22, ⟨.slice 66, 1, 24, [.slice .none 0 0]⟩),
  (23, ⟨.slice 3, 1, 24, [.slice .none 0 0]⟩),
  (24, ⟨.fn, 1, 8, [.nilFunc]⟩),
  (25, ⟨.ptr 76, 1, 8, [.pointer .none]⟩),
  (26, ⟨.fn, 1, 8, [.nilFunc]⟩),
  (27, ⟨.fn, 1, 8, [.nilFunc]⟩),
  (28, ⟨.fn, 1, 8, [.nilFunc]⟩),
  (29, ⟨.fn, 1, 8, [.nilFunc]⟩),
  (30, ⟨.slice 22, 1, 24, [.slice .none 0 0]⟩),
  (31, ⟨.fn, 1, 8, [.nilFunc]⟩),
  (32, ⟨.slice 23, 1, 24, [.slice .none 0 0]⟩),
  (33, ⟨.fn, 1, 8, [.nilFunc]⟩),
  (34, ⟨.arr 2 3, 2, 16, [.int .i64 0, .int .i64 0]⟩),
  (35, ⟨.fn, 1, 8, [.nilFunc]⟩),
  (36, ⟨.slice 34, 1, 24, [.slice .none 0 0]⟩),
  (37, ⟨.strct [(0, 1), (1, 1)], 2, 48, [.slice .none 0 0, .slice .none 0 0]⟩),
  (38, ⟨.strct [(0, 1), (1, 1)], 2, 48, [.slice .none 0 0, .slice .none 0 0]⟩),
  (39, ⟨.int .i64, 1, 8, [.int .i64 0]⟩),
  (41, ⟨.fn, 1, 8, [.nilFunc]⟩),
  (42, ⟨.fn, 1, 8, [.nilFunc]⟩),
  (43, ⟨.fn, 1, 8, [.nilFunc]⟩),
  (44, ⟨.slice 48, 1, 24, [.slice .none 0 0]⟩),
  (45, ⟨.fn, 1, 8, [.nilFunc]⟩),
  (46, ⟨.fn, 1, 8, [.nilFunc]⟩),
  (47, ⟨.strct [(0, 1), (1, 1)], 2, 16, [.int .i64 0, .int .i64 0]⟩),
  (48, ⟨.strct [(0, 1), (1, 1)], 2, 16, [.int .i64 0, .int .i64 0]⟩),
  (49, ⟨.slice 44, 1, 24, [.slice .none 0 0]⟩),
  (50, ⟨.strct [(0, 1), (1, 1), (2, 1)], 3, 40, [.slice .none 0 0, .int .i64 0, .int .i64 0]⟩),
  (51, ⟨.strct [(0, 1), (1, 1), (2, 1)], 3, 40, [.slice .none 0 0, .int .i64 0, .int .i64 0]⟩),
  (53, ⟨.fn, 1, 8, [.nilFunc]⟩),
  (54, ⟨.fn, 1, 8, [.nilFunc]⟩),
  (55, ⟨.fn, 1, 8, [.nilFunc]⟩),
  (56, ⟨.fn, 1, 8, [.nilFunc]⟩),
  (57, ⟨.fn, 1, 8, [.nilFunc]⟩),
  (58, ⟨.fn, 1, 8, [.nilFunc]⟩),
  (59, ⟨.fn, 1, 8, [.nilFunc]⟩),
  (61, ⟨.fn, 1, 8, [.nilFunc]⟩),
  (62, ⟨.fn, 1, 8, [.nilFunc]⟩),
  (63, ⟨.fn, 1, 8, [.nilFunc]⟩),
  (64, ⟨.fn, 1, 8, [.nilFunc]⟩),
  (65, ⟨.strct [(0, 1), (1, 1), (2, 1)], 3, 24, [.int .i64 0, .int .i64 0, .int .i64 0]⟩),
  (66, ⟨.strct [(0, 1), (1, 1), (2, 1)], 3, 24, [.int .i64 0, .int .i64 0, .int .i64 0]⟩),
  (67, ⟨.fn, 1, 8, [.nilFunc]⟩),
  (68, ⟨.strct [(0, 1), (1, 1), (2, 1)], 3, 24, [.bool false, .int .i64 0, .int .i64 0]⟩),
  (69, ⟨.strct [(0, 1), (1, 1), (2, 1)], 3, 24, [.bool false, .int .i64 0, .int .i64 0]⟩),
  (71, ⟨.fn, 1, 8, [.nilFunc]⟩),
  (72, ⟨.fn, 1, 8, [.nilFunc]⟩),
  (73, ⟨.fn, 1, 8, [.nilFunc]⟩),
  (74, ⟨.fn, 1, 8, [.nilFunc]⟩),
  (75, ⟨.strct [(0, 1), (1, 1)], 2, 32, [.slice .none 0 0, .int .i64 0]⟩),
  (76, ⟨.strct [(0, 1), (1, 1)], 2, 32, [.slice .none 0 0, .int .i64 0]⟩),
  (77, ⟨.fn, 1, 8, [.nilFunc]⟩),
  (78, ⟨.fn, 1, 8, [.nilFunc]⟩),
  (79, ⟨.fn, 1, 8, [.nilFunc]⟩),
  (80, ⟨.fn, 1, 8, [.nilFunc]⟩),
  (81, ⟨.fn, 1, 8, [.nilFunc]⟩),
  (82, ⟨.ptr 130, 1, 8, [.pointer .none]⟩),
  (83, ⟨.fn, 1, 8, [.nilFunc]⟩),
  (84, ⟨.strct [(0, 1), (1, 1), (2, 1), (3, 2)], 5, 88, [.int .i64 0, .slice .none 0 0, .int .i64 0, .slice .none 0 0, .slice .none 0 0]⟩),
  (85, ⟨.strct [(0, 1), (1, 1), (2, 1), (3, 2)], 5, 88, [.int .i64 0, .slice .none 0 0, .int .i64 0, .slice .none 0 0, .slice .none 0 0]⟩),
  (86, ⟨.fn, 1, 8, [.nilFunc]⟩),
  (87, ⟨.strct [(0, 1), (1, 1)], 2, 16, [.int .i64 0, .int .i64 0]⟩),
  (88, ⟨.strct [(0, 1), (1, 1)], 2, 16, [.int .i64 0, .int .i64 0]⟩),
  (89, ⟨.fn, 1, 8, [.nilFunc]⟩),
  (90, ⟨.fn, 1, 8, [.nilFunc]⟩),
  (91, ⟨.fn, 1, 8, [.nilFunc]⟩),
  (93, ⟨.fn, 1, 8, [.nilFunc]⟩),
  (95, ⟨.fn, 1, 8, [.nilFunc]⟩),
  (96, ⟨.ptr 48, 1, 8, [.pointer .none]⟩),
  (98, ⟨.fn, 1, 8, [.nilFunc]⟩),
  (100, ⟨.fn, 1, 8, [.nilFunc]⟩),
  (101, ⟨.fn, 1, 8, [.nilFunc]⟩),
  (102, ⟨.fn, 1, 8, [.nilFunc]⟩),
  (103, ⟨.fn, 1, 8, [.nilFunc]⟩),
  (105, ⟨.fn, 1, 8, [.nilFunc]⟩),
  (106, ⟨.fn, 1, 8, [.nilFunc]⟩),
  (107, ⟨.fn, 1, 8, [.nilFunc]⟩),
  (108, ⟨.fn, 1, 8, [.nilFunc]⟩),
  (109, ⟨.fn, 1, 8, [.nilFunc]⟩),
  (111, ⟨.fn, 1, 8, [.nilFunc]⟩),
  (112, ⟨.ptr 114, 1, 8, [.pointer .none]⟩),
  (113, ⟨.strct [(0, 1), (1, 1), (2, 1), (3, 1)], 4, 64, [.slice .none 0 0, .slice .none 0 0, .int .i64 0, .bool false]⟩),
  (114, ⟨.strct [(0, 1), (1, 1), (2, 1), (3, 1)], 4, 64, [.slice .none 0 0, .slice .none 0 0, .int .i64 0, .bool false]⟩),
  (115, ⟨.strct [(0, 1), (1, 1), (2, 1)], 3, 40, [.int .i64 0, .bool false, .slice .none 0 0]⟩),
  (116, ⟨.strct [(0, 1), (1, 1), (2, 1)], 3, 40, [.int .i64 0, .bool false, .slice .none 0 0]⟩),
  (117, ⟨.fn, 1, 8, [.nilFunc]⟩),
  (119, ⟨.fn, 1, 8, [.nilFunc]⟩),
  (120, ⟨.fn, 1, 8, [.nilFunc]⟩),
  (121, ⟨.strct [(0, 3), (3, 3), (6, 1), (7, 1)], 8, 96, [.slice .none 0 0, .int .i64 0, .int .i64 0, .slice .none 0 0, .int .i64 0, .int .i64 0, .int .i64 0, .bool false]⟩),
  (122, ⟨.strct [(0, 3), (3, 3), (6, 1), (7, 1)], 8, 96, [.slice .none 0 0, .int .i64 0, .int .i64 0, .slice .none 0 0, .int .i64 0, .int .i64 0, .int .i64 0, .bool false]⟩),
  (124, ⟨.fn, 1, 8, [.nilFunc]⟩),
  (125, ⟨.fn, 1, 8, [.nilFunc]⟩),
  (126, ⟨.fn, 1, 8, [.nilFunc]⟩),
  (127, ⟨.fn, 1, 8, [.nilFunc]⟩),
  (128, ⟨.slice 4, 1, 24, [.slice .none 0 0]⟩),
  (129, ⟨.strct [(0, 1), (1, 1), (2, 1), (3, 1), (4, 1)], 5, 72, [.int .i64 0, .int .i64 0, .slice .none 0 0, .slice .none 0 0, .int .i64 0]⟩),
  (130, ⟨.strct [(0, 1), (1, 1), (2, 1), (3, 1), (4, 1)], 5, 72, [.int .i64 0, .int .i64 0, .slice .none 0 0, .slice .none 0 0, .int .i64 0]⟩),
  (131, ⟨.fn, 1, 8, [.nilFunc]⟩),
  (132, ⟨.fn, 1, 8, [.nilFunc]⟩),
  (133, ⟨.fn, 1, 8, [.nilFunc]⟩),
  (134, ⟨.fn, 1, 8, [.nilFunc]⟩),
  (135, ⟨.fn, 1, 8, [.nilFunc]⟩),
  (136, ⟨.fn, 1, 8, [.nilFunc]⟩),
  (138, ⟨.fn, 1, 8, [.nilFunc]⟩),
  (139, ⟨.fn, 1, 8, [.nilFunc]⟩),
  (140, ⟨.fn, 1, 8, [.nilFunc]⟩),
  (141, ⟨.fn, 1, 8, [.nilFunc]⟩),
  (142, ⟨.fn, 1, 8, [.nilFunc]⟩),
  (143, ⟨.fn, 1, 8, [.nilFunc]⟩),
  (144, ⟨.fn, 1, 8, [.nilFunc]⟩),
  (145, ⟨.fn, 1, 8, [.nilFunc]⟩),
  (146, ⟨.fn, 1, 8, [.nilFunc]⟩),
  (147, ⟨.fn, 1, 8, [.nilFunc]⟩),
  (148, ⟨.fn, 1, 8, [.nilFunc]⟩),
  (149, ⟨.strct [(0, 1), (1, 1), (2, 1), (3, 1)], 4, 40, [.pointer .none, .pointer .none, .pointer .none, .string ⟨#[]⟩]⟩),
  (150, ⟨.strct [(0, 1), (1, 1), (2, 1), (3, 1)], 4, 40, [.pointer .none, .pointer .none, .pointer .none, .string ⟨#[]⟩]⟩),
  (151, ⟨.arr 0 16, 0, 0, []⟩),
  (152, ⟨.strct [(0, 0)], 0, 0, []⟩),
  (153, ⟨.strct [(0, 0)], 0, 0, []⟩),
  (154, ⟨.int .u32, 1, 4, [.int .u32 0]⟩),
  (155, ⟨.int .u8, 1, 1, [.int .u8 0]⟩),
  (156, ⟨.int .u8, 1, 1, [.int .u8 0]⟩),
  (157, ⟨.fn, 1, 8, [.nilFunc]⟩),
  (158, ⟨.ptr 5, 1, 8, [.pointer .none]⟩),
  (159, ⟨.int .i32, 1, 4, [.int .i32 0]⟩),
  (160, ⟨.int .i32, 1, 4, [.int .i32 0]⟩),
  (161, ⟨.strct [(0, 1), (1, 1), (2, 1), (3, 1), (4, 1), (5, 1), (6, 1), (7, 1), (8, 1), (9, 1), (10, 1)], 11, 48, [.int .u64 0, .int .u64 0, .int .u32 0, .int .u8 0, .int .u8 0, .int .u8 0, .int .u8 0, .nilFunc, .pointer .none, .int .i32 0, .int .i32 0]⟩),
  (162, ⟨.strct [(0, 1), (1, 1), (2, 1), (3, 1), (4, 1), (5, 1), (6, 1), (7, 1), (8, 1), (9, 1), (10, 1)], 11, 48, [.int .u64 0, .int .u64 0, .int .u32 0, .int .u8 0, .int .u8 0, .int .u8 0, .int .u8 0, .nilFunc, .pointer .none, .int .i32 0, .int .i32 0]⟩)]
theorem tab_ok : TabOk Try.prog tab := by unfold TabOk; kernel_rfl
theorem mixed : Try.prog.follows .mixedOrders = true := by kernel_rfl
theorem en3 : Enters Try.prog 3 := Enters.of Try.func3 (by kernel_rfl) rfl
theorem en4 : Enters Try.prog 4 := Enters.of Try.func4 (by kernel_rfl) rfl
theorem en5 : Enters Try.prog 5 := Enters.of Try.func5 (by kernel_rfl) rfl
theorem en6 : Enters Try.prog 6 := Enters.of Try.func6 (by kernel_rfl) rfl
theorem en7 : Enters Try.prog 7 := Enters.of Try.func7 (by kernel_rfl) rfl
theorem en8 : Enters Try.prog 8 := Enters.of Try.func8 (by kernel_rfl) rfl
theorem en9 : Enters Try.prog 9 := Enters.of Try.func9 (by kernel_rfl) rfl
theorem en10 : Enters Try.prog 10 := Enters.of Try.func10 (by kernel_rfl) rfl
theorem en11 : Enters Try.prog 11 := Enters.of Try.func11 (by kernel_rfl) rfl
theorem en12 : Enters Try.prog 12 := Enters.of Try.func12 (by kernel_rfl) rfl
theorem en13 : Enters Try.prog 13 := Enters.of Try.func13 (by kernel_rfl) rfl
theorem en14 : Enters Try.prog 14 := Enters.of Try.func14 (by kernel_rfl) rfl
theorem en15 : Enters Try.prog 15 := Enters.of Try.func15 (by kernel_rfl) rfl
theorem en16 : Enters Try.prog 16 := Enters.of Try.func16 (by kernel_rfl) rfl
theorem en17 : Enters Try.prog 17 := Enters.of Try.func17 (by kernel_rfl) rfl
theorem en18 : Enters Try.prog 18 := Enters.of Try.func18 (by kernel_rfl) rfl
theorem en19 : Enters Try.prog 19 := Enters.of Try.func19 (by kernel_rfl) rfl
theorem en20 : Enters Try.prog 20 := Enters.of Try.func20 (by kernel_rfl) rfl
theorem en21 : Enters Try.prog 21 := Enters.of Try.func21 (by kernel_rfl) rfl
theorem en22 : Enters Try.prog 22 := Enters.of Try.func22 (by kernel_rfl) rfl
theorem en23 : Enters Try.prog 23 := Enters.of Try.func23 (by kernel_rfl) rfl
theorem en24 : Enters Try.prog 24 := Enters.of Try.func24 (by kernel_rfl) rfl
theorem en25 : Enters Try.prog 25 := Enters.of Try.func25 (by kernel_rfl) rfl
theorem en26 : Enters Try.prog 26 := Enters.of Try.func26 (by kernel_rfl) rfl
theorem en27 : Enters Try.prog 27 := Enters.of Try.func27 (by kernel_rfl) rfl
theorem en28 : Enters Try.prog 28 := Enters.of Try.func28 (by kernel_rfl) rfl
theorem en29 : Enters Try.prog 29 := Enters.of Try.func29 (by kernel_rfl) rfl
theorem en30 : Enters Try.prog 30 := Enters.of Try.func30 (by kernel_rfl) rfl
theorem en31 : Enters Try.prog 31 := Enters.of Try.func31 (by kernel_rfl) rfl
theorem en32 : Enters Try.prog 32 := Enters.of Try.func32 (by kernel_rfl) rfl
theorem en33 : Enters Try.prog 33 := Enters.of Try.func33 (by kernel_rfl) rfl
theorem en34 : Enters Try.prog 34 := Enters.of Try.func34 (by kernel_rfl) rfl
theorem en35 : Enters Try.prog 35 := Enters.of Try.func35 (by kernel_rfl) rfl
theorem en36 : Enters Try.prog 36 := Enters.of Try.func36 (by kernel_rfl) rfl
theorem en37 : Enters Try.prog 37 := Enters.of Try.func37 (by kernel_rfl) rfl
theorem en38 : Enters Try.prog 38 := Enters.of Try.func38 (by kernel_rfl) rfl
theorem en39 : Enters Try.prog 39 := Enters.of Try.func39 (by kernel_rfl) rfl
theorem en40 : Enters Try.prog 40 := Enters.of Try.func40 (by kernel_rfl) rfl
theorem en41 : Enters Try.prog 41 := Enters.of Try.func41 (by kernel_rfl) rfl
theorem en42 : Enters Try.prog 42 := Enters.of Try.func42 (by kernel_rfl) rfl
theorem en43 : Enters Try.prog 43 := Enters.of Try.func43 (by kernel_rfl) rfl
theorem en44 : Enters Try.prog 44 := Enters.of Try.func44 (by kernel_rfl) rfl
theorem en45 : Enters Try.prog 45 := Enters.of Try.func45 (by kernel_rfl) rfl
theorem en46 : Enters Try.prog 46 := Enters.of Try.func46 (by kernel_rfl) rfl
theorem en47 : Enters Try.prog 47 := Enters.of Try.func47 (by kernel_rfl) rfl
theorem en48 : Enters Try.prog 48 := Enters.of Try.func48 (by kernel_rfl) rfl
theorem en49 : Enters Try.prog 49 := Enters.of Try.func49 (by kernel_rfl) rfl
theorem en50 : Enters Try.prog 50 := Enters.of Try.func50 (by kernel_rfl) rfl
theorem en51 : Enters Try.prog 51 := Enters.of Try.func51 (by kernel_rfl) rfl
theorem en52 : Enters Try.prog 52 := Enters.of Try.func52 (by kernel_rfl) rfl
theorem en53 : Enters Try.prog 53 := Enters.of Try.func53 (by kernel_rfl) rfl
theorem en54 : Enters Try.prog 54 := Enters.of Try.func54 (by kernel_rfl) rfl
theorem en55 : Enters Try.prog 55 := Enters.of Try.func55 (by kernel_rfl) rfl
theorem en56 : Enters Try.prog 56 := Enters.of Try.func56 (by kernel_rfl) rfl
theorem en57 : Enters Try.prog 57 := Enters.of Try.func57 (by kernel_rfl) rfl
theorem en58 : Enters Try.prog 58 := Enters.of Try.func58 (by kernel_rfl) rfl
theorem en59 : Enters Try.prog 59 := Enters.of Try.func59 (by kernel_rfl) rfl
theorem en60 : Enters Try.prog 60 := Enters.of Try.func60 (by kernel_rfl) rfl
theorem en61 : Enters Try.prog 61 := Enters.of Try.func61 (by kernel_rfl) rfl
theorem en62 : Enters Try.prog 62 := Enters.of Try.func62 (by kernel_rfl) rfl
theorem en63 : Enters Try.prog 63 := Enters.of Try.func63 (by kernel_rfl) rfl
theorem en64 : Enters Try.prog 64 := Enters.of Try.func64 (by kernel_rfl) rfl
theorem en65 : Enters Try.prog 65 := Enters.of Try.func65 (by kernel_rfl) rfl
theorem en66 : Enters Try.prog 66 := Enters.of Try.func66 (by kernel_rfl) rfl
theorem en67 : Enters Try.prog 67 := Enters.of Try.func67 (by kernel_rfl) rfl
theorem en68 : Enters Try.prog 68 := Enters.of Try.func68 (by kernel_rfl) rfl
theorem en69 : Enters Try.prog 69 := Enters.of Try.func69 (by kernel_rfl) rfl
theorem en70 : Enters Try.prog 70 := Enters.of Try.func70 (by kernel_rfl) rfl
theorem en71 : Enters Try.prog 71 := Enters.of Try.func71 (by kernel_rfl) rfl
theorem en72 : Enters Try.prog 72 := Enters.of Try.func72 (by kernel_rfl) rfl
theorem en73 : Enters Try.prog 73 := Enters.of Try.func73 (by kernel_rfl) rfl
theorem en74 : Enters Try.prog 74 := Enters.of Try.func74 (by kernel_rfl) rfl
theorem en75 : Enters Try.prog 75 := Enters.of Try.func75 (by kernel_rfl) rfl
theorem en76 : Enters Try.prog 76 := Enters.of Try.func76 (by kernel_rfl) rfl
theorem en77 : Enters Try.prog 77 := Enters.of Try.func77 (by kernel_rfl) rfl
theorem en78 : Enters Try.prog 78 := Enters.of Try.func78 (by kernel_rfl) rfl
theorem en79 : Enters Try.prog 79 := Enters.of Try.func79 (by kernel_rfl) rfl
theorem en80 : Enters Try.prog 80 := Enters.of Try.func80 (by kernel_rfl) rfl
theorem en81 : Enters Try.prog 81 := Enters.of Try.func81 (by kernel_rfl) rfl
theorem en82 : Enters Try.prog 82 := Enters.of Try.func82 (by kernel_rfl) rfl
theorem en83 : Enters Try.prog 83 := Enters.of Try.func83 (by kernel_rfl) rfl
theorem en84 : Enters Try.prog 84 := Enters.of Try.func84 (by kernel_rfl) rfl
theorem en85 : Enters Try.prog 85 := Enters.of Try.func85 (by kernel_rfl) rfl
theorem en86 : Enters Try.prog 86 := Enters.of Try.func86 (by kernel_rfl) rfl
theorem en87 : Enters Try.prog 87 := Enters.of Try.func87 (by kernel_rfl) rfl
theorem en88 : Enters Try.prog 88 := Enters.of Try.func88 (by kernel_rfl) rfl
theorem en89 : Enters Try.prog 89 := Enters.of Try.func89 (by kernel_rfl) rfl
theorem en90 : Enters Try.prog 90 := Enters.of Try.func90 (by kernel_rfl) rfl
theorem en91 : Enters Try.prog 91 := Enters.of Try.func91 (by kernel_rfl) rfl
theorem en92 : Enters Try.prog 92 := Enters.of Try.func92 (by kernel_rfl) rfl
theorem en93 : Enters Try.prog 93 := Enters.of Try.func93 (by kernel_rfl) rfl
theorem en94 : Enters Try.prog 94 := Enters.of Try.func94 (by kernel_rfl) rfl
theorem en95 : Enters Try.prog 95 := Enters.of Try.func95 (by kernel_rfl) rfl
theorem en96 : Enters Try.prog 96 := Enters.of Try.func96 (by kernel_rfl) rfl
theorem en97 : Enters Try.prog 97 := Enters.of Try.func97 (by kernel_rfl) rfl
theorem en98 : Enters Try.prog 98 := Enters.of Try.func98 (by kernel_rfl) rfl
theorem en99 : Enters Try.prog 99 := Enters.of Try.func99 (by kernel_rfl) rfl
theorem en100 : Enters Try.prog 100 := Enters.of Try.func100 (by kernel_rfl) rfl
theorem en101 : Enters Try.prog 101 := Enters.of Try.func101 (by kernel_rfl) rfl
theorem en102 : Enters Try.prog 102 := Enters.of Try.func102 (by kernel_rfl) rfl
theorem en103 : Enters Try.prog 103 := Enters.of Try.func103 (by kernel_rfl) rfl
theorem en104 : Enters Try.prog 104 := Enters.of Try.func104 (by kernel_rfl) rfl
theorem en105 : Enters Try.prog 105 := Enters.of Try.func105 (by kernel_rfl) rfl
theorem en106 : Enters Try.prog 106 := Enters.of Try.func106 (by kernel_rfl) rfl
theorem en107 : Enters Try.prog 107 := Enters.of Try.func107 (by kernel_rfl) rfl
theorem en108 : Enters Try.prog 108 := Enters.of Try.func108 (by kernel_rfl) rfl
theorem en109 : Enters Try.prog 109 := Enters.of Try.func109 (by kernel_rfl) rfl
theorem en110 : Enters Try.prog 110 := Enters.of Try.func110 (by kernel_rfl) rfl
theorem en111 : Enters Try.prog 111 := Enters.of Try.func111 (by kernel_rfl) rfl
theorem en112 : Enters Try.prog 112 := Enters.of Try.func112 (by kernel_rfl) rfl
theorem en113 : Enters Try.prog 113 := Enters.of Try.func113 (by kernel_rfl) rfl
theorem en114 : Enters Try.prog 114 := Enters.of Try.func114 (by kernel_rfl) rfl
theorem en115 : Enters Try.prog 115 := Enters.of Try.func115 (by kernel_rfl) rfl
theorem en116 : Enters Try.prog 116 := Enters.of Try.func116 (by kernel_rfl) rfl
theorem en117 : Enters Try.prog 117 := Enters.of Try.func117 (by kernel_rfl) rfl
theorem en118 : Enters Try.prog 118 := Enters.of Try.func118 (by kernel_rfl) rfl
theorem en119 : Enters Try.prog 119 := Enters.of Try.func119 (by kernel_rfl) rfl
theorem en120 : Enters Try.prog 120 := Enters.of Try.func120 (by kernel_rfl) rfl
theorem en121 : Enters Try.prog 121 := Enters.of Try.func121 (by kernel_rfl) rfl
theorem en122 : Enters Try.prog 122 := Enters.of Try.func122 (by kernel_rfl) rfl
theorem en123 : Enters Try.prog 123 := Enters.of Try.func123 (by kernel_rfl) rfl
theorem en124 : Enters Try.prog 124 := Enters.of Try.func124 (by kernel_rfl) rfl
theorem en125 : Enters Try.prog 125 := Enters.of Try.func125 (by kernel_rfl) rfl
theorem en126 : Enters Try.prog 126 := Enters.of Try.func126 (by kernel_rfl) rfl
theorem en127 : Enters Try.prog 127 := Enters.of Try.func127 (by kernel_rfl) rfl
theorem en128 : Enters Try.prog 128 := Enters.of Try.func128 (by kernel_rfl) rfl
theorem en129 : Enters Try.prog 129 := Enters.of Try.func129 (by kernel_rfl) rfl
theorem en130 : Enters Try.prog 130 := Enters.of Try.func130 (by kernel_rfl) rfl
theorem en131 : Enters Try.prog 131 := Enters.of Try.func131 (by kernel_rfl) rfl
end Go.Proofs.Ytcfnckccmkjjlaa
