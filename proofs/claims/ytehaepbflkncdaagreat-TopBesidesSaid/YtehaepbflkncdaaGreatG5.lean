/- Rules and walks, joined from 17 texts: the first of them says: Calls that are known, made once: the kernel runs them. No condition. -/
import Derived.Test.YtehaepbflkncdaaGreatG4
set_option linter.unusedSimpArgs false
set_option linter.unusedVariables false
set_option linter.unnecessarySimpa false
namespace Go.Proofs.YtehaepbflkncdaaGreat.I
open Go Go.RowKit Go.Proofs.YtehaepbflkncdaaGreat.K
set_option maxRecDepth 1000000
noncomputable def O0:HO:=.cells 33 [z 1,z 10,z 1,.sl none 0 (some 0),.sl none 0 (some 0),z 1,z 10,z 1,.sl none 0 (some 0),.sl none 0 (some 0)]
noncomputable def O1:HO:=.cells 39 [.s ⟨#[102]⟩,.sl (some (3,0)) 2 (some 2),z 0,z 1,z 4,.sl (some (4,0)) 5 none,z 4,z 4,.s ⟨#[103]⟩,.sl (some (5,0)) 2 (some 2),z 0,z 1,z 4,.sl (some (4,0)) 5 none,z 4,z 4]
noncomputable def A0:Fact:=⟨[],[],.ag [.sl (some (0,0)) 2 (some 2),.sl (some (1,0)) 2 (some 2),.sl (some (2,0)) 2 (some 2)],[.cells 9 [.s ⟨#[97]⟩,.s ⟨#[98]⟩],O0,O1,.cells 3 [z 0,z 1],.grow 3 1 [z 0,z 4,z 4,z 4,z 4],.cells 3 [z 1,z 0]]⟩
theorem k0:FactOk Tryz.prog 16 A0:=factOk_ok (ex_ok iEn_ok mixed .nil 600) (by kernel_rfl)
noncomputable def A1:Fact:=⟨[.ag [z 1,z 10,z 1,.sl none 0 (some 0),.sl none 0 (some 0)]],[],z 0,[]⟩
theorem k1:FactOk Tryz.prog 42 A1:=factOk_ok (ex_ok iEn_ok mixed .nil 600) (by kernel_rfl)
noncomputable def A2:Fact:=⟨[.ag [.sl (some (0,0)) 5 none,z 4,z 4]],[.grow 3 1 [z 0,z 4,z 4,z 4,z 4]],.b true,[.grow 3 1 [z 0,z 4,z 4,z 4,z 4]]⟩
theorem k2:FactOk Tryz.prog 72 A2:=factOk_ok (ex_ok iEn_ok mixed .nil 600) (by kernel_rfl)
noncomputable def A3:Fact:=⟨[.ag [.sl (some (0,0)) 2 (some 2),.sl (some (1,0)) 2 (some 2),.sl (some (2,0)) 2 (some 2)]],[.cells 9 [.s ⟨#[97]⟩,.s ⟨#[98]⟩],O0,O1,.cells 3 [z 0,z 1],.grow 3 1 [z 0,z 4,z 4,z 4,z 4],.cells 3 [z 1,z 0]],z 0,[.cells 9 [.s ⟨#[97]⟩,.s ⟨#[98]⟩],O0,O1,.cells 3 [z 0,z 1],.grow 3 1 [z 0,z 4,z 4,z 4,z 4],.cells 3 [z 1,z 0]]⟩
theorem k3:FactOk Tryz.prog 22 A3:=factOk_ok (ex_ok iEn_ok mixed (.add k1 (.add k2 .nil)) 600) (by kernel_rfl)
noncomputable def O2:HO:=.cells 39 [.s ⟨#[102]⟩,.sl (some (4,0)) 2 (some 2),z 0,z 1,z 4,.sl (some (5,0)) 5 none,z 4,z 4,.s ⟨#[103]⟩,.sl (some (6,0)) 2 (some 2),z 0,z 1,z 4,.sl (some (5,0)) 5 none,z 4,z 4]
noncomputable def O3:HO:=.cells 22 [.sl (some (7,0)) 1 (some 1),.sl (some (8,0)) 1 (some 1)]
noncomputable def A4:Fact:=⟨[.ag [.sl (some (0,0)) 2 (some 2),.sl (some (1,0)) 2 (some 2),.sl (some (2,0)) 2 (some 2)],.sl (some (3,0)) 2 (some 2)],[.cells 9 [.s ⟨#[97]⟩,.s ⟨#[98]⟩],O0,O2,O3,.cells 3 [z 0,z 1],.grow 3 1 [z 0,z 4,z 4,z 4,z 4],.cells 3 [z 1,z 0],.cells 3 [z 0],.cells 3 [z 0]],.b true,[.cells 9 [.s ⟨#[97]⟩,.s ⟨#[98]⟩],O0,O2,O3,.cells 3 [z 0,z 1],.grow 3 1 [z 0,z 4,z 4,z 4,z 4],.cells 3 [z 1,z 0],.cells 3 [z 0],.cells 3 [z 0]]⟩
theorem k4:FactOk Tryz.prog 73 A4:=factOk_ok (ex_ok iEn_ok mixed (.add k3 .nil) 600) (by kernel_rfl)
noncomputable def A5:Fact:=⟨[.ag [.sl (some (0,0)) 2 (some 2),.sl (some (1,0)) 2 (some 2),.sl (some (2,0)) 2 (some 2)],z 0],[.cells 9 [.s ⟨#[97]⟩,.s ⟨#[98]⟩],O0,O1,.cells 3 [z 0,z 1],.grow 3 1 [z 0,z 4,z 4,z 4,z 4],.cells 3 [z 1,z 0]],.sl (some (6,0)) 2 none,[.cells 9 [.s ⟨#[97]⟩,.s ⟨#[98]⟩],O0,O1,.cells 3 [z 0,z 1],.grow 3 1 [z 0,z 4,z 4,z 4,z 4],.cells 3 [z 1,z 0],.grow 3 1 [z 0,z 1]]⟩
theorem k5:FactOk Tryz.prog 76 A5:=factOk_ok (ex_ok iEn_ok mixed .nil 600) (by kernel_rfl)
noncomputable def A6:Fact:=⟨[.ag [.sl (some (0,0)) 2 (some 2),.sl (some (1,0)) 2 (some 2),.sl (some (2,0)) 2 (some 2)],z 0,z 0],[.cells 9 [.s ⟨#[97]⟩,.s ⟨#[98]⟩],O0,O1,.cells 3 [z 0,z 1],.grow 3 1 [z 0,z 4,z 4,z 4,z 4],.cells 3 [z 1,z 0]],.sl (some (6,0)) 2 none,[.cells 9 [.s ⟨#[97]⟩,.s ⟨#[98]⟩],O0,O1,.cells 3 [z 0,z 1],.grow 3 1 [z 0,z 4,z 4,z 4,z 4],.cells 3 [z 1,z 0],.grow 3 1 [z 0,z 1]]⟩
theorem k6:FactOk Tryz.prog 50 A6:=factOk_ok (ex_ok iEn_ok mixed (.add k5 .nil) 600) (by kernel_rfl)
noncomputable def A7:Fact:=⟨[.f 185 [] [.p (some (0,0))],z 1,z 4,z 4],[.cells 37 [.sl (some (1,0)) 5 none,z 4,z 4],.grow 3 1 [z 0,z 4,z 4,z 4,z 4]],.tu [.ag [.sl (some (2,0)) 4 none,z 4,z 4],z 0],[.cells 37 [.sl (some (1,0)) 5 none,z 4,z 4],.grow 3 1 [z 0,z 4,z 4,z 4,z 4],.grow 3 1 [z 0,z 4,z 4,z 4]]⟩
theorem k7:FactOk Tryz.prog 144 A7:=factOk_ok (ex_ok iEn_ok mixed .nil 600) (by kernel_rfl)
noncomputable def A8:Fact:=⟨[.ag [.sl (some (0,0)) 5 none,z 4,z 4]],[.grow 3 1 [z 0,z 4,z 4,z 4,z 4]],.tu [.ag [.sl (some (1,0)) 4 none,z 4,z 4],z 0],[.grow 3 1 [z 0,z 4,z 4,z 4,z 4],.grow 3 1 [z 0,z 4,z 4,z 4]]⟩
theorem k8:FactOk Tryz.prog 141 A8:=factOk_ok (ex_ok iEn_ok mixed (.add k7 .nil) 600) (by kernel_rfl)
noncomputable def A9:Fact:=⟨[.f 214 [] [.p (some (0,0)),.p (some (1,0))],z 1,z 4,z 4],[.cells 37 [.sl (some (2,0)) 4 none,z 4,z 4],.cells 3 [z 0],.grow 3 1 [z 0,z 4,z 4,z 4]],.tu [.ag [.sl (some (3,0)) 4 none,z 4,z 4],z 0],[.cells 37 [.sl (some (2,0)) 4 none,z 4,z 4],.cells 3 [z 0],.grow 3 1 [z 0,z 4,z 4,z 4],.grow 3 1 [z 0,z 4,z 4,z 4]]⟩
theorem k9:FactOk Tryz.prog 144 A9:=factOk_ok (ex_ok iEn_ok mixed .nil 600) (by kernel_rfl)
noncomputable def A10:Fact:=⟨[.ag [.sl (some (0,0)) 5 none,z 4,z 4],z 0],[.grow 3 1 [z 0,z 4,z 4,z 4,z 4]],.tu [.ag [.sl (some (1,0)) 4 none,z 4,z 4],z 0],[.grow 3 1 [z 0,z 4,z 4,z 4,z 4],.grow 3 1 [z 0,z 4,z 4,z 4]]⟩
theorem k10:FactOk Tryz.prog 193 A10:=factOk_ok (ex_ok iEn_ok mixed (.add k8 (.add k9 .nil)) 600) (by kernel_rfl)
noncomputable def A11:Fact:=⟨[.ag [.sl (some (0,0)) 2 (some 2),.sl (some (1,0)) 2 (some 2),.sl (some (2,0)) 2 (some 2)],.sl (some (3,0)) 2 (some 2),z 0,z 0],[.cells 9 [.s ⟨#[97]⟩,.s ⟨#[98]⟩],O0,O2,O3,.cells 3 [z 0,z 1],.grow 3 1 [z 0,z 4,z 4,z 4,z 4],.cells 3 [z 1,z 0],.cells 3 [z 0],.cells 3 [z 0]],.tu [.ag [.sl (some (9,0)) 4 none,z 4,z 4],z 0],[.cells 9 [.s ⟨#[97]⟩,.s ⟨#[98]⟩],O0,O2,O3,.cells 3 [z 0,z 1],.grow 3 1 [z 0,z 4,z 4,z 4,z 4],.cells 3 [z 1,z 0],.cells 3 [z 0],.cells 3 [z 0],.grow 3 1 [z 0,z 4,z 4,z 4]]⟩
theorem k11:FactOk Tryz.prog 150 A11:=factOk_ok (ex_ok iEn_ok mixed (.add k4 (.add k10 .nil)) 600) (by kernel_rfl)
noncomputable def A12:Fact:=⟨[.f 185 [] [.p (some (0,0))],z 0,z 1,z 0],[.cells 37 [.sl (some (1,0)) 1 none,z 1,z 0],.grow 3 1 [z 0]],.tu [.ag [.sl (some (2,0)) 1 none,z 1,z 0],z 0],[.cells 37 [.sl (some (1,0)) 1 none,z 1,z 0],.grow 3 1 [z 0],.grow 3 1 [z 0]]⟩
theorem k12:FactOk Tryz.prog 144 A12:=factOk_ok (ex_ok iEn_ok mixed .nil 600) (by kernel_rfl)
noncomputable def A13:Fact:=⟨[.ag [.sl (some (0,0)) 1 (some 1),z 1,z 0]],[.cells 3 [z 0]],.tu [.ag [.sl (some (1,0)) 1 none,z 1,z 0],z 0],[.cells 3 [z 0],.grow 3 1 [z 0]]⟩
theorem k13:FactOk Tryz.prog 141 A13:=factOk_ok (ex_ok iEn_ok mixed (.add k12 .nil) 600) (by kernel_rfl)
noncomputable def A14:Fact:=⟨[.f 185 [] [.p (some (0,0))],z 0,z 4,z 4],[.cells 37 [.sl (some (1,0)) 4 none,z 4,z 4],.grow 3 1 [z 0,z 4,z 4,z 4]],.tu [.ag [.sl (some (2,0)) 4 none,z 4,z 4],z 0],[.cells 37 [.sl (some (1,0)) 4 none,z 4,z 4],.grow 3 1 [z 0,z 4,z 4,z 4],.grow 3 1 [z 0,z 4,z 4,z 4]]⟩
theorem k14:FactOk Tryz.prog 144 A14:=factOk_ok (ex_ok iEn_ok mixed .nil 600) (by kernel_rfl)
noncomputable def A15:Fact:=⟨[.ag [.sl (some (0,0)) 4 none,z 4,z 4]],[.grow 3 1 [z 0,z 4,z 4,z 4]],.tu [.ag [.sl (some (1,0)) 4 none,z 4,z 4],z 0],[.grow 3 1 [z 0,z 4,z 4,z 4],.grow 3 1 [z 0,z 4,z 4,z 4]]⟩
theorem k15:FactOk Tryz.prog 141 A15:=factOk_ok (ex_ok iEn_ok mixed (.add k14 .nil) 600) (by kernel_rfl)
noncomputable def A16:Fact:=⟨[.f 154 [] [.p (some (0,0)),.p (some (1,0))],z 0,z 4,z 4],[.cells 37 [.sl (some (2,0)) 1 none,z 1,z 0],.cells 37 [.sl (some (3,0)) 4 none,z 4,z 4],.grow 3 1 [z 0],.grow 3 1 [z 0,z 4,z 4,z 4]],.tu [.ag [.sl (some (4,0)) 4 none,z 4,z 4],z 0],[.cells 37 [.sl (some (2,0)) 1 none,z 1,z 0],.cells 37 [.sl (some (3,0)) 4 none,z 4,z 4],.grow 3 1 [z 0],.grow 3 1 [z 0,z 4,z 4,z 4],.grow 3 1 [z 0,z 4,z 4,z 4]]⟩
theorem k16:FactOk Tryz.prog 144 A16:=factOk_ok (ex_ok iEn_ok mixed .nil 600) (by kernel_rfl)
noncomputable def A17:Fact:=⟨[.ag [.sl (some (0,0)) 1 (some 1),z 1,z 0],.ag [.sl (some (1,0)) 4 none,z 4,z 4]],[.cells 3 [z 0],.grow 3 1 [z 0,z 4,z 4,z 4]],.tu [.ag [.sl (some (2,0)) 4 none,z 4,z 4],z 0],[.cells 3 [z 0],.grow 3 1 [z 0,z 4,z 4,z 4],.grow 3 1 [z 0,z 4,z 4,z 4]]⟩
theorem k17:FactOk Tryz.prog 120 A17:=factOk_ok (ex_ok iEn_ok mixed (.add k13 (.add k15 (.add k16 .nil))) 600) (by kernel_rfl)
noncomputable def A18:Fact:=⟨[.ag [.sl (some (0,0)) 2 (some 2),.sl (some (1,0)) 2 (some 2),.sl (some (2,0)) 2 (some 2)],.sl (some (3,0)) 2 (some 2),z 1,z 1],[.cells 9 [.s ⟨#[97]⟩,.s ⟨#[98]⟩],O0,O2,O3,.cells 3 [z 0,z 1],.grow 3 1 [z 0,z 4,z 4,z 4,z 4],.cells 3 [z 1,z 0],.cells 3 [z 0],.cells 3 [z 0]],.tu [.ag [.sl (some (9,0)) 4 none,z 4,z 4],z 0],[.cells 9 [.s ⟨#[97]⟩,.s ⟨#[98]⟩],O0,O2,O3,.cells 3 [z 0,z 1],.grow 3 1 [z 0,z 4,z 4,z 4,z 4],.cells 3 [z 1,z 0],.cells 3 [z 0],.cells 3 [z 0],.grow 3 1 [z 0,z 4,z 4,z 4]]⟩
theorem k18:FactOk Tryz.prog 150 A18:=factOk_ok (ex_ok iEn_ok mixed (.add k4 (.add k10 .nil)) 600) (by kernel_rfl)
noncomputable def A19:Fact:=⟨[.f 154 [] [.p (some (0,0)),.p (some (1,0))],z 0,z 4,z 8],[.cells 37 [.sl (some (2,0)) 4 none,z 4,z 4],.cells 37 [.sl (some (3,0)) 4 none,z 4,z 4],.grow 3 1 [z 0,z 4,z 4,z 4],.grow 3 1 [z 0,z 4,z 4,z 4]],.tu [.ag [.sl (some (4,0)) 4 none,z 4,z 8],z 0],[.cells 37 [.sl (some (2,0)) 4 none,z 4,z 4],.cells 37 [.sl (some (3,0)) 4 none,z 4,z 4],.grow 3 1 [z 0,z 4,z 4,z 4],.grow 3 1 [z 0,z 4,z 4,z 4],.grow 3 1 [z 0,z 8,z 8,z 8]]⟩
theorem k19:FactOk Tryz.prog 144 A19:=factOk_ok (ex_ok iEn_ok mixed .nil 600) (by kernel_rfl)
noncomputable def A20:Fact:=⟨[.ag [.sl (some (0,0)) 4 none,z 4,z 4],.ag [.sl (some (1,0)) 4 none,z 4,z 4]],[.grow 3 1 [z 0,z 4,z 4,z 4],.grow 3 1 [z 0,z 4,z 4,z 4]],.tu [.ag [.sl (some (2,0)) 4 none,z 4,z 8],z 0],[.grow 3 1 [z 0,z 4,z 4,z 4],.grow 3 1 [z 0,z 4,z 4,z 4],.grow 3 1 [z 0,z 8,z 8,z 8]]⟩
theorem k20:FactOk Tryz.prog 120 A20:=factOk_ok (ex_ok iEn_ok mixed (.add k15 (.add k19 .nil)) 600) (by kernel_rfl)
noncomputable def A21:Fact:=⟨[.f 218 [] [.p (some (0,0))],z 1,z 1,z 0],[.cells 3 [z 0]],.tu [.ag [.sl (some (1,0)) 1 none,z 1,z 0],z 0],[.cells 3 [z 0],.grow 3 1 [z 0]]⟩
theorem k21:FactOk Tryz.prog 144 A21:=factOk_ok (ex_ok iEn_ok mixed .nil 600) (by kernel_rfl)
noncomputable def A22:Fact:=⟨[.ag [.sl (some (0,0)) 1 none,z 1,z 0]],[.grow 3 1 [z 0]],.tu [.ag [.sl (some (1,0)) 1 none,z 1,z 0],z 0],[.grow 3 1 [z 0],.grow 3 1 [z 0]]⟩
theorem k22:FactOk Tryz.prog 141 A22:=factOk_ok (ex_ok iEn_ok mixed (.add k12 .nil) 600) (by kernel_rfl)
noncomputable def A23:Fact:=⟨[.f 185 [] [.p (some (0,0))],z 0,z 4,z 8],[.cells 37 [.sl (some (1,0)) 4 none,z 4,z 8],.grow 3 1 [z 0,z 8,z 8,z 8]],.tu [.ag [.sl (some (2,0)) 4 none,z 4,z 8],z 0],[.cells 37 [.sl (some (1,0)) 4 none,z 4,z 8],.grow 3 1 [z 0,z 8,z 8,z 8],.grow 3 1 [z 0,z 8,z 8,z 8]]⟩
theorem k23:FactOk Tryz.prog 144 A23:=factOk_ok (ex_ok iEn_ok mixed .nil 600) (by kernel_rfl)
noncomputable def A24:Fact:=⟨[.ag [.sl (some (0,0)) 4 none,z 4,z 8]],[.grow 3 1 [z 0,z 8,z 8,z 8]],.tu [.ag [.sl (some (1,0)) 4 none,z 4,z 8],z 0],[.grow 3 1 [z 0,z 8,z 8,z 8],.grow 3 1 [z 0,z 8,z 8,z 8]]⟩
theorem k24:FactOk Tryz.prog 141 A24:=factOk_ok (ex_ok iEn_ok mixed (.add k23 .nil) 600) (by kernel_rfl)
noncomputable def A25:Fact:=⟨[.f 154 [] [.p (some (0,0)),.p (some (1,0))],z 0,z 4,z 8],[.cells 37 [.sl (some (2,0)) 1 none,z 1,z 0],.cells 37 [.sl (some (3,0)) 4 none,z 4,z 8],.grow 3 1 [z 0],.grow 3 1 [z 0,z 8,z 8,z 8]],.tu [.ag [.sl (some (4,0)) 4 none,z 4,z 8],z 0],[.cells 37 [.sl (some (2,0)) 1 none,z 1,z 0],.cells 37 [.sl (some (3,0)) 4 none,z 4,z 8],.grow 3 1 [z 0],.grow 3 1 [z 0,z 8,z 8,z 8],.grow 3 1 [z 0,z 8,z 8,z 8]]⟩
theorem k25:FactOk Tryz.prog 144 A25:=factOk_ok (ex_ok iEn_ok mixed .nil 600) (by kernel_rfl)
noncomputable def A26:Fact:=⟨[.ag [.sl (some (0,0)) 1 none,z 1,z 0],.ag [.sl (some (1,0)) 4 none,z 4,z 8]],[.grow 3 1 [z 0],.grow 3 1 [z 0,z 8,z 8,z 8]],.tu [.ag [.sl (some (2,0)) 4 none,z 4,z 8],z 0],[.grow 3 1 [z 0],.grow 3 1 [z 0,z 8,z 8,z 8],.grow 3 1 [z 0,z 8,z 8,z 8]]⟩
theorem k26:FactOk Tryz.prog 120 A26:=factOk_ok (ex_ok iEn_ok mixed (.add k22 (.add k24 (.add k25 .nil))) 600) (by kernel_rfl)
noncomputable def A27:Fact:=⟨[.f 185 [] [.p (some (0,0))],z 0,z 1,z 10],[.cells 37 [.sl (some (1,0)) 1 none,z 1,z 10],.grow 3 1 [z 0]],.tu [.ag [.sl (some (2,0)) 1 none,z 1,z 10],z 0],[.cells 37 [.sl (some (1,0)) 1 none,z 1,z 10],.grow 3 1 [z 0],.grow 3 1 [z 0]]⟩
theorem k27:FactOk Tryz.prog 144 A27:=factOk_ok (ex_ok iEn_ok mixed .nil 600) (by kernel_rfl)
noncomputable def A28:Fact:=⟨[.ag [.sl (some (0,0)) 1 (some 1),z 1,z 10]],[.cells 3 [z 0]],.tu [.ag [.sl (some (1,0)) 1 none,z 1,z 10],z 0],[.cells 3 [z 0],.grow 3 1 [z 0]]⟩
theorem k28:FactOk Tryz.prog 141 A28:=factOk_ok (ex_ok iEn_ok mixed (.add k27 .nil) 600) (by kernel_rfl)
noncomputable def A29:Fact:=⟨[.ag [.sl (some (0,0)) 4 none,z 4,z 8],.ag [.sl (some (1,0)) 1 (some 1),z 1,z 10]],[.grow 3 1 [z 0,z 8,z 8,z 8],.cells 3 [z 0]],.tu [.ag [.b false,z 0,z 0],z 0],[.grow 3 1 [z 0,z 8,z 8,z 8],.cells 3 [z 0]]⟩
theorem k29:FactOk Tryz.prog 110 A29:=factOk_ok (ex_ok iEn_ok mixed (.add k24 (.add k28 .nil)) 600) (by kernel_rfl)
noncomputable def A30:Fact:=⟨[.ag [z 1,z 10,z 1,.sl none 0 (some 0),.sl none 0 (some 0)],z 0,.sl (some (0,0)) 1 (some 1),.sl (some (1,0)) 1 (some 1)],[.cells 37 [.sl (some (2,0)) 4 none,z 4,z 8],.cells 35 [z 1,z 4],.grow 3 1 [z 0,z 8,z 8,z 8]],.tu [.ag [.b false,z 0,z 0],z 0],[.cells 37 [.sl (some (2,0)) 4 none,z 4,z 8],.cells 35 [z 1,z 4],.grow 3 1 [z 0,z 8,z 8,z 8]]⟩
theorem k30:FactOk Tryz.prog 88 A30:=factOk_ok (ex_ok iEn_ok mixed (.add k1 (.add k21 (.add k26 (.add k29 .nil)))) 600) (by kernel_rfl)
noncomputable def A31:Fact:=⟨[.ag [.sl (some (0,0)) 2 (some 2),.sl (some (1,0)) 2 (some 2),.sl (some (2,0)) 2 (some 2)],z 1],[.cells 9 [.s ⟨#[97]⟩,.s ⟨#[98]⟩],O0,O1,.cells 3 [z 0,z 1],.grow 3 1 [z 0,z 4,z 4,z 4,z 4],.cells 3 [z 1,z 0]],.sl (some (6,0)) 2 none,[.cells 9 [.s ⟨#[97]⟩,.s ⟨#[98]⟩],O0,O1,.cells 3 [z 0,z 1],.grow 3 1 [z 0,z 4,z 4,z 4,z 4],.cells 3 [z 1,z 0],.grow 3 1 [z 0,z 1]]⟩
theorem k31:FactOk Tryz.prog 76 A31:=factOk_ok (ex_ok iEn_ok mixed .nil 600) (by kernel_rfl)
noncomputable def A32:Fact:=⟨[.ag [.sl (some (0,0)) 2 (some 2),.sl (some (1,0)) 2 (some 2),.sl (some (2,0)) 2 (some 2)],z 1,z 0],[.cells 9 [.s ⟨#[97]⟩,.s ⟨#[98]⟩],O0,O1,.cells 3 [z 0,z 1],.grow 3 1 [z 0,z 4,z 4,z 4,z 4],.cells 3 [z 1,z 0]],.sl (some (6,0)) 2 none,[.cells 9 [.s ⟨#[97]⟩,.s ⟨#[98]⟩],O0,O1,.cells 3 [z 0,z 1],.grow 3 1 [z 0,z 4,z 4,z 4,z 4],.cells 3 [z 1,z 0],.grow 3 1 [z 0,z 1]]⟩
theorem k32:FactOk Tryz.prog 50 A32:=factOk_ok (ex_ok iEn_ok mixed (.add k31 .nil) 600) (by kernel_rfl)
noncomputable def A33:Fact:=⟨[.ag [.sl (some (0,0)) 2 (some 2),.sl (some (1,0)) 2 (some 2),.sl (some (2,0)) 2 (some 2)],.sl (some (3,0)) 2 (some 2),z 0,z 1],[.cells 9 [.s ⟨#[97]⟩,.s ⟨#[98]⟩],O0,O2,O3,.cells 3 [z 0,z 1],.grow 3 1 [z 0,z 4,z 4,z 4,z 4],.cells 3 [z 1,z 0],.cells 3 [z 0],.cells 3 [z 0]],.tu [.ag [.sl (some (9,0)) 4 none,z 4,z 4],z 0],[.cells 9 [.s ⟨#[97]⟩,.s ⟨#[98]⟩],O0,O2,O3,.cells 3 [z 0,z 1],.grow 3 1 [z 0,z 4,z 4,z 4,z 4],.cells 3 [z 1,z 0],.cells 3 [z 0],.cells 3 [z 0],.grow 3 1 [z 0,z 4,z 4,z 4]]⟩
theorem k33:FactOk Tryz.prog 150 A33:=factOk_ok (ex_ok iEn_ok mixed (.add k4 (.add k10 .nil)) 600) (by kernel_rfl)
noncomputable def A34:Fact:=⟨[.ag [.sl (some (0,0)) 2 (some 2),.sl (some (1,0)) 2 (some 2),.sl (some (2,0)) 2 (some 2)],.sl (some (3,0)) 2 (some 2),z 1,z 0],[.cells 9 [.s ⟨#[97]⟩,.s ⟨#[98]⟩],O0,O2,O3,.cells 3 [z 0,z 1],.grow 3 1 [z 0,z 4,z 4,z 4,z 4],.cells 3 [z 1,z 0],.cells 3 [z 0],.cells 3 [z 0]],.tu [.ag [.sl (some (9,0)) 4 none,z 4,z 4],z 0],[.cells 9 [.s ⟨#[97]⟩,.s ⟨#[98]⟩],O0,O2,O3,.cells 3 [z 0,z 1],.grow 3 1 [z 0,z 4,z 4,z 4,z 4],.cells 3 [z 1,z 0],.cells 3 [z 0],.cells 3 [z 0],.grow 3 1 [z 0,z 4,z 4,z 4]]⟩
theorem k34:FactOk Tryz.prog 150 A34:=factOk_ok (ex_ok iEn_ok mixed (.add k4 (.add k10 .nil)) 600) (by kernel_rfl)
noncomputable def O4:HO:=.cells 22 [.sl (some (10,0)) 1 (some 1),.sl (some (11,0)) 1 (some 1)]
noncomputable def A35:Fact:=⟨[.ag [.sl (some (0,0)) 2 (some 2),.sl (some (1,0)) 2 (some 2),.sl (some (2,0)) 2 (some 2)],.sl (some (3,0)) 2 (some 2)],[.cells 9 [.s ⟨#[97]⟩,.s ⟨#[98]⟩],O0,O2,O3,.cells 3 [z 0,z 1],.grow 3 1 [z 0,z 4,z 4,z 4,z 4],.cells 3 [z 1,z 0],.cells 3 [z 0],.cells 3 [z 0]],.tu [.sl (some (9,0)) 2 (some 2),z 0],[.cells 9 [.s ⟨#[97]⟩,.s ⟨#[98]⟩],O0,O2,O3,.cells 3 [z 0,z 1],.grow 3 1 [z 0,z 4,z 4,z 4,z 4],.cells 3 [z 1,z 0],.cells 3 [z 0],.cells 3 [z 0],O4,.cells 3 [z 0],.cells 3 [z 0]]⟩
theorem k35:FactOk Tryz.prog 48 A35:=factOk_ok (ex_ok iEn_ok mixed (.add k4 (.add k6 (.add k11 (.add k17 (.add k18 (.add k20 (.add k3 (.add k30 (.add k32 (.add k33 (.add k34 .nil))))))))))) 600) (by kernel_rfl)
noncomputable def A36:Fact:=⟨[.ag [.sl (some (0,0)) 2 (some 2),.sl (some (1,0)) 2 (some 2),.sl (some (2,0)) 2 (some 2)],z 60],[.cells 9 [.s ⟨#[97]⟩,.s ⟨#[98]⟩],O0,O1,.cells 3 [z 0,z 1],.grow 3 1 [z 0,z 4,z 4,z 4,z 4],.cells 3 [z 1,z 0]],.tu [.sl (some (6,0)) 2 (some 2),z 1,z 0],[.cells 9 [.s ⟨#[97]⟩,.s ⟨#[98]⟩],O0,O1,.cells 3 [z 0,z 1],.grow 3 1 [z 0,z 4,z 4,z 4,z 4],.cells 3 [z 1,z 0],O3,.cells 3 [z 0],.cells 3 [z 0]]⟩
theorem k36:FactOk Tryz.prog 8 A36:=factOk_ok (ex_ok iEn_ok mixed (.add k3 (.add k35 (.add k6 (.add k32 .nil)))) 600) (by kernel_rfl)
noncomputable def A37:Fact:=⟨[.ag [.sl (some (0,0)) 2 (some 2),.sl (some (1,0)) 2 (some 2),.sl (some (2,0)) 2 (some 2)],.sl (some (3,0)) 2 (some 2)],[.cells 9 [.s ⟨#[97]⟩,.s ⟨#[98]⟩],O0,O2,O3,.cells 3 [z 0,z 1],.grow 3 1 [z 0,z 4,z 4,z 4,z 4],.cells 3 [z 1,z 0],.cells 3 [z 0],.cells 3 [z 0]],.tu [.sl (some (9,0)) 2 (some 2),.b true],[.cells 9 [.s ⟨#[97]⟩,.s ⟨#[98]⟩],O0,O2,O3,.cells 3 [z 0,z 1],.grow 3 1 [z 0,z 4,z 4,z 4,z 4],.cells 3 [z 1,z 0],.cells 3 [z 0],.cells 3 [z 0],O4,.cells 3 [z 0],.cells 3 [z 0]]⟩
theorem k37:FactOk Tryz.prog 67 A37:=factOk_ok (ex_ok iEn_ok mixed (.add k4 (.add k6 (.add k32 (.add k35 .nil)))) 600) (by kernel_rfl)
noncomputable def A38:Fact:=⟨[.ag [.sl (some (0,0)) 1 none,z 1,z 10,.sl (some (1,0)) 4 none,z 4,z 4,z 0],z 1,z 4],[.grow 3 1 [z 0],.grow 3 1 [z 0,z 4,z 4,z 4]],z 6,[.grow 3 1 [z 0],.grow 3 1 [z 0,z 4,z 4,z 4]]⟩
theorem k38:FactOk Tryz.prog 210 A38:=factOk_ok (ex_ok iEn_ok mixed .nil 600) (by kernel_rfl)
noncomputable def A39:Fact:=⟨[.ag [.sl (some (0,0)) 1 none,z 1,z 10,.sl (some (1,0)) 4 none,z 4,z 4,z 0],z 400,z 4],[.grow 3 1 [z 0],.grow 3 1 [z 0,z 4,z 4,z 4]],z 3600,[.grow 3 1 [z 0],.grow 3 1 [z 0,z 4,z 4,z 4]]⟩
theorem k39:FactOk Tryz.prog 210 A39:=factOk_ok (ex_ok iEn_ok mixed .nil 600) (by kernel_rfl)
noncomputable def A40:Fact:=⟨[.ag [.sl (some (0,0)) 1 none,z 1,z 10,.sl (some (1,0)) 4 none,z 4,z 4,z 0],z 404,z 4],[.grow 3 1 [z 0],.grow 3 1 [z 0,z 4,z 4,z 4]],z 3636,[.grow 3 1 [z 0],.grow 3 1 [z 0,z 4,z 4,z 4]]⟩
theorem k40:FactOk Tryz.prog 210 A40:=factOk_ok (ex_ok iEn_ok mixed .nil 600) (by kernel_rfl)
noncomputable def L0:List V:=zs [0,6,16,26,36,42,52,62,72,78,88,98,108,114,124,134,144,150,160,170,180,186,196,206,216,222,232,242,252,258,268,278,288,294,304,314,324,330,340,350,360,366,376,386,396,402,412,422,432,438,448,458,468,474,484,494,504,510,520,530,540,546,556,566,576,582,592,602,612,618,628,638,648,654,664,674,684,690,700,710,720,726,736,746,756,762,772,782,792,798,808,818,828,834,844,854,864,870,880,890,900,906,916,926,936,942,952,962,972,978,988,998,1008,1014,1024,1034,1044,1050,1060,1070,1080,1086,1096,1106,1116,1122,1132,1142,1152,1158,1168,1178,1188,1194,1204,1214,1224,1230,1240,1250,1260,1266,1276,1286,1296,1302,1312,1322,1332,1338,1348,1358,1368,1374,1384,1394,1404,1410,1420,1430,1440,1446,1456,1466,1476,1482,1492,1502,1512,1518,1528,1538,1548,1554,1564,1574,1584,1590,1600,1610,1620,1626,1636,1646,1656,1662,1672,1682,1692,1698,1708,1718,1728,1734,1744,1754,1764,1770,1780,1790,1800,1806,1816,1826,1836,1842,1852,1862,1872,1878,1888,1898,1908,1914,1924,1934,1944,1950,1960,1970,1980,1986,1996,2006,2016,2022,2032,2042,2052,2058,2068,2078,2088,2094,2104,2114,2124,2130,2140,2150,2160,2166,2176,2186,2196,2202,2212,2222,2232,2238,2248,2258,2268,2274,2284,2294,2304,2310,2320,2330,2340,2346,2356,2366,2376,2382,2392,2402,2412,2418,2428,2438,2448,2454,2464,2474,2484,2490,2500,2510,2520,2526,2536,2546,2556,2562,2572,2582,2592,2598,2608,2618,2628,2634,2644,2654,2664,2670,2680,2690,2700,2706,2716,2726,2736,2742,2752,2762,2772,2778,2788,2798,2808,2814,2824,2834,2844,2850,2860,2870,2880,2886,2896,2906,2916,2922,2932,2942,2952,2958,2968,2978,2988,2994,3004,3014,3024,3030,3040,3050,3060,3066,3076,3086,3096,3102,3112,3122,3132,3138,3148,3158,3168,3174,3184,3194,3204,3210,3220,3230,3240,3246,3256,3266,3276,3282,3292,3302,3312,3318,3328,3338,3348,3354,3364,3374,3384,3390,3400,3410,3420,3426,3436,3446,3456,3462,3472,3482,3492,3498,3508,3518,3528,3534,3544,3554,3564,3570,3580,3590,3600,3606,3616,3626]
noncomputable def A41:Fact:=⟨[.f 212 [] [.p (some (0,0))],z 400,z 4,z 36],[.cells 22 [.sl (some (1,0)) 404 (some 404)],.cells 3 L0],.tu [.ag [.sl (some (2,0)) 4 none,z 4,z 36],z 0],[.cells 22 [.sl (some (1,0)) 404 (some 404)],.cells 3 L0,.grow 3 1 [z 0,z 6,z 16,z 26]]⟩
noncomputable def B41:Code:=(fiOf Tryz.f144).body
noncomputable def S0:St:=⟨(.node (some (.f 212 [] [.p (some (0,0))])) (.node (some (z 400)) (.node (some (z 36)) (.node (some (.tu [])) (.node (some (.tu [])) (.node (some (.tu [])) (.node (some (.tu [])) .nil .nil) .nil) (.node (some (.tu [])) (.node (some (.tu [])) .nil .nil) .nil)) (.node (some (.tu [])) (.node (some (.tu [])) (.node (some (.tu [])) .nil .nil) .nil) (.node (some (.tu [])) (.node (some (.tu [])) .nil .nil) .nil))) (.node (some (.tu [])) (.node (some (.tu [])) (.node (some (.tu [])) (.node (some (.tu [])) .nil .nil) .nil) (.node (some (.tu [])) (.node (some (.tu [])) .nil .nil) .nil)) (.node (some (.tu [])) (.node (some (.tu [])) (.node (some (.tu [])) .nil .nil) .nil) (.node (some (.tu [])) .nil .nil)))) (.node (some (.tu [])) (.node (some (.tu [])) (.node (some (.tu [])) (.node (some (.tu [])) (.node (some (.tu [])) .nil .nil) .nil) (.node (some (.tu [])) (.node (some (.tu [])) .nil .nil) .nil)) (.node (some (.tu [])) (.node (some (.tu [])) (.node (some (.tu [])) .nil .nil) .nil) (.node (some (.tu [])) (.node (some (.tu [])) .nil .nil) .nil))) (.node (some (.tu [])) (.node (some (.tu [])) (.node (some (.tu [])) (.node (some (.tu [])) .nil .nil) .nil) (.node (some (.tu [])) (.node (some (.tu [])) .nil .nil) .nil)) (.node (some (.tu [])) (.node (some (.tu [])) (.node (some (.tu [])) .nil .nil) .nil) (.node (some (.tu [])) .nil .nil))))) (.node (some (z 4)) (.node (some (.tu [])) (.node (some (.tu [])) (.node (some (.tu [])) (.node (some (.tu [])) (.node (some (.tu [])) .nil .nil) .nil) (.node (some (.tu [])) (.node (some (.tu [])) .nil .nil) .nil)) (.node (some (.tu [])) (.node (some (.tu [])) (.node (some (.tu [])) .nil .nil) .nil) (.node (some (.tu [])) (.node (some (.tu [])) .nil .nil) .nil))) (.node (some (.tu [])) (.node (some (.tu [])) (.node (some (.tu [])) (.node (some (.tu [])) .nil .nil) .nil) (.node (some (.tu [])) (.node (some (.tu [])) .nil .nil) .nil)) (.node (some (.tu [])) (.node (some (.tu [])) (.node (some (.tu [])) .nil .nil) .nil) (.node (some (.tu [])) .nil .nil)))) (.node (some (.tu [])) (.node (some (.tu [])) (.node (some (.tu [])) (.node (some (.tu [])) (.node (some (.tu [])) .nil .nil) .nil) (.node (some (.tu [])) (.node (some (.tu [])) .nil .nil) .nil)) (.node (some (.tu [])) (.node (some (.tu [])) (.node (some (.tu [])) .nil .nil) .nil) (.node (some (.tu [])) .nil .nil))) (.node (some (.tu [])) (.node (some (.tu [])) (.node (some (.tu [])) (.node (some (.tu [])) .nil .nil) .nil) (.node (some (.tu [])) (.node (some (.tu [])) .nil .nil) .nil)) (.node (some (.tu [])) (.node (some (.tu [])) (.node (some (.tu [])) .nil .nil) .nil) (.node (some (.tu [])) .nil .nil)))))),[],(.node (some (.cells 22 [.sl (some (1,0)) 404 (some 404)])) (.node (some (.cells 3 L0)) .nil .nil) .nil),2⟩
noncomputable def S1:St:=⟨updT [(8,some (.p (some (2,0)))),(9,some (z 0))] S0.tm,[],updT [(2,some (.cells 37 [.sl none 0 (some 0),z 0,z 0]))] S0.h,3⟩
theorem c0:CodeS Tryz.prog (subC [true] B41) none S0 .nrm S1:=.runB (ex_ok iEn_ok mixed .nil 600) (by kernel_rfl)
noncomputable def S2:St:=⟨updT [(10,some (.sl (some (3,0)) 404 (some 404))),(14,some (z 400)),(15,some (z 4)),(16,some (z 404)),(17,some (.sl (some (3,0)) 404 (some 404)))] S1.tm,[],updT [(3,some (.cells 3 (repX 404 [z 0])))] S1.h,4⟩
theorem c1:CodeS Tryz.prog (subC [false,true] B41) none S1 .nrm S2:=.runB (ex_ok iEn_ok mixed .nil 600) (by kernel_rfl)
noncomputable def S3:St:=⟨updT [(18,some (.sl (some (3,0)) 404 (some 404))),(19,some (z 404)),(20,some (z 0))] S2.tm,[],S2.h,4⟩
theorem c2:CodeS Tryz.prog (subC [false,false,true,true] B41) none S2 .nrm S3:=.runB (ex_ok iEn_ok mixed .nil 600) (by kernel_rfl)
noncomputable def L1:List V:=zs [0,6,16,26,36,42,52,62,72,78,88,98,108,114,124,134,144,150,160,170,180,186,196,206,216,222,232,242,252,258,268,278,288,294,304,314,324,330,340,350,360,366,376,386,396,402,412,422,432,438,448,458,468,474,484,494,504,510,520,530,540,546,556,566,576,582,592,602,612,618,628,638,648,654,664,674,684,690,700,710,720,726,736,746,756,762,772,782,792,798,808,818,828,834,844,854,864,870,880,890,900,906,916,926,936,942,952,962,972,978,988,998,1008,1014,1024,1034,1044,1050,1060,1070,1080,1086,1096,1106,1116,1122,1132,1142,1152,1158,1168,1178,1188,1194,1204,1214,1224,1230,1240,1250,1260,1266,1276,1286,1296,1302,1312,1322,1332,1338,1348,1358,1368,1374,1384,1394,1404,1410,1420,1430,1440,1446,1456,1466,1476,1482,1492,1502,1512,1518,1528,1538,1548,1554,1564,1574,1584,1590,1600,1610,1620,1626,1636,1646,1656,1662,1672,1682,1692,1698,1708,1718,1728,1734,1744,1754,1764,1770,1780,1790,1800,1806,1816,1826,1836,1842,1852,1862,1872,1878,1888,1898,1908,1914,1924,1934,1944,1950,1960,1970,1980,1986,1996,2006,2016,2022,2032,2042,2052,2058,2068,2078,2088,2094,2104,2114,2124,2130,2140,2150,2160,2166,2176,2186,2196,2202,2212,2222,2232,2238,2248,2258,2268,2274,2284,2294,2304,2310,2320,2330,2340,2346,2356,2366,2376,2382,2392,2402,2412,2418,2428,2438,2448,2454,2464,2474,2484,2490,2500,2510,2520,2526,2536,2546,2556,2562,2572,2582,2592,2598,2608,2618,2628,2634,2644,2654,2664,2670,2680,2690,2700,2706,2716,2726,2736]
noncomputable def S4:St:=⟨updT [(11,some (z 304)),(20,some (z 305)),(21,some (.b true)),(22,some (z 304)),(23,some (.sl (some (3,0)) 404 (some 404))),(24,some (z 304)),(25,some (.f 212 [] [.p (some (0,0))])),(26,some (z 304)),(27,some (z 2736)),(28,some (.p (some (3,304)))),(29,some (.sl (some (3,0)) 404 (some 404))),(30,some (z 304)),(31,some (.p (some (3,304)))),(32,some (z 2736)),(33,some (.b false)),(41,some (z 305))] S3.tm,[],updT [(3,some (.cells 3 (appX L1 (repX 99 [z 0]))))] S3.h,4⟩
noncomputable def S5:St:=⟨updT [(11,some (z 403)),(20,some (z 404)),(21,some (.b false)),(22,some (z 403)),(24,some (z 403)),(26,some (z 403)),(27,some (z 3626)),(28,some (.p (some (3,403)))),(30,some (z 403)),(31,some (.p (some (3,403)))),(32,some (z 3626)),(41,some (z 404))] S4.tm,[],updT [(3,some (.cells 3 L0))] S4.h,4⟩
theorem c3:∃ k,Rds Tryz.prog (subC [false,false,true,false,true,true] B41) none k S4 (.exit 0) S5:=CodeS.lastB (j:=101) (ex_ok iEn_ok mixed .nil 600) (by kernel_rfl)
theorem c4:∃ k,Rds Tryz.prog (subC [false,false,true,false,true,true] B41) none k S3 (.exit 0) S5:=CodeS.roundsB (j:=304) (s1:=S4) (ex_ok iEn_ok mixed .nil 600) (by kernel_rfl) c3
theorem c5:CodeS Tryz.prog (subC [false,false,true,false,true] B41) none S3 (.exit 0) S5:=.loopE (x:=(subC [false,false,true,false,true,true] B41)) (by kernel_rfl) c4
theorem c6:CodeS Tryz.prog (subC [false,false,true,false] B41) none S3 .nrm S5:=.blockE (x:=(subC [false,false,true,false,true] B41)) (id:=0) (e1:=(.exit 0)) (s1:=S5) iEn_ok mixed (by kernel_rfl) c5 (by kernel_rfl)
theorem c7:CodeS Tryz.prog (subC [false,false,true] B41) none S2 .nrm S5:=.seqE (x:=(subC [false,false,true,true] B41)) (y:=(subC [false,false,true,false] B41)) (by kernel_rfl) c2 c6
noncomputable def S6:St:=⟨updT [(12,some (z 4)),(42,some (.sl (some (3,0)) 404 (some 404))),(43,some (z 400)),(44,some (.sl (some (3,400)) 4 (some 4))),(45,some (z 36)),(46,some (z 4))] S5.tm,[],S5.h,4⟩
theorem c8:CodeS Tryz.prog (subC [false,false,false,true] B41) none S5 .nrm S6:=.runB (ex_ok iEn_ok mixed .nil 600) (by kernel_rfl)
noncomputable def S7:St:=⟨updT [(13,some (z 36)),(47,some (z 36)),(48,some (z 4)),(49,some (z 144)),(50,some (z 4)),(51,some (z 36))] S6.tm,[],S6.h,4⟩
theorem c9:CodeS Tryz.prog (subC [false,false,false,false,true] B41) none S6 .nrm S7:=.runB (ex_ok iEn_ok mixed .nil 600) (by kernel_rfl)
noncomputable def S8:St:=⟨updT [(1,some (z 81)),(52,some (z 82)),(53,some (.b true)),(54,some (.b true)),(55,some (.sl (some (3,0)) 404 (some 404))),(56,some (z 82)),(57,some (z 81)),(58,some (.p (some (3,81)))),(59,some (z 726)),(60,some (z 36)),(61,some (z 762)),(62,some (.sl (some (3,0)) 404 (some 404))),(63,some (z 82)),(64,some (z 81)),(65,some (z 4)),(66,some (z 85)),(67,some (.p (some (3,85)))),(68,some (z 762)),(69,some (.b true)),(70,some (.b true)),(71,some (z 82)),(72,some (z 81))] S7.tm,[],S7.h,4⟩
noncomputable def S9:St:=⟨updT [(1,some (z 0)),(52,some (z 0)),(53,some (.b false)),(54,some (.b false)),(55,some (.tu [])),(56,some (.tu [])),(57,some (.tu [])),(58,some (.tu [])),(59,some (.tu [])),(60,some (.tu [])),(61,some (.tu [])),(62,some (.tu [])),(63,some (.tu [])),(64,some (.tu [])),(65,some (.tu [])),(66,some (.tu [])),(67,some (.tu [])),(68,some (.tu [])),(69,some (.tu [])),(70,some (.b false)),(71,some (z 1)),(72,some (z 0))] S8.tm,[],S8.h,4⟩
theorem c10:∃ k,Rds Tryz.prog (subC [false,false,false,false,false,true,true,true] B41) none k S8 (.exit 2) S9:=CodeS.lastB (j:=83) (ex_ok iEn_ok mixed .nil 600) (by kernel_rfl)
theorem c11:∃ k,Rds Tryz.prog (subC [false,false,false,false,false,true,true,true] B41) none k S7 (.exit 2) S9:=CodeS.roundsB (j:=318) (s1:=S8) (ex_ok iEn_ok mixed .nil 600) (by kernel_rfl) c10
end Go.Proofs.YtehaepbflkncdaaGreat.I
namespace Go.Proofs.YtehaepbflkncdaaGreat.I
open Go Go.RowKit Go.Proofs.YtehaepbflkncdaaGreat.K
set_option maxRecDepth 1000000
theorem c12:CodeS Tryz.prog (subC [false,false,false,false,false,true,true] B41) none S7 (.exit 2) S9:=.loopE (x:=(subC [false,false,false,false,false,true,true,true] B41)) (by kernel_rfl) c11
theorem c13:CodeS Tryz.prog (subC [false,false,false,false,false,true] B41) none S7 .nrm S9:=.blockE (x:=(subC [false,false,false,false,false,true,true] B41)) (id:=2) (e1:=(.exit 2)) (s1:=S9) iEn_ok mixed (by kernel_rfl) c12 (by kernel_rfl)
noncomputable def S10:St:=⟨updT [(73,some (z 4)),(74,some (.b false)),(75,some (.b false)),(76,some (z 36)),(77,some (.b false)),(78,some (.b false)),(80,some (.sl (some (3,0)) 404 (some 404))),(81,some (z 0)),(82,some (z 4)),(83,some (z 4)),(84,some (.sl (some (3,0)) 4 (some 404))),(85,some (z 4)),(86,some (z 36)),(87,some (.tu [.ag [.sl (some (5,0)) 4 none,z 4,z 36],z 0])),(88,some (.ag [.sl (some (5,0)) 4 none,z 4,z 36])),(89,some (z 0))] S9.tm,[],updT [(2,some (.cells 37 [.sl (some (5,0)) 4 none,z 4,z 36])),(5,some (.grow 3 1 [z 0,z 6,z 16,z 26]))] S9.h,6⟩
theorem c14:CodeS Tryz.prog (subC [false,false,false,false,false,false] B41) none S9 .ret S10:=.runB (ex_ok iEn_ok mixed .nil 600) (by kernel_rfl)
theorem c15:CodeS Tryz.prog (subC [false,false,false,false,false] B41) none S7 .ret S10:=.seqE (x:=(subC [false,false,false,false,false,true] B41)) (y:=(subC [false,false,false,false,false,false] B41)) (by kernel_rfl) c13 c14
theorem c16:CodeS Tryz.prog (subC [false,false,false,false] B41) none S6 .ret S10:=.seqE (x:=(subC [false,false,false,false,true] B41)) (y:=(subC [false,false,false,false,false] B41)) (by kernel_rfl) c9 c15
theorem c17:CodeS Tryz.prog (subC [false,false,false] B41) none S5 .ret S10:=.seqE (x:=(subC [false,false,false,true] B41)) (y:=(subC [false,false,false,false] B41)) (by kernel_rfl) c8 c16
theorem c18:CodeS Tryz.prog (subC [false,false] B41) none S2 .ret S10:=.seqE (x:=(subC [false,false,true] B41)) (y:=(subC [false,false,false] B41)) (by kernel_rfl) c7 c17
theorem c19:CodeS Tryz.prog (subC [false] B41) none S1 .ret S10:=.seqE (x:=(subC [false,true] B41)) (y:=(subC [false,false] B41)) (by kernel_rfl) c1 c18
theorem c20:CodeS Tryz.prog (subC [] B41) none S0 .ret S10:=.seqE (x:=(subC [true] B41)) (y:=(subC [false] B41)) (by kernel_rfl) c0 c19
theorem k41:FactOk Tryz.prog 144 A41:=factA_ok (h:=S0.h) (v:=.tu [.ag [.sl (some (5,0)) 4 none,z 4,z 36],z 0]) (h':=S10.h) (n':=S10.n) (by kernel_rfl) (by kernel_rfl) (callX_ok (fi:=fiOf Tryz.f144) (tm:=S0.tm) (e:=.ret) (s1:=S10) iEn_ok (by kernel_rfl) (by kernel_rfl) c20 (by kernel_rfl)) (by kernel_rfl)
noncomputable def A42:Fact:=⟨[.ag [.sl (some (0,0)) 1 (some 1),z 1,z 10],.ag [.sl (some (1,0)) 4 none,z 4,z 4],z 0],[.cells 3 [z 0],.grow 3 1 [z 0,z 4,z 4,z 4]],.tu [.ag [.sl (some (2,0)) 4 none,z 4,z 36],z 0],[.cells 3 [z 0],.grow 3 1 [z 0,z 4,z 4,z 4],.grow 3 1 [z 0,z 6,z 16,z 26]]⟩
noncomputable def B42:Code:=(fiOf Tryz.f183).body
noncomputable def S11:St:=⟨(.node (some (.ag [.sl (some (0,0)) 1 (some 1),z 1,z 10])) (.node (some (.ag [.sl (some (1,0)) 4 none,z 4,z 4])) (.node (some (.tu [])) (.node (some (.tu [])) (.node (some (.tu [])) (.node (some (.tu [])) (.node (some (.tu [])) (.node (some (.tu [])) .nil .nil) .nil) (.node (some (.tu [])) .nil .nil)) (.node (some (.tu [])) (.node (some (.tu [])) (.node (some (.tu [])) .nil .nil) .nil) (.node (some (.tu [])) .nil .nil))) (.node (some (.tu [])) (.node (some (.tu [])) (.node (some (.tu [])) (.node (some (.tu [])) .nil .nil) .nil) (.node (some (.tu [])) .nil .nil)) (.node (some (.tu [])) (.node (some (.tu [])) (.node (some (.tu [])) .nil .nil) .nil) (.node (some (.tu [])) .nil .nil)))) (.node (some (.tu [])) (.node (some (.tu [])) (.node (some (.tu [])) (.node (some (.tu [])) (.node (some (.tu [])) .nil .nil) .nil) (.node (some (.tu [])) .nil .nil)) (.node (some (.tu [])) (.node (some (.tu [])) (.node (some (.tu [])) .nil .nil) .nil) (.node (some (.tu [])) .nil .nil))) (.node (some (.tu [])) (.node (some (.tu [])) (.node (some (.tu [])) (.node (some (.tu [])) .nil .nil) .nil) (.node (some (.tu [])) .nil .nil)) (.node (some (.tu [])) (.node (some (.tu [])) .nil .nil) (.node (some (.tu [])) .nil .nil))))) (.node (some (.tu [])) (.node (some (.tu [])) (.node (some (.tu [])) (.node (some (.tu [])) (.node (some (.tu [])) (.node (some (.tu [])) .nil .nil) .nil) (.node (some (.tu [])) .nil .nil)) (.node (some (.tu [])) (.node (some (.tu [])) (.node (some (.tu [])) .nil .nil) .nil) (.node (some (.tu [])) .nil .nil))) (.node (some (.tu [])) (.node (some (.tu [])) (.node (some (.tu [])) (.node (some (.tu [])) .nil .nil) .nil) (.node (some (.tu [])) .nil .nil)) (.node (some (.tu [])) (.node (some (.tu [])) (.node (some (.tu [])) .nil .nil) .nil) (.node (some (.tu [])) .nil .nil)))) (.node (some (.tu [])) (.node (some (.tu [])) (.node (some (.tu [])) (.node (some (.tu [])) (.node (some (.tu [])) .nil .nil) .nil) (.node (some (.tu [])) .nil .nil)) (.node (some (.tu [])) (.node (some (.tu [])) (.node (some (.tu [])) .nil .nil) .nil) (.node (some (.tu [])) .nil .nil))) (.node (some (.tu [])) (.node (some (.tu [])) (.node (some (.tu [])) (.node (some (.tu [])) .nil .nil) .nil) (.node (some (.tu [])) .nil .nil)) (.node (some (.tu [])) (.node (some (.tu [])) .nil .nil) (.node (some (.tu [])) .nil .nil)))))) (.node (some (z 0)) (.node (some (.tu [])) (.node (some (.tu [])) (.node (some (.tu [])) (.node (some (.tu [])) (.node (some (.tu [])) (.node (some (.tu [])) .nil .nil) .nil) (.node (some (.tu [])) .nil .nil)) (.node (some (.tu [])) (.node (some (.tu [])) (.node (some (.tu [])) .nil .nil) .nil) (.node (some (.tu [])) .nil .nil))) (.node (some (.tu [])) (.node (some (.tu [])) (.node (some (.tu [])) (.node (some (.tu [])) .nil .nil) .nil) (.node (some (.tu [])) .nil .nil)) (.node (some (.tu [])) (.node (some (.tu [])) (.node (some (.tu [])) .nil .nil) .nil) (.node (some (.tu [])) .nil .nil)))) (.node (some (.tu [])) (.node (some (.tu [])) (.node (some (.tu [])) (.node (some (.tu [])) (.node (some (.tu [])) .nil .nil) .nil) (.node (some (.tu [])) .nil .nil)) (.node (some (.tu [])) (.node (some (.tu [])) (.node (some (.tu [])) .nil .nil) .nil) (.node (some (.tu [])) .nil .nil))) (.node (some (.tu [])) (.node (some (.tu [])) (.node (some (.tu [])) (.node (some (.tu [])) .nil .nil) .nil) (.node (some (.tu [])) .nil .nil)) (.node (some (.tu [])) (.node (some (.tu [])) .nil .nil) (.node (some (.tu [])) .nil .nil))))) (.node (some (.tu [])) (.node (some (.tu [])) (.node (some (.tu [])) (.node (some (.tu [])) (.node (some (.tu [])) (.node (some (.tu [])) .nil .nil) .nil) (.node (some (.tu [])) .nil .nil)) (.node (some (.tu [])) (.node (some (.tu [])) (.node (some (.tu [])) .nil .nil) .nil) (.node (some (.tu [])) .nil .nil))) (.node (some (.tu [])) (.node (some (.tu [])) (.node (some (.tu [])) (.node (some (.tu [])) .nil .nil) .nil) (.node (some (.tu [])) .nil .nil)) (.node (some (.tu [])) (.node (some (.tu [])) .nil .nil) (.node (some (.tu [])) .nil .nil)))) (.node (some (.tu [])) (.node (some (.tu [])) (.node (some (.tu [])) (.node (some (.tu [])) (.node (some (.tu [])) .nil .nil) .nil) (.node (some (.tu [])) .nil .nil)) (.node (some (.tu [])) (.node (some (.tu [])) (.node (some (.tu [])) .nil .nil) .nil) (.node (some (.tu [])) .nil .nil))) (.node (some (.tu [])) (.node (some (.tu [])) (.node (some (.tu [])) (.node (some (.tu [])) .nil .nil) .nil) (.node (some (.tu [])) .nil .nil)) (.node (some (.tu [])) (.node (some (.tu [])) .nil .nil) (.node (some (.tu [])) .nil .nil))))))),[],(.node (some (.cells 3 [z 0])) (.node (some (.grow 3 1 [z 0,z 4,z 4,z 4])) .nil .nil) .nil),2⟩
noncomputable def S12:St:=⟨updT [(3,some (.p (some (2,0)))),(4,some (.p (some (3,0)))),(6,some (.p (some (4,0)))),(7,some (z 0))] S11.tm,[],updT [(2,some (.cells 37 [.sl (some (0,0)) 1 (some 1),z 1,z 10])),(3,some (.cells 37 [.sl (some (1,0)) 4 none,z 4,z 4])),(4,some (.cells 37 [.sl none 0 (some 0),z 0,z 0]))] S11.h,5⟩
theorem c21:CodeS Tryz.prog (subC [true] B42) none S11 .nrm S12:=.runB (ex_ok iEn_ok mixed .nil 600) (by kernel_rfl)
noncomputable def S13:St:=⟨updT [(8,some (.p (some (6,0)))),(9,some (z 0)),(21,some (.tu [.ag [.sl (some (5,0)) 1 none,z 1,z 10],z 0])),(22,some (.ag [.sl (some (0,0)) 1 (some 1),z 1,z 10])),(23,some (.tu [.ag [.sl (some (5,0)) 1 none,z 1,z 10],z 0])),(24,some (.ag [.sl (some (5,0)) 1 none,z 1,z 10])),(25,some (z 0))] S12.tm,[],updT [(5,some (.grow 3 1 [z 0])),(6,some (.cells 37 [.sl (some (5,0)) 1 none,z 1,z 10]))] S12.h,7⟩
theorem c22:CodeS Tryz.prog (subC [false,true] B42) none S12 .nrm S13:=.runB (ex_ok iEn_ok mixed (.add k28 .nil) 600) (by kernel_rfl)
noncomputable def S14:St:=⟨updT [(26,some (z 0)),(27,some (.b false))] S13.tm,[],S13.h,7⟩
theorem c23:CodeS Tryz.prog (subC [false,false,true] B42) none S13 .nrm S14:=.runB (ex_ok iEn_ok mixed .nil 600) (by kernel_rfl)
noncomputable def S15:St:=⟨updT [(10,some (.p (some (8,0)))),(30,some (.tu [.ag [.sl (some (7,0)) 4 none,z 4,z 4],z 0])),(31,some (.ag [.sl (some (1,0)) 4 none,z 4,z 4])),(32,some (.tu [.ag [.sl (some (7,0)) 4 none,z 4,z 4],z 0])),(33,some (.ag [.sl (some (7,0)) 4 none,z 4,z 4])),(34,some (z 0))] S14.tm,[],updT [(7,some (.grow 3 1 [z 0,z 4,z 4,z 4])),(8,some (.cells 37 [.sl (some (7,0)) 4 none,z 4,z 4]))] S14.h,9⟩
theorem c24:CodeS Tryz.prog (subC [false,false,false,true] B42) none S14 .nrm S15:=.runB (ex_ok iEn_ok mixed (.add k15 .nil) 600) (by kernel_rfl)
noncomputable def S16:St:=⟨updT [(35,some (z 0)),(36,some (.b false))] S15.tm,[],S15.h,9⟩
theorem c25:CodeS Tryz.prog (subC [false,false,false,false,true] B42) none S15 .nrm S16:=.runB (ex_ok iEn_ok mixed .nil 600) (by kernel_rfl)
noncomputable def S17:St:=⟨updT [(39,some (z 0)),(40,some (.b false)),(41,some (.b false)),(42,some (z 0)),(43,some (.b false)),(44,some (.b false))] S16.tm,[],S16.h,9⟩
theorem c26:CodeS Tryz.prog (subC [false,false,false,false,false,true] B42) none S16 .nrm S17:=.runB (ex_ok iEn_ok mixed .nil 600) (by kernel_rfl)
noncomputable def S18:St:=⟨updT [(11,some (z 4)),(46,some (.p (some (6,1)))),(47,some (z 1)),(48,some (.p (some (8,1)))),(49,some (z 4)),(50,some (z 4))] S17.tm,[],S17.h,9⟩
theorem c27:CodeS Tryz.prog (subC [false,false,false,false,false,false,true] B42) none S17 .nrm S18:=.runB (ex_ok iEn_ok mixed .nil 600) (by kernel_rfl)
noncomputable def S19:St:=⟨updT [(51,some (z 4)),(52,some (.b false))] S18.tm,[],S18.h,9⟩
theorem c28:CodeS Tryz.prog (subC [false,false,false,false,false,false,false,true] B42) none S18 .nrm S19:=.runB (ex_ok iEn_ok mixed .nil 600) (by kernel_rfl)
noncomputable def O5:HO:=.cells 277 [.sl (some (5,0)) 1 none,z 1,z 10,.sl (some (7,0)) 4 none,z 4,z 4,z 0]
noncomputable def S20:St:=⟨updT [(12,some (.p (some (9,0)))),(54,some (.ag [.sl (some (5,0)) 1 none,z 1,z 10])),(55,some (.ag [.sl (some (7,0)) 4 none,z 4,z 4])),(56,some (z 0)),(57,some (.ag [.sl (some (5,0)) 1 none,z 1,z 10,.sl (some (7,0)) 4 none,z 4,z 4,z 0]))] S19.tm,[],updT [(9,some (O5))] S19.h,10⟩
theorem c29:CodeS Tryz.prog (subC [false,false,false,false,false,false,false,false,true] B42) none S19 .nrm S20:=.runB (ex_ok iEn_ok mixed .nil 600) (by kernel_rfl)
noncomputable def S21:St:=⟨updT [(13,some (z 36)),(58,some (.ag [.sl (some (5,0)) 1 none,z 1,z 10])),(59,some (z 4)),(60,some (z 40)),(61,some (.ag [.sl (some (7,0)) 4 none,z 4,z 4])),(62,some (z 4)),(63,some (z 4)),(64,some (z 36))] S20.tm,[],S20.h,12⟩
theorem c30:CodeS Tryz.prog (subC [false,false,false,false,false,false,false,false,false,true] B42) none S20 .nrm S21:=.runB (ex_ok iEn_ok mixed .nil 600) (by kernel_rfl)
noncomputable def S22:St:=⟨updT [(14,some (z 1)),(65,some (.ag [.sl (some (5,0)) 1 none,z 1,z 10])),(66,some (z 0)),(67,some (.ag [.sl (some (7,0)) 4 none,z 4,z 4])),(68,some (z 0)),(69,some (z 0)),(70,some (z 0)),(71,some (z 0)),(72,some (z 1)),(73,some (z 1))] S21.tm,[],S21.h,14⟩
theorem c31:CodeS Tryz.prog (subC [false,false,false,false,false,false,false,false,false,false,true] B42) none S21 .nrm S22:=.runB (ex_ok iEn_ok mixed .nil 600) (by kernel_rfl)
noncomputable def S23:St:=⟨updT [(15,some (z 6)),(74,some (.ag [.sl (some (5,0)) 1 none,z 1,z 10,.sl (some (7,0)) 4 none,z 4,z 4,z 0])),(75,some (z 1)),(76,some (z 4)),(77,some (z 6))] S22.tm,[],S22.h,14⟩
theorem c32:CodeS Tryz.prog (subC [false,false,false,false,false,false,false,false,false,false,false,true] B42) none S22 .nrm S23:=.runB (ex_ok iEn_ok mixed (.add k38 .nil) 600) (by kernel_rfl)
noncomputable def S24:St:=⟨updT [(78,some (.ag [.sl (some (7,0)) 4 none,z 4,z 4])),(79,some (.b true)),(80,some (.b false)),(81,some (.b false)),(82,some (.ag [.sl (some (5,0)) 1 none,z 1,z 10])),(83,some (.b true)),(84,some (.b true)),(85,some (z 36)),(86,some (.b false)),(87,some (.b false)),(88,some (z 36)),(89,some (.b false)),(90,some (.b false)),(93,some (.b false)),(94,some (.b false)),(95,some (.b false)),(96,some (.b false))] S23.tm,[],S23.h,16⟩
theorem c33:CodeS Tryz.prog (subC [false,false,false,false,false,false,false,false,false,false,false,false,true] B42) none S23 .nrm S24:=.runB (ex_ok iEn_ok mixed .nil 600) (by kernel_rfl)
noncomputable def S25:St:=⟨updT [(100,some (z 0)),(101,some (.b false))] S24.tm,[],S24.h,16⟩
theorem c34:CodeS Tryz.prog (subC [false,false,false,false,false,false,false,false,false,false,false,false,false,true] B42) none S24 .nrm S25:=.runB (ex_ok iEn_ok mixed .nil 600) (by kernel_rfl)
noncomputable def S26:St:=⟨updT [(16,some (z 1)),(17,some (z 0))] S25.tm,[],S25.h,16⟩
theorem c35:CodeS Tryz.prog (subC [false,false,false,false,false,false,false,false,false,false,false,false,false,false,true] B42) none S25 .nrm S26:=.runB (ex_ok iEn_ok mixed .nil 600) (by kernel_rfl)
noncomputable def S27:St:=⟨updT [(14,some (z 400)),(16,some (z 4)),(17,some (z 36)),(103,some (.ag [.sl (some (5,0)) 1 none,z 1,z 10])),(104,some (.b true)),(105,some (.b true)),(106,some (z 36)),(107,some (.b true)),(108,some (.b true)),(109,some (z 4)),(110,some (z 36)),(111,some (z 1)),(112,some (.b true)),(113,some (.ag [.sl (some (5,0)) 1 none,z 1,z 10,.sl (some (7,0)) 4 none,z 4,z 4,z 0])),(114,some (z 400)),(115,some (z 4)),(116,some (z 3600)),(117,some (.b false))] S26.tm,[],S26.h,17⟩
theorem c36:CodeS Tryz.prog (subC [false,false,false,false,false,false,false,false,false,false,false,false,false,false,false,true] B42) none S26 .nrm S27:=.runB (ex_ok iEn_ok mixed (.add k39 .nil) 600) (by kernel_rfl)
noncomputable def S28:St:=⟨updT [(18,some (.p (some (18,0)))),(119,some (z 400)),(120,some (z 4)),(121,some (z 404)),(122,some (.sl (some (17,0)) 404 (some 404)))] S27.tm,[],updT [(17,some (.cells 3 (repX 404 [z 0]))),(18,some (.cells 22 [.sl (some (17,0)) 404 (some 404)]))] S27.h,19⟩
theorem c37:CodeS Tryz.prog (subC [false,false,false,false,false,false,false,false,false,false,false,false,false,false,false,false,true] B42) none S27 .nrm S28:=.runB (ex_ok iEn_ok mixed .nil 600) (by kernel_rfl)
noncomputable def S29:St:=⟨updT [(19,some (z 3636)),(123,some (.ag [.sl (some (5,0)) 1 none,z 1,z 10,.sl (some (7,0)) 4 none,z 4,z 4,z 0])),(124,some (z 400)),(125,some (z 4)),(126,some (z 404)),(127,some (z 4)),(128,some (z 3636))] S28.tm,[],S28.h,19⟩
theorem c38:CodeS Tryz.prog (subC [false,false,false,false,false,false,false,false,false,false,false,false,false,false,false,false,false,true] B42) none S28 .nrm S29:=.runB (ex_ok iEn_ok mixed (.add k40 .nil) 600) (by kernel_rfl)
noncomputable def S30:St:=⟨updT [(20,some (z 403)),(129,some (.sl (some (17,0)) 404 (some 404))),(130,some (z 404)),(131,some (z 403))] S29.tm,[],S29.h,19⟩
theorem c39:CodeS Tryz.prog (subC [false,false,false,false,false,false,false,false,false,false,false,false,false,false,false,false,false,false,true,true] B42) none S29 .nrm S30:=.runB (ex_ok iEn_ok mixed .nil 600) (by kernel_rfl)
noncomputable def L2:List V:=zs [0,0,0,0,0,0,0,0,0,0,0,0,0,0,0,0,0,0,0,0,0,0,0,0,0,0,0,0,0,0,0,0,0,0,0,0,0,0,0,0,0,0,0,0,0,0,0,0,0,0,0,0,0,0,0,0,0,0,0,0,0,0,0,0,0,0,0,0,0,0,0,0,0,0,0,0,0,0,0,0,0,0,0,0,0,0,0,0,0,0,0,0,0,0,0,0,0,0,0,0,0,0,0,0,0,0,0,0,0,0,0,0,0,0,0,0,0,0,0,0,0,0,0,0,0,0,0,0,0,0,0,0,0,0,0,0,0,0,0,0,0,0,0,0,0,0,0,0,0,0,0,0,0,0,0,0,0,0,0,0,0,0,0,0,0,0,0,0,0,0,0,0,0,0,0,0,0,0,0,0,0,0,0,0,0,0,0,0,0,0,0,0,0,0,0,0,0,0,0,0,0,0,0,0,0,0,0,0,0,0,0,0,0,0,0,0,0,0,0,0,0,0,0,0,0,0,0,0,0,0,0,0,0,0,0,0,0,0,0,0,0,0,0,0,0,0,0,0,0,0,0,0,0,0,0,0,0,0,0,0,0,0,0,0,0,0,0,0,0,0,0,0,0,0,0,0,0,0,0,0,0,0,0,0,0,0,0,0,0,0,0,0,0,0,0,0,0,0,0,0,0,0,0,0,0,0,0,0,0,0,0,0,0,0,0,0,0,0,0,0,0,0,0,0,0,0,0,0,0,0,0,0,0,0,0,0,0,0,0,0,0,0,0,0,0,3102,3112,3122,3132,3138,3148,3158,3168,3174,3184,3194,3204,3210,3220,3230,3240,3246,3256,3266,3276,3282,3292,3302,3312,3318,3328,3338,3348,3354,3364,3374,3384,3390,3400,3410,3420,3426,3436,3446,3456,3462,3472,3482,3492,3498,3508,3518,3528,3534,3544,3554,3564,3570,3580,3590,3600,3606,3616,3626]
noncomputable def S31:St:=⟨updT [(19,some (z 3102)),(20,some (z 344)),(132,some (z 345)),(133,some (z 0)),(134,some (.b true)),(135,some (z 345)),(136,some (z 344)),(137,some (z 3112)),(138,some (.ag [.sl (some (5,0)) 1 none,z 1,z 10,.sl (some (7,0)) 4 none,z 4,z 4,z 0])),(139,some (z 345)),(140,some (z 3102)),(141,some (z 3102)),(142,some (.sl (some (17,0)) 404 (some 404))),(143,some (z 345)),(144,some (z 3102)),(145,some (z 3102)),(146,some (.p (some (17,345))))] S30.tm,[],updT [(17,some (.cells 3 L2))] S30.h,196⟩
noncomputable def L3:List V:=zs [0,0,0,0,0,0,0,0,0,0,0,0,0,0,0,0,0,0,0,0,0,0,0,0,0,0,0,0,0,0,0,0,0,0,0,0,0,0,0,0,0,0,0,0,0,0,0,0,0,0,0,0,0,0,0,0,0,0,0,0,0,0,0,0,0,0,0,0,0,0,0,0,0,0,0,0,0,0,0,0,0,0,0,0,0,0,0,0,0,0,0,0,0,0,0,0,0,0,0,0,0,0,0,0,0,0,0,0,0,0,0,0,0,0,0,0,0,0,0,0,0,0,0,0,0,0,0,0,0,0,0,0,0,0,0,0,0,0,0,0,0,0,0,0,0,0,0,0,0,0,0,0,0,0,0,0,0,0,0,0,0,0,0,0,0,0,0,0,0,0,0,0,0,0,0,0,0,0,0,0,0,0,0,0,0,0,0,0,0,0,0,0,0,0,0,0,0,0,0,0,0,0,0,0,0,0,0,0,0,0,0,0,0,0,0,0,0,0,0,0,0,0,0,0,0,0,0,0,0,0,0,0,0,0,0,0,0,0,0,0,0,0,0,0,0,0,0,0,0,0,0,0,0,0,0,0,0,0,0,0,0,0,0,0,0,0,0,0,0,0,0,0,0,0,0,0,0,0,0,0,0,0,0,0,0,0,2572,2582,2592,2598,2608,2618,2628,2634,2644,2654,2664,2670,2680,2690,2700,2706,2716,2726,2736,2742,2752,2762,2772,2778,2788,2798,2808,2814,2824,2834,2844,2850,2860,2870,2880,2886,2896,2906,2916,2922,2932,2942,2952,2958,2968,2978,2988,2994,3004,3014,3024,3030,3040,3050,3060,3066,3076,3086,3096,3102,3112,3122,3132,3138,3148,3158,3168,3174,3184,3194,3204,3210,3220,3230,3240,3246,3256,3266,3276,3282,3292,3302,3312,3318,3328,3338,3348,3354,3364,3374,3384,3390,3400,3410,3420,3426,3436,3446,3456,3462,3472,3482,3492,3498,3508,3518,3528,3534,3544,3554,3564,3570,3580,3590,3600,3606,3616,3626]
noncomputable def S32:St:=⟨updT [(19,some (z 2572)),(20,some (z 285)),(132,some (z 286)),(135,some (z 286)),(136,some (z 285)),(137,some (z 2582)),(139,some (z 286)),(140,some (z 2572)),(141,some (z 2572)),(143,some (z 286)),(144,some (z 2572)),(145,some (z 2572)),(146,some (.p (some (17,286))))] S31.tm,[],updT [(17,some (.cells 3 L3))] S31.h,373⟩
noncomputable def L4:List V:=zs [0,0,0,0,0,0,0,0,0,0,0,0,0,0,0,0,0,0,0,0,0,0,0,0,0,0,0,0,0,0,0,0,0,0,0,0,0,0,0,0,0,0,0,0,0,0,0,0,0,0,0,0,0,0,0,0,0,0,0,0,0,0,0,0,0,0,0,0,0,0,0,0,0,0,0,0,0,0,0,0,0,0,0,0,0,0,0,0,0,0,0,0,0,0,0,0,0,0,0,0,0,0,0,0,0,0,0,0,0,0,0,0,0,0,0,0,0,0,0,0,0,0,0,0,0,0,0,0,0,0,0,0,0,0,0,0,0,0,0,0,0,0,0,0,0,0,0,0,0,0,0,0,0,0,0,0,0,0,0,0,0,0,0,0,0,0,0,0,0,0,0,0,0,0,0,0,0,0,0,0,0,0,0,0,0,0,0,0,0,0,0,0,0,0,0,0,0,0,0,0,0,0,0,0,0,0,0,0,0,0,0,0,0,0,0,0,0,0,0,0,0,0,0,0,0,0,0,2042,2052,2058,2068,2078,2088,2094,2104,2114,2124,2130,2140,2150,2160,2166,2176,2186,2196,2202,2212,2222,2232,2238,2248,2258,2268,2274,2284,2294,2304,2310,2320,2330,2340,2346,2356,2366,2376,2382,2392,2402,2412,2418,2428,2438,2448,2454,2464,2474,2484,2490,2500,2510,2520,2526,2536,2546,2556,2562,2572,2582,2592,2598,2608,2618,2628,2634,2644,2654,2664,2670,2680,2690,2700,2706,2716,2726,2736,2742,2752,2762,2772,2778,2788,2798,2808,2814,2824,2834,2844,2850,2860,2870,2880,2886,2896,2906,2916,2922,2932,2942,2952,2958,2968,2978,2988,2994,3004,3014,3024,3030,3040,3050,3060,3066,3076,3086,3096,3102,3112,3122,3132,3138,3148,3158,3168,3174,3184,3194,3204,3210,3220,3230,3240,3246,3256,3266,3276,3282,3292,3302,3312,3318,3328,3338,3348,3354,3364,3374,3384,3390,3400,3410,3420,3426,3436,3446,3456,3462,3472,3482,3492,3498,3508,3518,3528,3534,3544,3554,3564,3570,3580,3590,3600,3606,3616,3626]
noncomputable def S33:St:=⟨updT [(19,some (z 2042)),(20,some (z 226)),(132,some (z 227)),(135,some (z 227)),(136,some (z 226)),(137,some (z 2052)),(139,some (z 227)),(140,some (z 2042)),(141,some (z 2042)),(143,some (z 227)),(144,some (z 2042)),(145,some (z 2042)),(146,some (.p (some (17,227))))] S32.tm,[],updT [(17,some (.cells 3 L4))] S32.h,550⟩
noncomputable def L5:List V:=zs [0,0,0,0,0,0,0,0,0,0,0,0,0,0,0,0,0,0,0,0,0,0,0,0,0,0,0,0,0,0,0,0,0,0,0,0,0,0,0,0,0,0,0,0,0,0,0,0,0,0,0,0,0,0,0,0,0,0,0,0,0,0,0,0,0,0,0,0,0,0,0,0,0,0,0,0,0,0,0,0,0,0,0,0,0,0,0,0,0,0,0,0,0,0,0,0,0,0,0,0,0,0,0,0,0,0,0,0,0,0,0,0,0,0,0,0,0,0,0,0,0,0,0,0,0,0,0,0,0,0,0,0,0,0,0,0,0,0,0,0,0,0,0,0,0,0,0,0,0,0,0,0,0,0,0,0,0,0,0,0,0,0,0,0,0,0,0,0,1512,1518,1528,1538,1548,1554,1564,1574,1584,1590,1600,1610,1620,1626,1636,1646,1656,1662,1672,1682,1692,1698,1708,1718,1728,1734,1744,1754,1764,1770,1780,1790,1800,1806,1816,1826,1836,1842,1852,1862,1872,1878,1888,1898,1908,1914,1924,1934,1944,1950,1960,1970,1980,1986,1996,2006,2016,2022,2032,2042,2052,2058,2068,2078,2088,2094,2104,2114,2124,2130,2140,2150,2160,2166,2176,2186,2196,2202,2212,2222,2232,2238,2248,2258,2268,2274,2284,2294,2304,2310,2320,2330,2340,2346,2356,2366,2376,2382,2392,2402,2412,2418,2428,2438,2448,2454,2464,2474,2484,2490,2500,2510,2520,2526,2536,2546,2556,2562,2572,2582,2592,2598,2608,2618,2628,2634,2644,2654,2664,2670,2680,2690,2700,2706,2716,2726,2736,2742,2752,2762,2772,2778,2788,2798,2808,2814,2824,2834,2844,2850,2860,2870,2880,2886,2896,2906,2916,2922,2932,2942,2952,2958,2968,2978,2988,2994,3004,3014,3024,3030,3040,3050,3060,3066,3076,3086,3096,3102,3112,3122,3132,3138,3148,3158,3168,3174,3184,3194,3204,3210,3220,3230,3240,3246,3256,3266,3276,3282,3292,3302,3312,3318,3328,3338,3348,3354,3364,3374,3384,3390,3400,3410,3420,3426,3436,3446,3456,3462,3472,3482,3492,3498,3508,3518,3528,3534,3544,3554,3564,3570,3580,3590,3600,3606,3616,3626]
noncomputable def S34:St:=⟨updT [(19,some (z 1512)),(20,some (z 167)),(132,some (z 168)),(135,some (z 168)),(136,some (z 167)),(137,some (z 1518)),(139,some (z 168)),(140,some (z 1512)),(141,some (z 1512)),(143,some (z 168)),(144,some (z 1512)),(145,some (z 1512)),(146,some (.p (some (17,168))))] S33.tm,[],updT [(17,some (.cells 3 L5))] S33.h,727⟩
noncomputable def L6:List V:=zs [0,0,0,0,0,0,0,0,0,0,0,0,0,0,0,0,0,0,0,0,0,0,0,0,0,0,0,0,0,0,0,0,0,0,0,0,0,0,0,0,0,0,0,0,0,0,0,0,0,0,0,0,0,0,0,0,0,0,0,0,0,0,0,0,0,0,0,0,0,0,0,0,0,0,0,0,0,0,0,0,0,0,0,0,0,0,0,0,0,0,0,0,0,0,0,0,0,0,0,0,0,0,0,0,0,0,0,0,0,978,988,998,1008,1014,1024,1034,1044,1050,1060,1070,1080,1086,1096,1106,1116,1122,1132,1142,1152,1158,1168,1178,1188,1194,1204,1214,1224,1230,1240,1250,1260,1266,1276,1286,1296,1302,1312,1322,1332,1338,1348,1358,1368,1374,1384,1394,1404,1410,1420,1430,1440,1446,1456,1466,1476,1482,1492,1502,1512,1518,1528,1538,1548,1554,1564,1574,1584,1590,1600,1610,1620,1626,1636,1646,1656,1662,1672,1682,1692,1698,1708,1718,1728,1734,1744,1754,1764,1770,1780,1790,1800,1806,1816,1826,1836,1842,1852,1862,1872,1878,1888,1898,1908,1914,1924,1934,1944,1950,1960,1970,1980,1986,1996,2006,2016,2022,2032,2042,2052,2058,2068,2078,2088,2094,2104,2114,2124,2130,2140,2150,2160,2166,2176,2186,2196,2202,2212,2222,2232,2238,2248,2258,2268,2274,2284,2294,2304,2310,2320,2330,2340,2346,2356,2366,2376,2382,2392,2402,2412,2418,2428,2438,2448,2454,2464,2474,2484,2490,2500,2510,2520,2526,2536,2546,2556,2562,2572,2582,2592,2598,2608,2618,2628,2634,2644,2654,2664,2670,2680,2690,2700,2706,2716,2726,2736,2742,2752,2762,2772,2778,2788,2798,2808,2814,2824,2834,2844,2850,2860,2870,2880,2886,2896,2906,2916,2922,2932,2942,2952,2958,2968,2978,2988,2994,3004,3014,3024,3030,3040,3050,3060,3066,3076,3086,3096,3102,3112,3122,3132,3138,3148,3158,3168,3174,3184,3194,3204,3210,3220,3230,3240,3246,3256,3266,3276,3282,3292,3302,3312,3318,3328,3338,3348,3354,3364,3374,3384,3390,3400,3410,3420,3426,3436,3446,3456,3462,3472,3482,3492,3498,3508,3518,3528,3534,3544,3554,3564,3570,3580,3590,3600,3606,3616,3626]
noncomputable def S35:St:=⟨updT [(19,some (z 978)),(20,some (z 108)),(132,some (z 109)),(135,some (z 109)),(136,some (z 108)),(137,some (z 988)),(139,some (z 109)),(140,some (z 978)),(141,some (z 978)),(143,some (z 109)),(144,some (z 978)),(145,some (z 978)),(146,some (.p (some (17,109))))] S34.tm,[],updT [(17,some (.cells 3 L6))] S34.h,904⟩
noncomputable def L7:List V:=zs [0,0,0,0,0,0,0,0,0,0,0,0,0,0,0,0,0,0,0,0,0,0,0,0,0,0,0,0,0,0,0,0,0,0,0,0,0,0,0,0,0,0,0,0,0,0,0,0,0,0,448,458,468,474,484,494,504,510,520,530,540,546,556,566,576,582,592,602,612,618,628,638,648,654,664,674,684,690,700,710,720,726,736,746,756,762,772,782,792,798,808,818,828,834,844,854,864,870,880,890,900,906,916,926,936,942,952,962,972,978,988,998,1008,1014,1024,1034,1044,1050,1060,1070,1080,1086,1096,1106,1116,1122,1132,1142,1152,1158,1168,1178,1188,1194,1204,1214,1224,1230,1240,1250,1260,1266,1276,1286,1296,1302,1312,1322,1332,1338,1348,1358,1368,1374,1384,1394,1404,1410,1420,1430,1440,1446,1456,1466,1476,1482,1492,1502,1512,1518,1528,1538,1548,1554,1564,1574,1584,1590,1600,1610,1620,1626,1636,1646,1656,1662,1672,1682,1692,1698,1708,1718,1728,1734,1744,1754,1764,1770,1780,1790,1800,1806,1816,1826,1836,1842,1852,1862,1872,1878,1888,1898,1908,1914,1924,1934,1944,1950,1960,1970,1980,1986,1996,2006,2016,2022,2032,2042,2052,2058,2068,2078,2088,2094,2104,2114,2124,2130,2140,2150,2160,2166,2176,2186,2196,2202,2212,2222,2232,2238,2248,2258,2268,2274,2284,2294,2304,2310,2320,2330,2340,2346,2356,2366,2376,2382,2392,2402,2412,2418,2428,2438,2448,2454,2464,2474,2484,2490,2500,2510,2520,2526,2536,2546,2556,2562,2572,2582,2592,2598,2608,2618,2628,2634,2644,2654,2664,2670,2680,2690,2700,2706,2716,2726,2736,2742,2752,2762,2772,2778,2788,2798,2808,2814,2824,2834,2844,2850,2860,2870,2880,2886,2896,2906,2916,2922,2932,2942,2952,2958,2968,2978,2988,2994,3004,3014,3024,3030,3040,3050,3060,3066,3076,3086,3096,3102,3112,3122,3132,3138,3148,3158,3168,3174,3184,3194,3204,3210,3220,3230,3240,3246,3256,3266,3276,3282,3292,3302,3312,3318,3328,3338,3348,3354,3364,3374,3384,3390,3400,3410,3420,3426,3436,3446,3456,3462,3472,3482,3492,3498,3508,3518,3528,3534,3544,3554,3564,3570,3580,3590,3600,3606,3616,3626]
noncomputable def S36:St:=⟨updT [(19,some (z 448)),(20,some (z 49)),(132,some (z 50)),(135,some (z 50)),(136,some (z 49)),(137,some (z 458)),(139,some (z 50)),(140,some (z 448)),(141,some (z 448)),(143,some (z 50)),(144,some (z 448)),(145,some (z 448)),(146,some (.p (some (17,50))))] S35.tm,[],updT [(17,some (.cells 3 L7))] S35.h,1081⟩
noncomputable def S37:St:=⟨updT [(19,some (z 6)),(20,some (z 0)),(132,some (z 0)),(134,some (.b false)),(135,some (z 1)),(136,some (z 0)),(137,some (z 16)),(139,some (z 1)),(140,some (z 6)),(141,some (z 6)),(143,some (z 1)),(144,some (z 6)),(145,some (z 6)),(146,some (.p (some (17,1))))] S36.tm,[],updT [(17,some (.cells 3 L0))] S36.h,1228⟩
theorem c40:∃ k,Rds Tryz.prog (subC [false,false,false,false,false,false,false,false,false,false,false,false,false,false,false,false,false,false,true,false,true,true] B42) none k S36 (.exit 0) S37:=CodeS.lastB (j:=51) (ex_ok iEn_ok mixed .nil 600) (by kernel_rfl)
theorem c41:∃ k,Rds Tryz.prog (subC [false,false,false,false,false,false,false,false,false,false,false,false,false,false,false,false,false,false,true,false,true,true] B42) none k S35 (.exit 0) S37:=CodeS.roundsB (j:=58) (s1:=S36) (ex_ok iEn_ok mixed .nil 600) (by kernel_rfl) c40
theorem c42:∃ k,Rds Tryz.prog (subC [false,false,false,false,false,false,false,false,false,false,false,false,false,false,false,false,false,false,true,false,true,true] B42) none k S34 (.exit 0) S37:=CodeS.roundsB (j:=58) (s1:=S35) (ex_ok iEn_ok mixed .nil 600) (by kernel_rfl) c41
theorem c43:∃ k,Rds Tryz.prog (subC [false,false,false,false,false,false,false,false,false,false,false,false,false,false,false,false,false,false,true,false,true,true] B42) none k S33 (.exit 0) S37:=CodeS.roundsB (j:=58) (s1:=S34) (ex_ok iEn_ok mixed .nil 600) (by kernel_rfl) c42
theorem c44:∃ k,Rds Tryz.prog (subC [false,false,false,false,false,false,false,false,false,false,false,false,false,false,false,false,false,false,true,false,true,true] B42) none k S32 (.exit 0) S37:=CodeS.roundsB (j:=58) (s1:=S33) (ex_ok iEn_ok mixed .nil 600) (by kernel_rfl) c43
end Go.Proofs.YtehaepbflkncdaaGreat.I
namespace Go.Proofs.YtehaepbflkncdaaGreat.I
open Go Go.RowKit Go.Proofs.YtehaepbflkncdaaGreat.K
set_option maxRecDepth 1000000
theorem c45:∃ k,Rds Tryz.prog (subC [false,false,false,false,false,false,false,false,false,false,false,false,false,false,false,false,false,false,true,false,true,true] B42) none k S31 (.exit 0) S37:=CodeS.roundsB (j:=58) (s1:=S32) (ex_ok iEn_ok mixed .nil 600) (by kernel_rfl) c44
theorem c46:∃ k,Rds Tryz.prog (subC [false,false,false,false,false,false,false,false,false,false,false,false,false,false,false,false,false,false,true,false,true,true] B42) none k S30 (.exit 0) S37:=CodeS.roundsB (j:=58) (s1:=S31) (ex_ok iEn_ok mixed .nil 600) (by kernel_rfl) c45
theorem c47:CodeS Tryz.prog (subC [false,false,false,false,false,false,false,false,false,false,false,false,false,false,false,false,false,false,true,false,true] B42) none S30 (.exit 0) S37:=.loopE (x:=(subC [false,false,false,false,false,false,false,false,false,false,false,false,false,false,false,false,false,false,true,false,true,true] B42)) (by kernel_rfl) c46
theorem c48:CodeS Tryz.prog (subC [false,false,false,false,false,false,false,false,false,false,false,false,false,false,false,false,false,false,true,false] B42) none S30 .nrm S37:=.blockE (x:=(subC [false,false,false,false,false,false,false,false,false,false,false,false,false,false,false,false,false,false,true,false,true] B42)) (id:=0) (e1:=(.exit 0)) (s1:=S37) iEn_ok mixed (by kernel_rfl) c47 (by kernel_rfl)
theorem c49:CodeS Tryz.prog (subC [false,false,false,false,false,false,false,false,false,false,false,false,false,false,false,false,false,false,true] B42) none S29 .nrm S37:=.seqE (x:=(subC [false,false,false,false,false,false,false,false,false,false,false,false,false,false,false,false,false,false,true,true] B42)) (y:=(subC [false,false,false,false,false,false,false,false,false,false,false,false,false,false,false,false,false,false,true,false] B42)) (by kernel_rfl) c39 c48
noncomputable def S38:St:=⟨updT [(147,some (.f 212 [] [.p (some (18,0))])),(148,some (z 400)),(149,some (z 4)),(150,some (z 36)),(151,some (.tu [.ag [.sl (some (1228,0)) 4 none,z 4,z 36],z 0])),(152,some (.ag [.sl (some (1228,0)) 4 none,z 4,z 36])),(153,some (z 0))] S37.tm,[],updT [(4,some (.cells 37 [.sl (some (1228,0)) 4 none,z 4,z 36])),(1228,some (.grow 3 1 [z 0,z 6,z 16,z 26]))] S37.h,1229⟩
theorem c50:CodeS Tryz.prog (subC [false,false,false,false,false,false,false,false,false,false,false,false,false,false,false,false,false,false,false] B42) none S37 .ret S38:=.runB (ex_ok iEn_ok mixed (.add k41 .nil) 600) (by kernel_rfl)
theorem c51:CodeS Tryz.prog (subC [false,false,false,false,false,false,false,false,false,false,false,false,false,false,false,false,false,false] B42) none S29 .ret S38:=.seqE (x:=(subC [false,false,false,false,false,false,false,false,false,false,false,false,false,false,false,false,false,false,true] B42)) (y:=(subC [false,false,false,false,false,false,false,false,false,false,false,false,false,false,false,false,false,false,false] B42)) (by kernel_rfl) c49 c50
theorem c52:CodeS Tryz.prog (subC [false,false,false,false,false,false,false,false,false,false,false,false,false,false,false,false,false] B42) none S28 .ret S38:=.seqE (x:=(subC [false,false,false,false,false,false,false,false,false,false,false,false,false,false,false,false,false,true] B42)) (y:=(subC [false,false,false,false,false,false,false,false,false,false,false,false,false,false,false,false,false,false] B42)) (by kernel_rfl) c38 c51
theorem c53:CodeS Tryz.prog (subC [false,false,false,false,false,false,false,false,false,false,false,false,false,false,false,false] B42) none S27 .ret S38:=.seqE (x:=(subC [false,false,false,false,false,false,false,false,false,false,false,false,false,false,false,false,true] B42)) (y:=(subC [false,false,false,false,false,false,false,false,false,false,false,false,false,false,false,false,false] B42)) (by kernel_rfl) c37 c52
theorem c54:CodeS Tryz.prog (subC [false,false,false,false,false,false,false,false,false,false,false,false,false,false,false] B42) none S26 .ret S38:=.seqE (x:=(subC [false,false,false,false,false,false,false,false,false,false,false,false,false,false,false,true] B42)) (y:=(subC [false,false,false,false,false,false,false,false,false,false,false,false,false,false,false,false] B42)) (by kernel_rfl) c36 c53
theorem c55:CodeS Tryz.prog (subC [false,false,false,false,false,false,false,false,false,false,false,false,false,false] B42) none S25 .ret S38:=.seqE (x:=(subC [false,false,false,false,false,false,false,false,false,false,false,false,false,false,true] B42)) (y:=(subC [false,false,false,false,false,false,false,false,false,false,false,false,false,false,false] B42)) (by kernel_rfl) c35 c54
theorem c56:CodeS Tryz.prog (subC [false,false,false,false,false,false,false,false,false,false,false,false,false] B42) none S24 .ret S38:=.seqE (x:=(subC [false,false,false,false,false,false,false,false,false,false,false,false,false,true] B42)) (y:=(subC [false,false,false,false,false,false,false,false,false,false,false,false,false,false] B42)) (by kernel_rfl) c34 c55
theorem c57:CodeS Tryz.prog (subC [false,false,false,false,false,false,false,false,false,false,false,false] B42) none S23 .ret S38:=.seqE (x:=(subC [false,false,false,false,false,false,false,false,false,false,false,false,true] B42)) (y:=(subC [false,false,false,false,false,false,false,false,false,false,false,false,false] B42)) (by kernel_rfl) c33 c56
theorem c58:CodeS Tryz.prog (subC [false,false,false,false,false,false,false,false,false,false,false] B42) none S22 .ret S38:=.seqE (x:=(subC [false,false,false,false,false,false,false,false,false,false,false,true] B42)) (y:=(subC [false,false,false,false,false,false,false,false,false,false,false,false] B42)) (by kernel_rfl) c32 c57
theorem c59:CodeS Tryz.prog (subC [false,false,false,false,false,false,false,false,false,false] B42) none S21 .ret S38:=.seqE (x:=(subC [false,false,false,false,false,false,false,false,false,false,true] B42)) (y:=(subC [false,false,false,false,false,false,false,false,false,false,false] B42)) (by kernel_rfl) c31 c58
theorem c60:CodeS Tryz.prog (subC [false,false,false,false,false,false,false,false,false] B42) none S20 .ret S38:=.seqE (x:=(subC [false,false,false,false,false,false,false,false,false,true] B42)) (y:=(subC [false,false,false,false,false,false,false,false,false,false] B42)) (by kernel_rfl) c30 c59
theorem c61:CodeS Tryz.prog (subC [false,false,false,false,false,false,false,false] B42) none S19 .ret S38:=.seqE (x:=(subC [false,false,false,false,false,false,false,false,true] B42)) (y:=(subC [false,false,false,false,false,false,false,false,false] B42)) (by kernel_rfl) c29 c60
theorem c62:CodeS Tryz.prog (subC [false,false,false,false,false,false,false] B42) none S18 .ret S38:=.seqE (x:=(subC [false,false,false,false,false,false,false,true] B42)) (y:=(subC [false,false,false,false,false,false,false,false] B42)) (by kernel_rfl) c28 c61
theorem c63:CodeS Tryz.prog (subC [false,false,false,false,false,false] B42) none S17 .ret S38:=.seqE (x:=(subC [false,false,false,false,false,false,true] B42)) (y:=(subC [false,false,false,false,false,false,false] B42)) (by kernel_rfl) c27 c62
theorem c64:CodeS Tryz.prog (subC [false,false,false,false,false] B42) none S16 .ret S38:=.seqE (x:=(subC [false,false,false,false,false,true] B42)) (y:=(subC [false,false,false,false,false,false] B42)) (by kernel_rfl) c26 c63
theorem c65:CodeS Tryz.prog (subC [false,false,false,false] B42) none S15 .ret S38:=.seqE (x:=(subC [false,false,false,false,true] B42)) (y:=(subC [false,false,false,false,false] B42)) (by kernel_rfl) c25 c64
theorem c66:CodeS Tryz.prog (subC [false,false,false] B42) none S14 .ret S38:=.seqE (x:=(subC [false,false,false,true] B42)) (y:=(subC [false,false,false,false] B42)) (by kernel_rfl) c24 c65
theorem c67:CodeS Tryz.prog (subC [false,false] B42) none S13 .ret S38:=.seqE (x:=(subC [false,false,true] B42)) (y:=(subC [false,false,false] B42)) (by kernel_rfl) c23 c66
theorem c68:CodeS Tryz.prog (subC [false] B42) none S12 .ret S38:=.seqE (x:=(subC [false,true] B42)) (y:=(subC [false,false] B42)) (by kernel_rfl) c22 c67
theorem c69:CodeS Tryz.prog (subC [] B42) none S11 .ret S38:=.seqE (x:=(subC [true] B42)) (y:=(subC [false] B42)) (by kernel_rfl) c21 c68
theorem k42:FactOk Tryz.prog 183 A42:=factA_ok (h:=S11.h) (v:=.tu [.ag [.sl (some (1228,0)) 4 none,z 4,z 36],z 0]) (h':=S38.h) (n':=S38.n) (by kernel_rfl) (by kernel_rfl) (callX_ok (fi:=fiOf Tryz.f183) (tm:=S11.tm) (e:=.ret) (s1:=S38) iEn_ok (by kernel_rfl) (by kernel_rfl) c69 (by kernel_rfl)) (by kernel_rfl)
noncomputable def A43:Fact:=⟨[.ag [.sl (some (0,0)) 2 (some 2),.sl (some (1,0)) 2 (some 2),.sl (some (2,0)) 2 (some 2)],.sl (some (3,0)) 2 (some 2),z 1,z 0,z 1],[.cells 9 [.s ⟨#[97]⟩,.s ⟨#[98]⟩],O0,O2,O3,.cells 3 [z 0,z 1],.grow 3 1 [z 0,z 4,z 4,z 4,z 4],.cells 3 [z 1,z 0],.cells 3 [z 0],.cells 3 [z 0]],.tu [.ag [.sl (some (9,0)) 4 none,z 4,z 36],z 0],[.cells 9 [.s ⟨#[97]⟩,.s ⟨#[98]⟩],O0,O2,O3,.cells 3 [z 0,z 1],.grow 3 1 [z 0,z 4,z 4,z 4,z 4],.cells 3 [z 1,z 0],.cells 3 [z 0],.cells 3 [z 0],.grow 3 1 [z 0,z 6,z 16,z 26]]⟩
theorem k43:FactOk Tryz.prog 114 A43:=factOk_ok (ex_ok iEn_ok mixed (.add k4 (.add k32 (.add k31 (.add k33 (.add k17 (.add k42 .nil)))))) 600) (by kernel_rfl)
noncomputable def A44:Fact:=⟨[.f 185 [] [.p (some (0,0))],z 0,z 4,z 36],[.cells 37 [.sl (some (1,0)) 4 none,z 4,z 36],.grow 3 1 [z 0,z 6,z 16,z 26]],.tu [.ag [.sl (some (2,0)) 4 none,z 4,z 36],z 0],[.cells 37 [.sl (some (1,0)) 4 none,z 4,z 36],.grow 3 1 [z 0,z 6,z 16,z 26],.grow 3 1 [z 0,z 6,z 16,z 26]]⟩
theorem k44:FactOk Tryz.prog 144 A44:=factOk_ok (ex_ok iEn_ok mixed .nil 600) (by kernel_rfl)
noncomputable def A45:Fact:=⟨[.ag [.sl (some (0,0)) 4 none,z 4,z 36]],[.grow 3 1 [z 0,z 6,z 16,z 26]],.tu [.ag [.sl (some (1,0)) 4 none,z 4,z 36],z 0],[.grow 3 1 [z 0,z 6,z 16,z 26],.grow 3 1 [z 0,z 6,z 16,z 26]]⟩
theorem k45:FactOk Tryz.prog 141 A45:=factOk_ok (ex_ok iEn_ok mixed (.add k44 .nil) 600) (by kernel_rfl)
noncomputable def A46:Fact:=⟨[.f 142 [] [.p (some (0,0)),.p (some (1,0))],z 400,z 4,z 36],[.cells 37 [.sl (some (2,0)) 4 none,z 4,z 36],.cells 3 [z 4],.grow 3 1 [z 0,z 6,z 16,z 26]],.tu [.ag [.sl (some (3,0)) 6 none,z 4,z 36],z 0],[.cells 37 [.sl (some (2,0)) 4 none,z 4,z 36],.cells 3 [z 4],.grow 3 1 [z 0,z 6,z 16,z 26],.grow 3 1 [z 0,z 0,z 3,z 13,z 23,z 33]]⟩
noncomputable def B46:Code:=(fiOf Tryz.f144).body
noncomputable def S39:St:=⟨(.node (some (.f 142 [] [.p (some (0,0)),.p (some (1,0))])) (.node (some (z 400)) (.node (some (z 36)) (.node (some (.tu [])) (.node (some (.tu [])) (.node (some (.tu [])) (.node (some (.tu [])) .nil .nil) .nil) (.node (some (.tu [])) (.node (some (.tu [])) .nil .nil) .nil)) (.node (some (.tu [])) (.node (some (.tu [])) (.node (some (.tu [])) .nil .nil) .nil) (.node (some (.tu [])) (.node (some (.tu [])) .nil .nil) .nil))) (.node (some (.tu [])) (.node (some (.tu [])) (.node (some (.tu [])) (.node (some (.tu [])) .nil .nil) .nil) (.node (some (.tu [])) (.node (some (.tu [])) .nil .nil) .nil)) (.node (some (.tu [])) (.node (some (.tu [])) (.node (some (.tu [])) .nil .nil) .nil) (.node (some (.tu [])) .nil .nil)))) (.node (some (.tu [])) (.node (some (.tu [])) (.node (some (.tu [])) (.node (some (.tu [])) (.node (some (.tu [])) .nil .nil) .nil) (.node (some (.tu [])) (.node (some (.tu [])) .nil .nil) .nil)) (.node (some (.tu [])) (.node (some (.tu [])) (.node (some (.tu [])) .nil .nil) .nil) (.node (some (.tu [])) (.node (some (.tu [])) .nil .nil) .nil))) (.node (some (.tu [])) (.node (some (.tu [])) (.node (some (.tu [])) (.node (some (.tu [])) .nil .nil) .nil) (.node (some (.tu [])) (.node (some (.tu [])) .nil .nil) .nil)) (.node (some (.tu [])) (.node (some (.tu [])) (.node (some (.tu [])) .nil .nil) .nil) (.node (some (.tu [])) .nil .nil))))) (.node (some (z 4)) (.node (some (.tu [])) (.node (some (.tu [])) (.node (some (.tu [])) (.node (some (.tu [])) (.node (some (.tu [])) .nil .nil) .nil) (.node (some (.tu [])) (.node (some (.tu [])) .nil .nil) .nil)) (.node (some (.tu [])) (.node (some (.tu [])) (.node (some (.tu [])) .nil .nil) .nil) (.node (some (.tu [])) (.node (some (.tu [])) .nil .nil) .nil))) (.node (some (.tu [])) (.node (some (.tu [])) (.node (some (.tu [])) (.node (some (.tu [])) .nil .nil) .nil) (.node (some (.tu [])) (.node (some (.tu [])) .nil .nil) .nil)) (.node (some (.tu [])) (.node (some (.tu [])) (.node (some (.tu [])) .nil .nil) .nil) (.node (some (.tu [])) .nil .nil)))) (.node (some (.tu [])) (.node (some (.tu [])) (.node (some (.tu [])) (.node (some (.tu [])) (.node (some (.tu [])) .nil .nil) .nil) (.node (some (.tu [])) (.node (some (.tu [])) .nil .nil) .nil)) (.node (some (.tu [])) (.node (some (.tu [])) (.node (some (.tu [])) .nil .nil) .nil) (.node (some (.tu [])) .nil .nil))) (.node (some (.tu [])) (.node (some (.tu [])) (.node (some (.tu [])) (.node (some (.tu [])) .nil .nil) .nil) (.node (some (.tu [])) (.node (some (.tu [])) .nil .nil) .nil)) (.node (some (.tu [])) (.node (some (.tu [])) (.node (some (.tu [])) .nil .nil) .nil) (.node (some (.tu [])) .nil .nil)))))),[],(.node (some (.cells 37 [.sl (some (2,0)) 4 none,z 4,z 36])) (.node (some (.cells 3 [z 4])) .nil .nil) (.node (some (.grow 3 1 [z 0,z 6,z 16,z 26])) .nil .nil)),3⟩
noncomputable def S40:St:=⟨updT [(8,some (.p (some (3,0)))),(9,some (z 0))] S39.tm,[],updT [(3,some (.cells 37 [.sl none 0 (some 0),z 0,z 0]))] S39.h,4⟩
theorem c70:CodeS Tryz.prog (subC [true] B46) none S39 .nrm S40:=.runB (ex_ok iEn_ok mixed .nil 600) (by kernel_rfl)
noncomputable def S41:St:=⟨updT [(10,some (.sl (some (4,0)) 404 (some 404))),(14,some (z 400)),(15,some (z 4)),(16,some (z 404)),(17,some (.sl (some (4,0)) 404 (some 404)))] S40.tm,[],updT [(4,some (.cells 3 (repX 404 [z 0])))] S40.h,5⟩
theorem c71:CodeS Tryz.prog (subC [false,true] B46) none S40 .nrm S41:=.runB (ex_ok iEn_ok mixed .nil 600) (by kernel_rfl)
noncomputable def S42:St:=⟨updT [(18,some (.sl (some (4,0)) 404 (some 404))),(19,some (z 404)),(20,some (z 0))] S41.tm,[],S41.h,5⟩
theorem c72:CodeS Tryz.prog (subC [false,false,true,true] B46) none S41 .nrm S42:=.runB (ex_ok iEn_ok mixed .nil 600) (by kernel_rfl)
noncomputable def L8:List V:=zs [0,0,3,13,23,33,39,49,59,69,75,85,95,105,111,121,131,141,147,157,167,177,183,193,203,213,219,229,239,249,255,265,275,285,291,301,311,321,327,337,347,357,363,373,383,393,399,409,419,429,435,445,455,465,471,481,491,501,507,517,527,537,543,553,563,573,579,589,599,609,615,625,635,645,651,661,671,681,687,697,707,717,723,733,743,753,759,769,779,789,795,805,815,825,831,841,851,861,867,877,887,897]
noncomputable def S43:St:=⟨updT [(11,some (z 101)),(20,some (z 102)),(21,some (.b true)),(22,some (z 101)),(23,some (.sl (some (4,0)) 404 (some 404))),(24,some (z 101)),(25,some (.f 142 [] [.p (some (0,0)),.p (some (1,0))])),(26,some (z 101)),(27,some (z 897)),(28,some (.p (some (4,101)))),(29,some (.sl (some (4,0)) 404 (some 404))),(30,some (z 101)),(31,some (.p (some (4,101)))),(32,some (z 897)),(33,some (.b false)),(41,some (z 102))] S42.tm,[],updT [(4,some (.cells 3 (appX L8 (repX 302 [z 0]))))] S42.h,106⟩
noncomputable def L9:List V:=appX L8 (zs [903,913,923,933,939,949,959,969,975,985,995,1005,1011,1021,1031,1041,1047,1057,1067,1077,1083,1093,1103,1113,1119,1129,1139,1149,1155,1165,1175,1185,1191,1201,1211,1221,1227,1237,1247,1257,1263,1273,1283,1293,1299,1309,1319,1329,1335,1345,1355,1365,1371,1381,1391,1401,1407,1417,1427,1437,1443,1453,1463,1473,1479,1489,1499,1509,1515,1525,1535,1545,1551,1561,1571,1581,1587,1597,1607,1617,1623,1633,1643,1653,1659,1669,1679,1689,1695,1705,1715,1725,1731,1741,1751,1761,1767,1777,1787,1797])
noncomputable def S44:St:=⟨updT [(11,some (z 201)),(20,some (z 202)),(22,some (z 201)),(24,some (z 201)),(26,some (z 201)),(27,some (z 1797)),(28,some (.p (some (4,201)))),(30,some (z 201)),(31,some (.p (some (4,201)))),(32,some (z 1797)),(41,some (z 202))] S43.tm,[],updT [(4,some (.cells 3 (appX L9 (repX 202 [z 0]))))] S43.h,206⟩
noncomputable def L10:List V:=appX L9 (zs [1803,1813,1823,1833,1839,1849,1859,1869,1875,1885,1895,1905,1911,1921,1931,1941,1947,1957,1967,1977,1983,1993,2003,2013,2019,2029,2039,2049,2055,2065,2075,2085,2091,2101,2111,2121,2127,2137,2147,2157,2163,2173,2183,2193,2199,2209,2219,2229,2235,2245,2255,2265,2271,2281,2291,2301,2307,2317,2327,2337,2343,2353,2363,2373,2379,2389,2399,2409,2415,2425,2435,2445,2451,2461,2471,2481,2487,2497,2507,2517,2523,2533,2543,2553,2559,2569,2579,2589,2595,2605,2615,2625,2631,2641,2651,2661,2667,2677,2687,2697])
noncomputable def S45:St:=⟨updT [(11,some (z 301)),(20,some (z 302)),(22,some (z 301)),(24,some (z 301)),(26,some (z 301)),(27,some (z 2697)),(28,some (.p (some (4,301)))),(30,some (z 301)),(31,some (.p (some (4,301)))),(32,some (z 2697)),(41,some (z 302))] S44.tm,[],updT [(4,some (.cells 3 (appX L10 (repX 102 [z 0]))))] S44.h,306⟩
noncomputable def L11:List V:=appX L10 (zs [2703,2713,2723,2733,2739,2749,2759,2769,2775,2785,2795,2805,2811,2821,2831,2841,2847,2857,2867,2877,2883,2893,2903,2913,2919,2929,2939,2949,2955,2965,2975,2985,2991,3001,3011,3021,3027,3037,3047,3057,3063,3073,3083,3093,3099,3109,3119,3129,3135,3145,3155,3165,3171,3181,3191,3201,3207,3217,3227,3237,3243,3253,3263,3273,3279,3289,3299,3309,3315,3325,3335,3345,3351,3361,3371,3381,3387,3397,3407,3417,3423,3433,3443,3453,3459,3469,3479,3489,3495,3505,3515,3525,3531,3541,3551,3561,3567,3577,3587,3597,0,0])
noncomputable def S46:St:=⟨updT [(11,some (z 401)),(20,some (z 402)),(22,some (z 401)),(24,some (z 401)),(26,some (z 401)),(27,some (z 3597)),(28,some (.p (some (4,401)))),(30,some (z 401)),(31,some (.p (some (4,401)))),(32,some (z 3597)),(41,some (z 402))] S45.tm,[],updT [(4,some (.cells 3 L11))] S45.h,406⟩
noncomputable def L12:List V:=appX L10 (zs [2703,2713,2723,2733,2739,2749,2759,2769,2775,2785,2795,2805,2811,2821,2831,2841,2847,2857,2867,2877,2883,2893,2903,2913,2919,2929,2939,2949,2955,2965,2975,2985,2991,3001,3011,3021,3027,3037,3047,3057,3063,3073,3083,3093,3099,3109,3119,3129,3135,3145,3155,3165,3171,3181,3191,3201,3207,3217,3227,3237,3243,3253,3263,3273,3279,3289,3299,3309,3315,3325,3335,3345,3351,3361,3371,3381,3387,3397,3407,3417,3423,3433,3443,3453,3459,3469,3479,3489,3495,3505,3515,3525,3531,3541,3551,3561,3567,3577,3587,3597,3603,3613])
noncomputable def S47:St:=⟨updT [(11,some (z 403)),(20,some (z 404)),(21,some (.b false)),(22,some (z 403)),(24,some (z 403)),(26,some (z 403)),(27,some (z 3613)),(28,some (.p (some (4,403)))),(30,some (z 403)),(31,some (.p (some (4,403)))),(32,some (z 3613)),(41,some (z 404))] S46.tm,[],updT [(4,some (.cells 3 L12))] S46.h,408⟩
theorem c73:∃ k,Rds Tryz.prog (subC [false,false,true,false,true,true] B46) none k S46 (.exit 0) S47:=CodeS.lastB (j:=4) (ex_ok iEn_ok mixed .nil 600) (by kernel_rfl)
theorem c74:∃ k,Rds Tryz.prog (subC [false,false,true,false,true,true] B46) none k S45 (.exit 0) S47:=CodeS.roundsB (j:=99) (s1:=S46) (ex_ok iEn_ok mixed .nil 600) (by kernel_rfl) c73
theorem c75:∃ k,Rds Tryz.prog (subC [false,false,true,false,true,true] B46) none k S44 (.exit 0) S47:=CodeS.roundsB (j:=99) (s1:=S45) (ex_ok iEn_ok mixed .nil 600) (by kernel_rfl) c74
theorem c76:∃ k,Rds Tryz.prog (subC [false,false,true,false,true,true] B46) none k S43 (.exit 0) S47:=CodeS.roundsB (j:=99) (s1:=S44) (ex_ok iEn_ok mixed .nil 600) (by kernel_rfl) c75
end Go.Proofs.YtehaepbflkncdaaGreat.I
namespace Go.Proofs.YtehaepbflkncdaaGreat.I
open Go Go.RowKit Go.Proofs.YtehaepbflkncdaaGreat.K
set_option maxRecDepth 1000000
theorem c77:∃ k,Rds Tryz.prog (subC [false,false,true,false,true,true] B46) none k S42 (.exit 0) S47:=CodeS.roundsB (j:=101) (s1:=S43) (ex_ok iEn_ok mixed .nil 600) (by kernel_rfl) c76
theorem c78:CodeS Tryz.prog (subC [false,false,true,false,true] B46) none S42 (.exit 0) S47:=.loopE (x:=(subC [false,false,true,false,true,true] B46)) (by kernel_rfl) c77
theorem c79:CodeS Tryz.prog (subC [false,false,true,false] B46) none S42 .nrm S47:=.blockE (x:=(subC [false,false,true,false,true] B46)) (id:=0) (e1:=(.exit 0)) (s1:=S47) iEn_ok mixed (by kernel_rfl) c78 (by kernel_rfl)
theorem c80:CodeS Tryz.prog (subC [false,false,true] B46) none S41 .nrm S47:=.seqE (x:=(subC [false,false,true,true] B46)) (y:=(subC [false,false,true,false] B46)) (by kernel_rfl) c72 c79
noncomputable def S48:St:=⟨updT [(12,some (z 4)),(42,some (.sl (some (4,0)) 404 (some 404))),(43,some (z 400)),(44,some (.sl (some (4,400)) 4 (some 4))),(45,some (z 36)),(46,some (z 4))] S47.tm,[],S47.h,408⟩
theorem c81:CodeS Tryz.prog (subC [false,false,false,true] B46) none S47 .nrm S48:=.runB (ex_ok iEn_ok mixed .nil 600) (by kernel_rfl)
noncomputable def S49:St:=⟨updT [(13,some (z 36)),(47,some (z 36)),(48,some (z 4)),(49,some (z 144)),(50,some (z 4)),(51,some (z 36))] S48.tm,[],S48.h,408⟩
theorem c82:CodeS Tryz.prog (subC [false,false,false,false,true] B46) none S48 .nrm S49:=.runB (ex_ok iEn_ok mixed .nil 600) (by kernel_rfl)
noncomputable def S50:St:=⟨updT [(1,some (z 81)),(52,some (z 82)),(53,some (.b true)),(54,some (.b true)),(55,some (.sl (some (4,0)) 404 (some 404))),(56,some (z 82)),(57,some (z 81)),(58,some (.p (some (4,81)))),(59,some (z 717)),(60,some (z 36)),(61,some (z 753)),(62,some (.sl (some (4,0)) 404 (some 404))),(63,some (z 82)),(64,some (z 81)),(65,some (z 4)),(66,some (z 85)),(67,some (.p (some (4,85)))),(68,some (z 753)),(69,some (.b true)),(70,some (.b true)),(71,some (z 82)),(72,some (z 81))] S49.tm,[],S49.h,408⟩
noncomputable def S51:St:=⟨updT [(1,some (z 2)),(52,some (z 2)),(56,some (z 2)),(57,some (z 1)),(58,some (.p (some (4,1)))),(59,some (z 0)),(61,some (z 36)),(63,some (z 2)),(64,some (z 1)),(66,some (z 5)),(67,some (.p (some (4,5)))),(68,some (z 33)),(69,some (.b false)),(70,some (.b false)),(71,some (z 3)),(72,some (z 2))] S50.tm,[],S50.h,408⟩
theorem c83:∃ k,Rds Tryz.prog (subC [false,false,false,false,false,true,true,true] B46) none k S50 (.exit 2) S51:=CodeS.lastB (j:=81) (ex_ok iEn_ok mixed .nil 600) (by kernel_rfl)
theorem c84:∃ k,Rds Tryz.prog (subC [false,false,false,false,false,true,true,true] B46) none k S49 (.exit 2) S51:=CodeS.roundsB (j:=318) (s1:=S50) (ex_ok iEn_ok mixed .nil 600) (by kernel_rfl) c83
theorem c85:CodeS Tryz.prog (subC [false,false,false,false,false,true,true] B46) none S49 (.exit 2) S51:=.loopE (x:=(subC [false,false,false,false,false,true,true,true] B46)) (by kernel_rfl) c84
theorem c86:CodeS Tryz.prog (subC [false,false,false,false,false,true] B46) none S49 .nrm S51:=.blockE (x:=(subC [false,false,false,false,false,true,true] B46)) (id:=2) (e1:=(.exit 2)) (s1:=S51) iEn_ok mixed (by kernel_rfl) c85 (by kernel_rfl)
noncomputable def S52:St:=⟨updT [(73,some (z 4)),(74,some (.b false)),(75,some (.b false)),(76,some (z 36)),(77,some (.b false)),(78,some (.b false)),(80,some (.sl (some (4,0)) 404 (some 404))),(81,some (z 2)),(82,some (z 4)),(83,some (z 6)),(84,some (.sl (some (4,0)) 6 (some 404))),(85,some (z 4)),(86,some (z 36)),(87,some (.tu [.ag [.sl (some (409,0)) 6 none,z 4,z 36],z 0])),(88,some (.ag [.sl (some (409,0)) 6 none,z 4,z 36])),(89,some (z 0))] S51.tm,[],updT [(3,some (.cells 37 [.sl (some (409,0)) 6 none,z 4,z 36])),(409,some (.grow 3 1 [z 0,z 0,z 3,z 13,z 23,z 33]))] S51.h,410⟩
theorem c87:CodeS Tryz.prog (subC [false,false,false,false,false,false] B46) none S51 .ret S52:=.runB (ex_ok iEn_ok mixed .nil 600) (by kernel_rfl)
theorem c88:CodeS Tryz.prog (subC [false,false,false,false,false] B46) none S49 .ret S52:=.seqE (x:=(subC [false,false,false,false,false,true] B46)) (y:=(subC [false,false,false,false,false,false] B46)) (by kernel_rfl) c86 c87
theorem c89:CodeS Tryz.prog (subC [false,false,false,false] B46) none S48 .ret S52:=.seqE (x:=(subC [false,false,false,false,true] B46)) (y:=(subC [false,false,false,false,false] B46)) (by kernel_rfl) c82 c88
theorem c90:CodeS Tryz.prog (subC [false,false,false] B46) none S47 .ret S52:=.seqE (x:=(subC [false,false,false,true] B46)) (y:=(subC [false,false,false,false] B46)) (by kernel_rfl) c81 c89
theorem c91:CodeS Tryz.prog (subC [false,false] B46) none S41 .ret S52:=.seqE (x:=(subC [false,false,true] B46)) (y:=(subC [false,false,false] B46)) (by kernel_rfl) c80 c90
theorem c92:CodeS Tryz.prog (subC [false] B46) none S40 .ret S52:=.seqE (x:=(subC [false,true] B46)) (y:=(subC [false,false] B46)) (by kernel_rfl) c71 c91
theorem c93:CodeS Tryz.prog (subC [] B46) none S39 .ret S52:=.seqE (x:=(subC [true] B46)) (y:=(subC [false] B46)) (by kernel_rfl) c70 c92
theorem k46:FactOk Tryz.prog 144 A46:=factA_ok (h:=S39.h) (v:=.tu [.ag [.sl (some (409,0)) 6 none,z 4,z 36],z 0]) (h':=S52.h) (n':=S52.n) (by kernel_rfl) (by kernel_rfl) (callX_ok (fi:=fiOf Tryz.f144) (tm:=S39.tm) (e:=.ret) (s1:=S52) iEn_ok (by kernel_rfl) (by kernel_rfl) c93 (by kernel_rfl)) (by kernel_rfl)
noncomputable def A47:Fact:=⟨[.ag [.sl (some (0,0)) 4 none,z 4,z 36],z 4],[.grow 3 1 [z 0,z 6,z 16,z 26]],.tu [.ag [.sl (some (1,0)) 6 none,z 4,z 36],z 0],[.grow 3 1 [z 0,z 6,z 16,z 26],.grow 3 1 [z 0,z 0,z 3,z 13,z 23,z 33]]⟩
theorem k47:FactOk Tryz.prog 115 A47:=factOk_ok (ex_ok iEn_ok mixed (.add k45 (.add k46 .nil)) 600) (by kernel_rfl)
noncomputable def A48:Fact:=⟨[.f 185 [] [.p (some (0,0))],z 2,z 4,z 36],[.cells 37 [.sl (some (1,0)) 6 none,z 4,z 36],.grow 3 1 [z 0,z 0,z 3,z 13,z 23,z 33]],.tu [.ag [.sl (some (2,0)) 6 none,z 4,z 36],z 0],[.cells 37 [.sl (some (1,0)) 6 none,z 4,z 36],.grow 3 1 [z 0,z 0,z 3,z 13,z 23,z 33],.grow 3 1 [z 0,z 0,z 3,z 13,z 23,z 33]]⟩
theorem k48:FactOk Tryz.prog 144 A48:=factOk_ok (ex_ok iEn_ok mixed .nil 600) (by kernel_rfl)
noncomputable def A49:Fact:=⟨[.ag [.sl (some (0,0)) 6 none,z 4,z 36]],[.grow 3 1 [z 0,z 0,z 3,z 13,z 23,z 33]],.tu [.ag [.sl (some (1,0)) 6 none,z 4,z 36],z 0],[.grow 3 1 [z 0,z 0,z 3,z 13,z 23,z 33],.grow 3 1 [z 0,z 0,z 3,z 13,z 23,z 33]]⟩
theorem k49:FactOk Tryz.prog 141 A49:=factOk_ok (ex_ok iEn_ok mixed (.add k48 .nil) 600) (by kernel_rfl)
noncomputable def A50:Fact:=⟨[.ag [.sl (some (0,0)) 4 none,z 4,z 4],.ag [.sl (some (1,0)) 6 none,z 4,z 36]],[.grow 3 1 [z 0,z 4,z 4,z 4],.grow 3 1 [z 0,z 0,z 3,z 13,z 23,z 33]],.tu [.ag [.sl (some (2,0)) 4 none,z 4,z 4,.sl (some (3,0)) 6 none,z 4,z 36,z 6,.b false],z 0],[.grow 3 1 [z 0,z 4,z 4,z 4],.grow 3 1 [z 0,z 0,z 3,z 13,z 23,z 33],.grow 3 1 [z 0,z 4,z 4,z 4],.grow 3 1 [z 0,z 0,z 3,z 13,z 23,z 33]]⟩
theorem k50:FactOk Tryz.prog 215 A50:=factOk_ok (ex_ok iEn_ok mixed (.add k15 (.add k49 .nil)) 600) (by kernel_rfl)
noncomputable def O6:HO:=.cells 3 [z 0,z 4,z 4,z 4,z 4,z 8,z 8,z 8,z 8,z 12]
noncomputable def A51:Fact:=⟨[.ag [.sl (some (0,0)) 4 none,z 4,z 4],z 10],[.grow 3 1 [z 0,z 4,z 4,z 4]],.sl (some (1,0)) 10 (some 10),[.grow 3 1 [z 0,z 4,z 4,z 4],O6]⟩
theorem k51:FactOk Tryz.prog 82 A51:=factOk_ok (ex_ok iEn_ok mixed .nil 600) (by kernel_rfl)
noncomputable def A52:Fact:=⟨[.ag [.sl (some (0,0)) 6 none,z 4,z 36],z 6],[.grow 3 1 [z 0,z 0,z 3,z 13,z 23,z 33]],.sl (some (1,0)) 6 (some 6),[.grow 3 1 [z 0,z 0,z 3,z 13,z 23,z 33],.cells 3 [z 0,z 0,z 3,z 13,z 23,z 33]]⟩
theorem k52:FactOk Tryz.prog 82 A52:=factOk_ok (ex_ok iEn_ok mixed .nil 600) (by kernel_rfl)
noncomputable def A53:Fact:=⟨[.f 221 [] [.p (some (0,0))],z 0,z 4,z 4],[.cells 22 [.sl (some (1,0)) 4 (some 4)],.cells 3 [z 4,z 4,z 4,z 5]],.tu [.ag [.sl (some (2,0)) 4 none,z 4,z 4],z 0],[.cells 22 [.sl (some (1,0)) 4 (some 4)],.cells 3 [z 4,z 4,z 4,z 5],.grow 3 1 [z 4,z 4,z 4,z 5]]⟩
theorem k53:FactOk Tryz.prog 144 A53:=factOk_ok (ex_ok iEn_ok mixed .nil 600) (by kernel_rfl)
noncomputable def A54:Fact:=⟨[.ag [.sl (some (0,0)) 4 none,z 4,z 4,.sl (some (1,0)) 6 none,z 4,z 36,z 6,.b false]],[.grow 3 1 [z 0,z 4,z 4,z 4],.grow 3 1 [z 0,z 0,z 3,z 13,z 23,z 33]],.tu [.ag [.sl (some (2,0)) 4 none,z 4,z 4],z 0],[.grow 3 1 [z 0,z 4,z 4,z 4],.grow 3 1 [z 0,z 0,z 3,z 13,z 23,z 33],.grow 3 1 [z 4,z 4,z 4,z 5]]⟩
theorem k54:FactOk Tryz.prog 216 A54:=factOk_ok (ex_ok iEn_ok mixed (.add k51 (.add k52 (.add k53 .nil))) 600) (by kernel_rfl)
noncomputable def A55:Fact:=⟨[.f 185 [] [.p (some (0,0))],z 0,z 4,z 4],[.cells 37 [.sl (some (1,0)) 4 none,z 4,z 4],.grow 3 1 [z 4,z 4,z 4,z 5]],.tu [.ag [.sl (some (2,0)) 4 none,z 4,z 4],z 0],[.cells 37 [.sl (some (1,0)) 4 none,z 4,z 4],.grow 3 1 [z 4,z 4,z 4,z 5],.grow 3 1 [z 4,z 4,z 4,z 5]]⟩
theorem k55:FactOk Tryz.prog 144 A55:=factOk_ok (ex_ok iEn_ok mixed .nil 600) (by kernel_rfl)
noncomputable def A56:Fact:=⟨[.ag [.sl (some (0,0)) 4 none,z 4,z 4]],[.grow 3 1 [z 4,z 4,z 4,z 5]],.tu [.ag [.sl (some (1,0)) 4 none,z 4,z 4],z 0],[.grow 3 1 [z 4,z 4,z 4,z 5],.grow 3 1 [z 4,z 4,z 4,z 5]]⟩
theorem k56:FactOk Tryz.prog 141 A56:=factOk_ok (ex_ok iEn_ok mixed (.add k55 .nil) 600) (by kernel_rfl)
noncomputable def A57:Fact:=⟨[.f 214 [] [.p (some (0,0)),.p (some (1,0))],z 1,z 4,z 4],[.cells 37 [.sl (some (2,0)) 4 none,z 4,z 4],.cells 3 [z 0],.grow 3 1 [z 4,z 4,z 4,z 5]],.tu [.ag [.sl (some (3,0)) 5 none,z 4,z 4],z 0],[.cells 37 [.sl (some (2,0)) 4 none,z 4,z 4],.cells 3 [z 0],.grow 3 1 [z 4,z 4,z 4,z 5],.grow 3 1 [z 0,z 4,z 4,z 5,z 8]]⟩
theorem k57:FactOk Tryz.prog 144 A57:=factOk_ok (ex_ok iEn_ok mixed .nil 600) (by kernel_rfl)
noncomputable def A58:Fact:=⟨[.ag [.sl (some (0,0)) 4 none,z 4,z 4],z 0],[.grow 3 1 [z 4,z 4,z 4,z 5]],.tu [.ag [.sl (some (1,0)) 5 none,z 4,z 4],z 0],[.grow 3 1 [z 4,z 4,z 4,z 5],.grow 3 1 [z 0,z 4,z 4,z 5,z 8]]⟩
theorem k58:FactOk Tryz.prog 193 A58:=factOk_ok (ex_ok iEn_ok mixed (.add k56 (.add k57 .nil)) 600) (by kernel_rfl)
noncomputable def A59:Fact:=⟨[.ag [.sl (some (0,0)) 2 (some 2),.sl (some (1,0)) 2 (some 2),.sl (some (2,0)) 2 (some 2)],.sl (some (3,0)) 2 (some 2),z 1,z 0],[.cells 9 [.s ⟨#[97]⟩,.s ⟨#[98]⟩],O0,O2,O3,.cells 3 [z 0,z 1],.grow 3 1 [z 0,z 4,z 4,z 4,z 4],.cells 3 [z 1,z 0],.cells 3 [z 0],.cells 3 [z 0]],.tu [.ag [.sl (some (9,0)) 5 none,z 4,z 4],z 0],[.cells 9 [.s ⟨#[97]⟩,.s ⟨#[98]⟩],O0,O2,O3,.cells 3 [z 0,z 1],.grow 3 1 [z 0,z 4,z 4,z 4,z 4],.cells 3 [z 1,z 0],.cells 3 [z 0],.cells 3 [z 0],.grow 3 1 [z 0,z 4,z 4,z 5,z 8]]⟩
theorem k59:FactOk Tryz.prog 151 A59:=factOk_ok (ex_ok iEn_ok mixed (.add k34 (.add k43 (.add k47 (.add k50 (.add k54 (.add k58 .nil)))))) 600) (by kernel_rfl)
noncomputable def A60:Fact:=⟨[.f 185 [] [.p (some (0,0))],z 1,z 4,z 4],[.cells 37 [.sl (some (1,0)) 5 none,z 4,z 4],.grow 3 1 [z 0,z 4,z 4,z 5,z 8]],.tu [.ag [.sl (some (2,0)) 5 none,z 4,z 4],z 0],[.cells 37 [.sl (some (1,0)) 5 none,z 4,z 4],.grow 3 1 [z 0,z 4,z 4,z 5,z 8],.grow 3 1 [z 0,z 4,z 4,z 5,z 8]]⟩
theorem k60:FactOk Tryz.prog 144 A60:=factOk_ok (ex_ok iEn_ok mixed .nil 600) (by kernel_rfl)
noncomputable def A61:Fact:=⟨[.ag [.sl (some (0,0)) 5 none,z 4,z 4]],[.grow 3 1 [z 0,z 4,z 4,z 5,z 8]],.tu [.ag [.sl (some (1,0)) 5 none,z 4,z 4],z 0],[.grow 3 1 [z 0,z 4,z 4,z 5,z 8],.grow 3 1 [z 0,z 4,z 4,z 5,z 8]]⟩
theorem k61:FactOk Tryz.prog 141 A61:=factOk_ok (ex_ok iEn_ok mixed (.add k60 .nil) 600) (by kernel_rfl)
noncomputable def A62:Fact:=⟨[.f 217 [] [.p (some (0,0)),.p (some (1,0)),.p (some (2,0))],z 1,z 4,z 4],[.cells 70 [.f 196 [] []],.cells 37 [.sl (some (3,0)) 4 none,z 4,z 4],.cells 37 [.sl (some (4,0)) 5 none,z 4,z 4],.grow 3 1 [z 0,z 4,z 4,z 4],.grow 3 1 [z 0,z 4,z 4,z 5,z 8]],.tu [.ag [.sl (some (5,0)) 4 none,z 4,z 4],z 0],[.cells 70 [.f 196 [] []],.cells 37 [.sl (some (3,0)) 4 none,z 4,z 4],.cells 37 [.sl (some (4,0)) 5 none,z 4,z 4],.grow 3 1 [z 0,z 4,z 4,z 4],.grow 3 1 [z 0,z 4,z 4,z 5,z 8],.grow 3 1 [z 0,z 4,z 4,z 4]]⟩
theorem k62:FactOk Tryz.prog 144 A62:=factOk_ok (ex_ok iEn_ok mixed .nil 600) (by kernel_rfl)
noncomputable def A63:Fact:=⟨[.ag [.sl (some (0,0)) 4 none,z 4,z 4],.ag [.sl (some (1,0)) 5 none,z 4,z 4],.f 196 [] [],.f 197 [] []],[.grow 3 1 [z 0,z 4,z 4,z 4],.grow 3 1 [z 0,z 4,z 4,z 5,z 8]],.tu [.ag [.sl (some (2,0)) 4 none,z 4,z 4],z 0],[.grow 3 1 [z 0,z 4,z 4,z 4],.grow 3 1 [z 0,z 4,z 4,z 5,z 8],.grow 3 1 [z 0,z 4,z 4,z 4]]⟩
theorem k63:FactOk Tryz.prog 195 A63:=factOk_ok (ex_ok iEn_ok mixed (.add k15 (.add k61 (.add k62 .nil))) 600) (by kernel_rfl)
noncomputable def A64:Fact:=⟨[.ag [z 1,z 10,z 1,.sl none 0 (some 0),.sl none 0 (some 0)],z 0,.sl (some (0,0)) 1 none,.sl (some (1,0)) 1 (some 1)],[.grow 37 3 [.sl (some (2,0)) 4 none,z 4,z 8],.cells 35 [z 1,z 4],.grow 3 1 [z 0,z 8,z 8,z 8]],.tu [.ag [.b false,z 0,z 0],z 0],[.grow 37 3 [.sl (some (2,0)) 4 none,z 4,z 8],.cells 35 [z 1,z 4],.grow 3 1 [z 0,z 8,z 8,z 8]]⟩
theorem k64:FactOk Tryz.prog 88 A64:=factOk_ok (ex_ok iEn_ok mixed (.add k1 (.add k21 (.add k26 (.add k29 .nil)))) 600) (by kernel_rfl)
noncomputable def A65:Fact:=⟨[.ag [.sl (some (0,0)) 2 (some 2),.sl (some (1,0)) 2 (some 2),.sl (some (2,0)) 2 (some 2)],.sl (some (3,0)) 2 (some 2),z 0,z 0,z 1],[.cells 9 [.s ⟨#[97]⟩,.s ⟨#[98]⟩],O0,O2,O3,.cells 3 [z 0,z 1],.grow 3 1 [z 0,z 4,z 4,z 4,z 4],.cells 3 [z 1,z 0],.cells 3 [z 0],.cells 3 [z 0]],.tu [.ag [.sl (some (9,0)) 4 none,z 4,z 36],z 0],[.cells 9 [.s ⟨#[97]⟩,.s ⟨#[98]⟩],O0,O2,O3,.cells 3 [z 0,z 1],.grow 3 1 [z 0,z 4,z 4,z 4,z 4],.cells 3 [z 1,z 0],.cells 3 [z 0],.cells 3 [z 0],.grow 3 1 [z 0,z 6,z 16,z 26]]⟩
theorem k65:FactOk Tryz.prog 114 A65:=factOk_ok (ex_ok iEn_ok mixed (.add k4 (.add k6 (.add k5 (.add k18 (.add k17 (.add k42 .nil)))))) 600) (by kernel_rfl)
noncomputable def A66:Fact:=⟨[.ag [.sl (some (0,0)) 2 (some 2),.sl (some (1,0)) 2 (some 2),.sl (some (2,0)) 2 (some 2)],.sl (some (3,0)) 2 (some 2),z 0,z 0],[.cells 9 [.s ⟨#[97]⟩,.s ⟨#[98]⟩],O0,O2,O3,.cells 3 [z 0,z 1],.grow 3 1 [z 0,z 4,z 4,z 4,z 4],.cells 3 [z 1,z 0],.cells 3 [z 0],.cells 3 [z 0]],.tu [.ag [.sl (some (9,0)) 5 none,z 4,z 4],z 0],[.cells 9 [.s ⟨#[97]⟩,.s ⟨#[98]⟩],O0,O2,O3,.cells 3 [z 0,z 1],.grow 3 1 [z 0,z 4,z 4,z 4,z 4],.cells 3 [z 1,z 0],.cells 3 [z 0],.cells 3 [z 0],.grow 3 1 [z 0,z 4,z 4,z 5,z 8]]⟩
theorem k66:FactOk Tryz.prog 151 A66:=factOk_ok (ex_ok iEn_ok mixed (.add k11 (.add k65 (.add k47 (.add k50 (.add k54 (.add k58 .nil)))))) 600) (by kernel_rfl)
noncomputable def O7:HO:=.cells 22 [.sl (some (10,0)) 1 none,.sl (some (11,0)) 1 none]
noncomputable def A67:Fact:=⟨[.ag [.sl (some (0,0)) 2 (some 2),.sl (some (1,0)) 2 (some 2),.sl (some (2,0)) 2 (some 2)],.sl (some (3,0)) 2 (some 2)],[.cells 9 [.s ⟨#[97]⟩,.s ⟨#[98]⟩],O0,O2,O3,.cells 3 [z 0,z 1],.grow 3 1 [z 0,z 4,z 4,z 4,z 4],.cells 3 [z 1,z 0],.cells 3 [z 0],.cells 3 [z 0]],.sl (some (9,0)) 2 (some 2),[.cells 9 [.s ⟨#[97]⟩,.s ⟨#[98]⟩],O0,O2,O3,.cells 3 [z 0,z 1],.grow 3 1 [z 0,z 4,z 4,z 4,z 4],.cells 3 [z 1,z 0],.cells 3 [z 0],.cells 3 [z 0],O7,.grow 3 1 [z 0],.grow 3 1 [z 0]]⟩
theorem k67:FactOk Tryz.prog 59 A67:=factOk_ok (ex_ok iEn_ok mixed (.add k6 (.add k11 (.add k17 (.add k18 (.add k59 (.add k63 (.add k20 (.add k3 (.add k64 (.add k32 (.add k33 (.add k66 (.add k34 .nil))))))))))))) 600) (by kernel_rfl)
noncomputable def A68:Fact:=⟨[.ag [.sl (some (0,0)) 2 (some 2),.sl (some (1,0)) 2 (some 2),.sl (some (2,0)) 2 (some 2)],.sl (some (3,0)) 2 (some 2),z 0],[.cells 9 [.s ⟨#[97]⟩,.s ⟨#[98]⟩],O0,O2,O3,.cells 3 [z 0,z 1],.grow 3 1 [z 0,z 4,z 4,z 4,z 4],.cells 3 [z 1,z 0],.cells 3 [z 0],.cells 3 [z 0]],.tu [z 1,.b true],[.cells 9 [.s ⟨#[97]⟩,.s ⟨#[98]⟩],O0,O2,O3,.cells 3 [z 0,z 1],.grow 3 1 [z 0,z 4,z 4,z 4,z 4],.cells 3 [z 1,z 0],.cells 3 [z 0],.cells 3 [z 0]]⟩
theorem k68:FactOk Tryz.prog 83 A68:=factOk_ok (ex_ok iEn_ok mixed (.add k4 .nil) 600) (by kernel_rfl)
noncomputable def A69:Fact:=⟨[.sl (some (0,0)) 3 (some 3)],[.cells 3 [z 0,z 1,z 1]],.sl (some (0,0)) 2 (some 3),[.cells 3 [z 0,z 1,z 0]]⟩
theorem k69:FactOk Tryz.prog 138 A69:=factOk_ok (ex_ok iEn_ok mixed .nil 600) (by kernel_rfl)
noncomputable def A70:Fact:=⟨[.ag [.sl (some (0,0)) 2 (some 2),.sl (some (1,0)) 2 (some 2),.sl (some (2,0)) 2 (some 2)],.sl (some (3,0)) 2 (some 2),z 0,z 0],[.cells 9 [.s ⟨#[97]⟩,.s ⟨#[98]⟩],O0,O2,O3,.cells 3 [z 0,z 1],.grow 3 1 [z 0,z 4,z 4,z 4,z 4],.cells 3 [z 1,z 0],.cells 3 [z 0],.cells 3 [z 0]],.tu [.sl (some (9,0)) 2 (some 3),z 0],[.cells 9 [.s ⟨#[97]⟩,.s ⟨#[98]⟩],O0,O2,O3,.cells 3 [z 0,z 1],.grow 3 1 [z 0,z 4,z 4,z 4,z 4],.cells 3 [z 1,z 0],.cells 3 [z 0],.cells 3 [z 0],.cells 3 [z 0,z 1,z 0]]⟩
theorem k70:FactOk Tryz.prog 113 A70:=factOk_ok (ex_ok iEn_ok mixed (.add k4 (.add k69 .nil)) 600) (by kernel_rfl)
noncomputable def A71:Fact:=⟨[.ag [.sl (some (0,0)) 2 (some 2),.sl (some (1,0)) 2 (some 2),.sl (some (2,0)) 2 (some 2)],.sl (some (3,0)) 2 (some 2),z 0,z 0,z 0],[.cells 9 [.s ⟨#[97]⟩,.s ⟨#[98]⟩],O0,O2,O3,.cells 3 [z 0,z 1],.grow 3 1 [z 0,z 4,z 4,z 4,z 4],.cells 3 [z 1,z 0],.cells 3 [z 0],.cells 3 [z 0]],.tu [.ag [.sl (some (9,0)) 2 (some 2),z 1,z 0],z 0],[.cells 9 [.s ⟨#[97]⟩,.s ⟨#[98]⟩],O0,O2,O3,.cells 3 [z 0,z 1],.grow 3 1 [z 0,z 4,z 4,z 4,z 4],.cells 3 [z 1,z 0],.cells 3 [z 0],.cells 3 [z 0],.cells 3 [z 0,z 4611686018427387904]]⟩
theorem k71:FactOk Tryz.prog 114 A71:=factOk_ok (ex_ok iEn_ok mixed (.add k4 .nil) 600) (by kernel_rfl)
noncomputable def A72:Fact:=⟨[.f 185 [] [.p (some (0,0))],z 1,z 1,z 0],[.cells 37 [.sl (some (1,0)) 2 none,z 1,z 0],.grow 3 1 [z 0,z 4611686018427387904]],.tu [.ag [.sl (some (2,0)) 2 none,z 1,z 0],z 0],[.cells 37 [.sl (some (1,0)) 2 none,z 1,z 0],.grow 3 1 [z 0,z 4611686018427387904],.grow 3 1 [z 0,z 4611686018427387904]]⟩
theorem k72:FactOk Tryz.prog 144 A72:=factOk_ok (ex_ok iEn_ok mixed .nil 600) (by kernel_rfl)
noncomputable def A73:Fact:=⟨[.ag [.sl (some (0,0)) 2 (some 2),z 1,z 0]],[.cells 3 [z 0,z 4611686018427387904]],.tu [.ag [.sl (some (1,0)) 2 none,z 1,z 0],z 0],[.cells 3 [z 0,z 4611686018427387904],.grow 3 1 [z 0,z 4611686018427387904]]⟩
theorem k73:FactOk Tryz.prog 141 A73:=factOk_ok (ex_ok iEn_ok mixed (.add k72 .nil) 600) (by kernel_rfl)
noncomputable def A74:Fact:=⟨[.f 142 [] [.p (some (0,0)),.p (some (1,0))],z 2,z 1,z 0],[.cells 37 [.sl (some (2,0)) 2 none,z 1,z 0],.cells 3 [z 4],.grow 3 1 [z 0,z 4611686018427387904]],.tu [.ag [.sl (some (3,0)) 3 none,z 1,z 0],z 0],[.cells 37 [.sl (some (2,0)) 2 none,z 1,z 0],.cells 3 [z 4],.grow 3 1 [z 0,z 4611686018427387904],.grow 3 1 [z 0,z 0,z 4611686018427387904]]⟩
theorem k74:FactOk Tryz.prog 144 A74:=factOk_ok (ex_ok iEn_ok mixed .nil 600) (by kernel_rfl)
noncomputable def A75:Fact:=⟨[.ag [.sl (some (0,0)) 2 (some 2),z 1,z 0],z 4],[.cells 3 [z 0,z 4611686018427387904]],.tu [.ag [.sl (some (1,0)) 3 none,z 1,z 0],z 0],[.cells 3 [z 0,z 4611686018427387904],.grow 3 1 [z 0,z 0,z 4611686018427387904]]⟩
theorem k75:FactOk Tryz.prog 115 A75:=factOk_ok (ex_ok iEn_ok mixed (.add k73 (.add k74 .nil)) 600) (by kernel_rfl)
noncomputable def A76:Fact:=⟨[.ag [.sl (some (0,0)) 2 (some 2),.sl (some (1,0)) 2 (some 2),.sl (some (2,0)) 2 (some 2)],.sl (some (3,0)) 2 (some 2),z 0,z 1],[.cells 9 [.s ⟨#[97]⟩,.s ⟨#[98]⟩],O0,O2,O3,.cells 3 [z 0,z 1],.grow 3 1 [z 0,z 4,z 4,z 4,z 4],.cells 3 [z 1,z 0],.cells 3 [z 0],.cells 3 [z 0]],.tu [.sl (some (9,0)) 2 (some 3),z 0],[.cells 9 [.s ⟨#[97]⟩,.s ⟨#[98]⟩],O0,O2,O3,.cells 3 [z 0,z 1],.grow 3 1 [z 0,z 4,z 4,z 4,z 4],.cells 3 [z 1,z 0],.cells 3 [z 0],.cells 3 [z 0],.cells 3 [z 0,z 1,z 0]]⟩
theorem k76:FactOk Tryz.prog 113 A76:=factOk_ok (ex_ok iEn_ok mixed (.add k4 (.add k69 .nil)) 600) (by kernel_rfl)
noncomputable def A77:Fact:=⟨[.ag [.sl (some (0,0)) 2 (some 2),.sl (some (1,0)) 2 (some 2),.sl (some (2,0)) 2 (some 2)],.sl (some (3,0)) 2 (some 2),z 0,z 1,z 0],[.cells 9 [.s ⟨#[97]⟩,.s ⟨#[98]⟩],O0,O2,O3,.cells 3 [z 0,z 1],.grow 3 1 [z 0,z 4,z 4,z 4,z 4],.cells 3 [z 1,z 0],.cells 3 [z 0],.cells 3 [z 0]],.tu [.ag [.sl (some (9,0)) 2 (some 2),z 1,z 0],z 0],[.cells 9 [.s ⟨#[97]⟩,.s ⟨#[98]⟩],O0,O2,O3,.cells 3 [z 0,z 1],.grow 3 1 [z 0,z 4,z 4,z 4,z 4],.cells 3 [z 1,z 0],.cells 3 [z 0],.cells 3 [z 0],.cells 3 [z 0,z 4611686018427387904]]⟩
theorem k77:FactOk Tryz.prog 114 A77:=factOk_ok (ex_ok iEn_ok mixed (.add k4 .nil) 600) (by kernel_rfl)
noncomputable def A78:Fact:=⟨[.f 185 [] [.p (some (0,0))],z 2,z 1,z 0],[.cells 37 [.sl (some (1,0)) 3 none,z 1,z 0],.grow 3 1 [z 0,z 0,z 4611686018427387904]],.tu [.ag [.sl (some (2,0)) 3 none,z 1,z 0],z 0],[.cells 37 [.sl (some (1,0)) 3 none,z 1,z 0],.grow 3 1 [z 0,z 0,z 4611686018427387904],.grow 3 1 [z 0,z 0,z 4611686018427387904]]⟩
theorem k78:FactOk Tryz.prog 144 A78:=factOk_ok (ex_ok iEn_ok mixed .nil 600) (by kernel_rfl)
noncomputable def A79:Fact:=⟨[.ag [.sl (some (0,0)) 3 none,z 1,z 0]],[.grow 3 1 [z 0,z 0,z 4611686018427387904]],.tu [.ag [.sl (some (1,0)) 3 none,z 1,z 0],z 0],[.grow 3 1 [z 0,z 0,z 4611686018427387904],.grow 3 1 [z 0,z 0,z 4611686018427387904]]⟩
theorem k79:FactOk Tryz.prog 141 A79:=factOk_ok (ex_ok iEn_ok mixed (.add k78 .nil) 600) (by kernel_rfl)
noncomputable def A80:Fact:=⟨[.ag [.sl (some (0,0)) 3 none,z 1,z 0],.ag [.sl (some (1,0)) 2 (some 2),z 1,z 0]],[.grow 3 1 [z 0,z 0,z 4611686018427387904],.cells 3 [z 0,z 4611686018427387904]],.tu [.ag [.sl (some (2,0)) 3 none,z 1,z 0,.sl (some (3,0)) 2 none,z 1,z 0,z 1],z 0],[.grow 3 1 [z 0,z 0,z 4611686018427387904],.cells 3 [z 0,z 4611686018427387904],.grow 3 1 [z 0,z 0,z 4611686018427387904],.grow 3 1 [z 0,z 4611686018427387904]]⟩
theorem k80:FactOk Tryz.prog 145 A80:=factOk_ok (ex_ok iEn_ok mixed (.add k79 (.add k73 .nil)) 600) (by kernel_rfl)
noncomputable def O8:HO:=.cells 3 [z 0,z 4611686018427387904,z 4611686018427387904,z 4611686018427387904,z 4611686018427387904]
noncomputable def A81:Fact:=⟨[.ag [.sl (some (0,0)) 2 none,z 1,z 0],z 5],[.grow 3 1 [z 0,z 4611686018427387904]],.sl (some (1,0)) 5 (some 5),[.grow 3 1 [z 0,z 4611686018427387904],O8]⟩
theorem k81:FactOk Tryz.prog 82 A81:=factOk_ok (ex_ok iEn_ok mixed .nil 600) (by kernel_rfl)
noncomputable def O9:HO:=.cells 3 [z 0,z 0,z 4611686018427387904,z 4611686018427387904,z 4611686018427387904]
noncomputable def A82:Fact:=⟨[.ag [.sl (some (0,0)) 3 none,z 1,z 0],z 5],[.grow 3 1 [z 0,z 0,z 4611686018427387904]],.sl (some (1,0)) 5 (some 5),[.grow 3 1 [z 0,z 0,z 4611686018427387904],O9]⟩
theorem k82:FactOk Tryz.prog 82 A82:=factOk_ok (ex_ok iEn_ok mixed .nil 600) (by kernel_rfl)
noncomputable def A83:Fact:=⟨[.f 190 [] [.p (some (0,0))],z 4,z 1,z 0],[.cells 22 [.sl (some (1,0)) 5 (some 5)],O9],.tu [.ag [.sl (some (2,0)) 3 none,z 1,z 0],z 0],[.cells 22 [.sl (some (1,0)) 5 (some 5)],O9,.grow 3 1 [z 0,z 0,z 4611686018427387904]]⟩
theorem k83:FactOk Tryz.prog 144 A83:=factOk_ok (ex_ok iEn_ok mixed .nil 600) (by kernel_rfl)
noncomputable def A84:Fact:=⟨[.ag [.sl (some (0,0)) 3 none,z 1,z 0,.sl (some (1,0)) 2 none,z 1,z 0,z 1]],[.grow 3 1 [z 0,z 0,z 4611686018427387904],.grow 3 1 [z 0,z 4611686018427387904]],.tu [.ag [.sl (some (2,0)) 3 none,z 1,z 0],z 0],[.grow 3 1 [z 0,z 0,z 4611686018427387904],.grow 3 1 [z 0,z 4611686018427387904],.grow 3 1 [z 0,z 0,z 4611686018427387904]]⟩
theorem k84:FactOk Tryz.prog 146 A84:=factOk_ok (ex_ok iEn_ok mixed (.add k81 (.add k82 (.add k83 .nil))) 600) (by kernel_rfl)
noncomputable def A85:Fact:=⟨[.ag [.sl (some (0,0)) 3 none,z 1,z 0],.ag [.sl (some (1,0)) 2 (some 2),z 1,z 0]],[.grow 3 1 [z 0,z 0,z 4611686018427387904],.cells 3 [z 0,z 4611686018427387904]],.tu [.ag [.sl (some (2,0)) 3 none,z 1,z 0,z 4,.sl (some (3,0)) 5 (some 5)],z 0],[.grow 3 1 [z 0,z 0,z 4611686018427387904],.cells 3 [z 0,z 4611686018427387904],.grow 3 1 [z 0,z 0,z 4611686018427387904],.cells 3 [z 0,z 1,z 0,z 0,z 0]]⟩
theorem k85:FactOk Tryz.prog 116 A85:=factOk_ok (ex_ok iEn_ok mixed (.add k80 (.add k84 (.add k82 (.add k81 .nil)))) 600) (by kernel_rfl)
noncomputable def A86:Fact:=⟨[.ag [.sl (some (0,0)) 5 none,z 4,z 4],.ag [.sl (some (1,0)) 3 none,z 1,z 0]],[.grow 3 1 [z 0,z 4,z 4,z 4,z 4],.grow 3 1 [z 0,z 0,z 4611686018427387904]],.tu [.ag [.b false,z 1,z 1],z 0],[.grow 3 1 [z 0,z 4,z 4,z 4,z 4],.grow 3 1 [z 0,z 0,z 4611686018427387904]]⟩
theorem k86:FactOk Tryz.prog 110 A86:=factOk_ok (ex_ok iEn_ok mixed (.add k8 (.add k79 .nil)) 600) (by kernel_rfl)
end Go.Proofs.YtehaepbflkncdaaGreat.I
namespace Go.Proofs.YtehaepbflkncdaaGreat.I
open Go Go.RowKit Go.Proofs.YtehaepbflkncdaaGreat.K
set_option maxRecDepth 1000000
noncomputable def A87:Fact:=⟨[.ag [.sl (some (0,0)) 2 (some 2),.sl (some (1,0)) 2 (some 2),.sl (some (2,0)) 2 (some 2)],.sl (some (3,0)) 2 (some 2),z 0,z 1,z 1],[.cells 9 [.s ⟨#[97]⟩,.s ⟨#[98]⟩],O0,O2,O3,.cells 3 [z 0,z 1],.grow 3 1 [z 0,z 4,z 4,z 4,z 4],.cells 3 [z 1,z 0],.cells 3 [z 0],.cells 3 [z 0]],.tu [.ag [.sl (some (9,0)) 4 none,z 4,z 36],z 0],[.cells 9 [.s ⟨#[97]⟩,.s ⟨#[98]⟩],O0,O2,O3,.cells 3 [z 0,z 1],.grow 3 1 [z 0,z 4,z 4,z 4,z 4],.cells 3 [z 1,z 0],.cells 3 [z 0],.cells 3 [z 0],.grow 3 1 [z 0,z 6,z 16,z 26]]⟩
theorem k87:FactOk Tryz.prog 114 A87:=factOk_ok (ex_ok iEn_ok mixed (.add k4 (.add k32 (.add k31 (.add k34 (.add k17 (.add k42 .nil)))))) 600) (by kernel_rfl)
noncomputable def A88:Fact:=⟨[.ag [.sl (some (0,0)) 3 none,z 1,z 0],.ag [.sl (some (1,0)) 4 none,z 4,z 36]],[.grow 3 1 [z 0,z 0,z 4611686018427387904],.grow 3 1 [z 0,z 6,z 16,z 26]],.tu [.ag [.sl (some (2,0)) 3 none,z 1,z 0,.sl (some (3,0)) 4 none,z 4,z 36,z 4],z 0],[.grow 3 1 [z 0,z 0,z 4611686018427387904],.grow 3 1 [z 0,z 6,z 16,z 26],.grow 3 1 [z 0,z 0,z 4611686018427387904],.grow 3 1 [z 0,z 6,z 16,z 26]]⟩
theorem k88:FactOk Tryz.prog 145 A88:=factOk_ok (ex_ok iEn_ok mixed (.add k79 (.add k45 .nil)) 600) (by kernel_rfl)
noncomputable def O10:HO:=.cells 3 [z 0,z 6,z 16,z 26,z 36,z 42,z 52,z 62,z 72,z 78]
noncomputable def A89:Fact:=⟨[.ag [.sl (some (0,0)) 4 none,z 4,z 36],z 10],[.grow 3 1 [z 0,z 6,z 16,z 26]],.sl (some (1,0)) 10 (some 10),[.grow 3 1 [z 0,z 6,z 16,z 26],O10]⟩
theorem k89:FactOk Tryz.prog 82 A89:=factOk_ok (ex_ok iEn_ok mixed .nil 600) (by kernel_rfl)
noncomputable def O11:HO:=.cells 3 [z 0,z 0,z 4611686018427387904,z 4611686018427387904,z 4611686018427387904,z 4611686018427387904,z 4611686018427387904,z 4611686018427387904,z 4611686018427387904,z 4611686018427387904]
noncomputable def A90:Fact:=⟨[.ag [.sl (some (0,0)) 3 none,z 1,z 0],z 10],[.grow 3 1 [z 0,z 0,z 4611686018427387904]],.sl (some (1,0)) 10 (some 10),[.grow 3 1 [z 0,z 0,z 4611686018427387904],O11]⟩
theorem k90:FactOk Tryz.prog 82 A90:=factOk_ok (ex_ok iEn_ok mixed .nil 600) (by kernel_rfl)
noncomputable def O12:HO:=.cells 3 [z 0,z 0,z 6,z 16,z 26,z 36,z 42,z 52,z 62,z 72]
noncomputable def A91:Fact:=⟨[.f 190 [] [.p (some (0,0))],z 6,z 4,z 36],[.cells 22 [.sl (some (1,0)) 10 (some 10)],O12],.tu [.ag [.sl (some (2,0)) 5 none,z 4,z 36],z 0],[.cells 22 [.sl (some (1,0)) 10 (some 10)],O12,.grow 3 1 [z 0,z 0,z 6,z 16,z 26]]⟩
theorem k91:FactOk Tryz.prog 144 A91:=factOk_ok (ex_ok iEn_ok mixed .nil 600) (by kernel_rfl)
noncomputable def A92:Fact:=⟨[.ag [.sl (some (0,0)) 3 none,z 1,z 0,.sl (some (1,0)) 4 none,z 4,z 36,z 4]],[.grow 3 1 [z 0,z 0,z 4611686018427387904],.grow 3 1 [z 0,z 6,z 16,z 26]],.tu [.ag [.sl (some (2,0)) 5 none,z 4,z 36],z 0],[.grow 3 1 [z 0,z 0,z 4611686018427387904],.grow 3 1 [z 0,z 6,z 16,z 26],.grow 3 1 [z 0,z 0,z 6,z 16,z 26]]⟩
theorem k92:FactOk Tryz.prog 146 A92:=factOk_ok (ex_ok iEn_ok mixed (.add k89 (.add k90 (.add k91 .nil))) 600) (by kernel_rfl)
noncomputable def A93:Fact:=⟨[.ag [.sl (some (0,0)) 3 none,z 1,z 0],.ag [.sl (some (1,0)) 4 none,z 4,z 36]],[.grow 3 1 [z 0,z 0,z 4611686018427387904],.grow 3 1 [z 0,z 6,z 16,z 26]],.tu [.ag [.sl (some (2,0)) 5 none,z 4,z 36,z 6,.sl (some (3,0)) 10 (some 10)],z 0],[.grow 3 1 [z 0,z 0,z 4611686018427387904],.grow 3 1 [z 0,z 6,z 16,z 26],.grow 3 1 [z 0,z 0,z 6,z 16,z 26],.cells 3 [z 0,z 1,z 1,z 1,z 1,z 1,z 1,z 1,z 1,z 1]]⟩
theorem k93:FactOk Tryz.prog 116 A93:=factOk_ok (ex_ok iEn_ok mixed (.add k88 (.add k92 (.add k90 (.add k89 .nil)))) 600) (by kernel_rfl)
noncomputable def A94:Fact:=⟨[.f 185 [] [.p (some (0,0))],z 1,z 4,z 36],[.cells 37 [.sl (some (1,0)) 5 none,z 4,z 36],.grow 3 1 [z 0,z 0,z 6,z 16,z 26]],.tu [.ag [.sl (some (2,0)) 5 none,z 4,z 36],z 0],[.cells 37 [.sl (some (1,0)) 5 none,z 4,z 36],.grow 3 1 [z 0,z 0,z 6,z 16,z 26],.grow 3 1 [z 0,z 0,z 6,z 16,z 26]]⟩
theorem k94:FactOk Tryz.prog 144 A94:=factOk_ok (ex_ok iEn_ok mixed .nil 600) (by kernel_rfl)
noncomputable def A95:Fact:=⟨[.ag [.sl (some (0,0)) 5 none,z 4,z 36]],[.grow 3 1 [z 0,z 0,z 6,z 16,z 26]],.tu [.ag [.sl (some (1,0)) 5 none,z 4,z 36],z 0],[.grow 3 1 [z 0,z 0,z 6,z 16,z 26],.grow 3 1 [z 0,z 0,z 6,z 16,z 26]]⟩
theorem k95:FactOk Tryz.prog 141 A95:=factOk_ok (ex_ok iEn_ok mixed (.add k94 .nil) 600) (by kernel_rfl)
noncomputable def A96:Fact:=⟨[.ag [.sl (some (0,0)) 5 none,z 4,z 4],.ag [.sl (some (1,0)) 5 none,z 4,z 36]],[.grow 3 1 [z 0,z 4,z 4,z 4,z 4],.grow 3 1 [z 0,z 0,z 6,z 16,z 26]],.tu [.ag [.b false,z 1,z 1],z 0],[.grow 3 1 [z 0,z 4,z 4,z 4,z 4],.grow 3 1 [z 0,z 0,z 6,z 16,z 26]]⟩
theorem k96:FactOk Tryz.prog 110 A96:=factOk_ok (ex_ok iEn_ok mixed (.add k8 (.add k95 .nil)) 600) (by kernel_rfl)
noncomputable def A97:Fact:=⟨[.ag [.sl (some (0,0)) 6 none,z 4,z 36],.ag [.sl (some (1,0)) 2 (some 2),z 1,z 0]],[.grow 3 1 [z 0,z 0,z 3,z 13,z 23,z 33],.cells 3 [z 0,z 4611686018427387904]],.tu [.ag [.sl (some (2,0)) 6 none,z 4,z 36,.sl (some (3,0)) 2 none,z 1,z 0,z 4],z 0],[.grow 3 1 [z 0,z 0,z 3,z 13,z 23,z 33],.cells 3 [z 0,z 4611686018427387904],.grow 3 1 [z 0,z 0,z 3,z 13,z 23,z 33],.grow 3 1 [z 0,z 4611686018427387904]]⟩
theorem k97:FactOk Tryz.prog 145 A97:=factOk_ok (ex_ok iEn_ok mixed (.add k49 (.add k73 .nil)) 600) (by kernel_rfl)
noncomputable def O13:HO:=.cells 3 [z 0,z 0,z 3,z 13,z 23,z 33,z 39,z 49,z 59,z 69,z 75]
noncomputable def A98:Fact:=⟨[.ag [.sl (some (0,0)) 6 none,z 4,z 36],z 11],[.grow 3 1 [z 0,z 0,z 3,z 13,z 23,z 33]],.sl (some (1,0)) 11 (some 11),[.grow 3 1 [z 0,z 0,z 3,z 13,z 23,z 33],O13]⟩
theorem k98:FactOk Tryz.prog 82 A98:=factOk_ok (ex_ok iEn_ok mixed .nil 600) (by kernel_rfl)
noncomputable def O14:HO:=.cells 3 [z 0,z 4611686018427387904,z 4611686018427387904,z 4611686018427387904,z 4611686018427387904,z 4611686018427387904,z 4611686018427387904,z 4611686018427387904,z 4611686018427387904,z 4611686018427387904,z 4611686018427387904]
noncomputable def A99:Fact:=⟨[.ag [.sl (some (0,0)) 2 none,z 1,z 0],z 11],[.grow 3 1 [z 0,z 4611686018427387904]],.sl (some (1,0)) 11 (some 11),[.grow 3 1 [z 0,z 4611686018427387904],O14]⟩
theorem k99:FactOk Tryz.prog 82 A99:=factOk_ok (ex_ok iEn_ok mixed .nil 600) (by kernel_rfl)
noncomputable def A100:Fact:=⟨[.f 190 [] [.p (some (0,0))],z 7,z 4,z 36],[.cells 22 [.sl (some (1,0)) 11 (some 11)],O13],.tu [.ag [.sl (some (2,0)) 6 none,z 4,z 36],z 0],[.cells 22 [.sl (some (1,0)) 11 (some 11)],O13,.grow 3 1 [z 0,z 0,z 3,z 13,z 23,z 33]]⟩
theorem k100:FactOk Tryz.prog 144 A100:=factOk_ok (ex_ok iEn_ok mixed .nil 600) (by kernel_rfl)
noncomputable def A101:Fact:=⟨[.ag [.sl (some (0,0)) 6 none,z 4,z 36,.sl (some (1,0)) 2 none,z 1,z 0,z 4]],[.grow 3 1 [z 0,z 0,z 3,z 13,z 23,z 33],.grow 3 1 [z 0,z 4611686018427387904]],.tu [.ag [.sl (some (2,0)) 6 none,z 4,z 36],z 0],[.grow 3 1 [z 0,z 0,z 3,z 13,z 23,z 33],.grow 3 1 [z 0,z 4611686018427387904],.grow 3 1 [z 0,z 0,z 3,z 13,z 23,z 33]]⟩
theorem k101:FactOk Tryz.prog 146 A101:=factOk_ok (ex_ok iEn_ok mixed (.add k98 (.add k99 (.add k100 .nil))) 600) (by kernel_rfl)
noncomputable def O15:HO:=.cells 3 [z 0,z 1,z 2,z 3,z 4,z 5,z 6,z 7,z 8,z 9,z 10]
noncomputable def A102:Fact:=⟨[.ag [.sl (some (0,0)) 6 none,z 4,z 36],.ag [.sl (some (1,0)) 2 (some 2),z 1,z 0]],[.grow 3 1 [z 0,z 0,z 3,z 13,z 23,z 33],.cells 3 [z 0,z 4611686018427387904]],.tu [.ag [.sl (some (2,0)) 6 none,z 4,z 36,z 7,.sl (some (3,0)) 11 (some 11)],z 0],[.grow 3 1 [z 0,z 0,z 3,z 13,z 23,z 33],.cells 3 [z 0,z 4611686018427387904],.grow 3 1 [z 0,z 0,z 3,z 13,z 23,z 33],O15]⟩
theorem k102:FactOk Tryz.prog 116 A102:=factOk_ok (ex_ok iEn_ok mixed (.add k97 (.add k101 (.add k98 (.add k99 .nil)))) 600) (by kernel_rfl)
noncomputable def A103:Fact:=⟨[.ag [.sl (some (0,0)) 5 none,z 4,z 4],.ag [.sl (some (1,0)) 6 none,z 4,z 36]],[.grow 3 1 [z 0,z 4,z 4,z 4,z 4],.grow 3 1 [z 0,z 0,z 3,z 13,z 23,z 33]],.tu [.ag [.b false,z 2,z 1],z 0],[.grow 3 1 [z 0,z 4,z 4,z 4,z 4],.grow 3 1 [z 0,z 0,z 3,z 13,z 23,z 33]]⟩
theorem k103:FactOk Tryz.prog 110 A103:=factOk_ok (ex_ok iEn_ok mixed (.add k8 (.add k49 .nil)) 600) (by kernel_rfl)
noncomputable def A104:Fact:=⟨[.ag [.sl (some (0,0)) 6 none,z 4,z 36],.ag [.sl (some (1,0)) 4 none,z 4,z 36]],[.grow 3 1 [z 0,z 0,z 3,z 13,z 23,z 33],.grow 3 1 [z 0,z 6,z 16,z 26]],.tu [.ag [.sl (some (2,0)) 6 none,z 4,z 36,.sl (some (3,0)) 4 none,z 4,z 36,z 4],z 0],[.grow 3 1 [z 0,z 0,z 3,z 13,z 23,z 33],.grow 3 1 [z 0,z 6,z 16,z 26],.grow 3 1 [z 0,z 0,z 3,z 13,z 23,z 33],.grow 3 1 [z 0,z 6,z 16,z 26]]⟩
theorem k104:FactOk Tryz.prog 145 A104:=factOk_ok (ex_ok iEn_ok mixed (.add k49 (.add k45 .nil)) 600) (by kernel_rfl)
noncomputable def O16:HO:=.cells 3 [z 0,z 0,z 3,z 13,z 23,z 33,z 39,z 49,z 59,z 69]
noncomputable def A105:Fact:=⟨[.ag [.sl (some (0,0)) 6 none,z 4,z 36],z 10],[.grow 3 1 [z 0,z 0,z 3,z 13,z 23,z 33]],.sl (some (1,0)) 10 (some 10),[.grow 3 1 [z 0,z 0,z 3,z 13,z 23,z 33],O16]⟩
theorem k105:FactOk Tryz.prog 82 A105:=factOk_ok (ex_ok iEn_ok mixed .nil 600) (by kernel_rfl)
noncomputable def O17:HO:=.cells 3 [z 0,z 0,z 3,z 9,z 19,z 29,z 39,z 45,z 55,z 65]
noncomputable def A106:Fact:=⟨[.f 190 [] [.p (some (0,0))],z 6,z 4,z 36],[.cells 22 [.sl (some (1,0)) 10 (some 10)],O17],.tu [.ag [.sl (some (2,0)) 6 none,z 4,z 36],z 0],[.cells 22 [.sl (some (1,0)) 10 (some 10)],O17,.grow 3 1 [z 0,z 0,z 3,z 9,z 19,z 29]]⟩
theorem k106:FactOk Tryz.prog 144 A106:=factOk_ok (ex_ok iEn_ok mixed .nil 600) (by kernel_rfl)
noncomputable def A107:Fact:=⟨[.ag [.sl (some (0,0)) 6 none,z 4,z 36,.sl (some (1,0)) 4 none,z 4,z 36,z 4]],[.grow 3 1 [z 0,z 0,z 3,z 13,z 23,z 33],.grow 3 1 [z 0,z 6,z 16,z 26]],.tu [.ag [.sl (some (2,0)) 6 none,z 4,z 36],z 0],[.grow 3 1 [z 0,z 0,z 3,z 13,z 23,z 33],.grow 3 1 [z 0,z 6,z 16,z 26],.grow 3 1 [z 0,z 0,z 3,z 9,z 19,z 29]]⟩
theorem k107:FactOk Tryz.prog 146 A107:=factOk_ok (ex_ok iEn_ok mixed (.add k105 (.add k89 (.add k106 .nil))) 600) (by kernel_rfl)
noncomputable def A108:Fact:=⟨[.ag [.sl (some (0,0)) 6 none,z 4,z 36],.ag [.sl (some (1,0)) 4 none,z 4,z 36]],[.grow 3 1 [z 0,z 0,z 3,z 13,z 23,z 33],.grow 3 1 [z 0,z 6,z 16,z 26]],.tu [.ag [.sl (some (2,0)) 6 none,z 4,z 36,z 6,.sl (some (3,0)) 10 (some 10)],z 0],[.grow 3 1 [z 0,z 0,z 3,z 13,z 23,z 33],.grow 3 1 [z 0,z 6,z 16,z 26],.grow 3 1 [z 0,z 0,z 3,z 9,z 19,z 29],.cells 3 [z 0,z 1,z 2,z 2,z 2,z 2,z 2,z 2,z 2,z 2]]⟩
theorem k108:FactOk Tryz.prog 116 A108:=factOk_ok (ex_ok iEn_ok mixed (.add k104 (.add k107 (.add k105 (.add k89 .nil)))) 600) (by kernel_rfl)
noncomputable def A109:Fact:=⟨[.f 185 [] [.p (some (0,0))],z 2,z 4,z 36],[.cells 37 [.sl (some (1,0)) 6 none,z 4,z 36],.grow 3 1 [z 0,z 0,z 3,z 9,z 19,z 29]],.tu [.ag [.sl (some (2,0)) 6 none,z 4,z 36],z 0],[.cells 37 [.sl (some (1,0)) 6 none,z 4,z 36],.grow 3 1 [z 0,z 0,z 3,z 9,z 19,z 29],.grow 3 1 [z 0,z 0,z 3,z 9,z 19,z 29]]⟩
theorem k109:FactOk Tryz.prog 144 A109:=factOk_ok (ex_ok iEn_ok mixed .nil 600) (by kernel_rfl)
noncomputable def A110:Fact:=⟨[.ag [.sl (some (0,0)) 6 none,z 4,z 36]],[.grow 3 1 [z 0,z 0,z 3,z 9,z 19,z 29]],.tu [.ag [.sl (some (1,0)) 6 none,z 4,z 36],z 0],[.grow 3 1 [z 0,z 0,z 3,z 9,z 19,z 29],.grow 3 1 [z 0,z 0,z 3,z 9,z 19,z 29]]⟩
theorem k110:FactOk Tryz.prog 141 A110:=factOk_ok (ex_ok iEn_ok mixed (.add k109 .nil) 600) (by kernel_rfl)
noncomputable def A111:Fact:=⟨[.ag [.sl (some (0,0)) 5 none,z 4,z 4],.ag [.sl (some (1,0)) 6 none,z 4,z 36]],[.grow 3 1 [z 0,z 4,z 4,z 4,z 4],.grow 3 1 [z 0,z 0,z 3,z 9,z 19,z 29]],.tu [.ag [.b false,z 2,z 1],z 0],[.grow 3 1 [z 0,z 4,z 4,z 4,z 4],.grow 3 1 [z 0,z 0,z 3,z 9,z 19,z 29]]⟩
theorem k111:FactOk Tryz.prog 110 A111:=factOk_ok (ex_ok iEn_ok mixed (.add k8 (.add k110 .nil)) 600) (by kernel_rfl)
noncomputable def O18:HO:=.cells 22 [.sl (some (7,0)) 1 none,.sl (some (8,0)) 1 none]
noncomputable def A112:Fact:=⟨[.ag [.sl (some (0,0)) 2 (some 2),.sl (some (1,0)) 2 (some 2),.sl (some (2,0)) 2 (some 2)],.sl (some (3,0)) 2 (some 2)],[.cells 9 [.s ⟨#[97]⟩,.s ⟨#[98]⟩],O0,O2,O18,.cells 3 [z 0,z 1],.grow 3 1 [z 0,z 4,z 4,z 4,z 4],.cells 3 [z 1,z 0],.grow 3 1 [z 0],.grow 3 1 [z 0]],.b true,[.cells 9 [.s ⟨#[97]⟩,.s ⟨#[98]⟩],O0,O2,O18,.cells 3 [z 0,z 1],.grow 3 1 [z 0,z 4,z 4,z 4,z 4],.cells 3 [z 1,z 0],.grow 3 1 [z 0],.grow 3 1 [z 0]]⟩
theorem k112:FactOk Tryz.prog 73 A112:=factOk_ok (ex_ok iEn_ok mixed (.add k3 .nil) 600) (by kernel_rfl)
noncomputable def A113:Fact:=⟨[.ag [.sl (some (0,0)) 2 (some 2),.sl (some (1,0)) 2 (some 2),.sl (some (2,0)) 2 (some 2)],.sl (some (3,0)) 2 (some 2),z 0],[.cells 9 [.s ⟨#[97]⟩,.s ⟨#[98]⟩],O0,O2,O18,.cells 3 [z 0,z 1],.grow 3 1 [z 0,z 4,z 4,z 4,z 4],.cells 3 [z 1,z 0],.grow 3 1 [z 0],.grow 3 1 [z 0]],.tu [z 1,.b true],[.cells 9 [.s ⟨#[97]⟩,.s ⟨#[98]⟩],O0,O2,O18,.cells 3 [z 0,z 1],.grow 3 1 [z 0,z 4,z 4,z 4,z 4],.cells 3 [z 1,z 0],.grow 3 1 [z 0],.grow 3 1 [z 0]]⟩
theorem k113:FactOk Tryz.prog 83 A113:=factOk_ok (ex_ok iEn_ok mixed (.add k112 .nil) 600) (by kernel_rfl)
noncomputable def O19:HO:=.cells 39 [.s ⟨#[102]⟩,.sl (some (5,0)) 2 (some 2),z 0,z 1,z 4,.sl (some (6,0)) 5 none,z 4,z 4,.s ⟨#[103]⟩,.sl (some (7,0)) 2 (some 2),z 0,z 1,z 4,.sl (some (6,0)) 5 none,z 4,z 4]
noncomputable def O20:HO:=.cells 22 [.sl (some (8,0)) 1 (some 1),.sl (some (9,0)) 1 (some 1)]
noncomputable def A114:Fact:=⟨[.ag [.sl (some (0,0)) 2 (some 2),.sl (some (1,0)) 2 (some 2),.sl (some (2,0)) 2 (some 2)],.sl (some (3,0)) 2 (some 2),.sl (some (4,0)) 2 (some 2),z 0],[.cells 9 [.s ⟨#[97]⟩,.s ⟨#[98]⟩],O0,O19,O20,O7,.cells 3 [z 0,z 1],.grow 3 1 [z 0,z 4,z 4,z 4,z 4],.cells 3 [z 1,z 0],.cells 3 [z 0],.cells 3 [z 0],.grow 3 1 [z 0],.grow 3 1 [z 0]],.ag [.b true,z 1,z 1,.sl none 0 (some 0),.sl none 0 (some 0)],[.cells 9 [.s ⟨#[97]⟩,.s ⟨#[98]⟩],O0,O19,O20,O7,.cells 3 [z 0,z 1],.grow 3 1 [z 0,z 4,z 4,z 4,z 4],.cells 3 [z 1,z 0],.cells 3 [z 0],.cells 3 [z 0],.grow 3 1 [z 0],.grow 3 1 [z 0]]⟩
theorem k114:FactOk Tryz.prog 58 A114:=factOk_ok (ex_ok iEn_ok mixed (.add k68 (.add k70 (.add k71 (.add k75 (.add k76 (.add k77 (.add k85 (.add k86 (.add k87 (.add k93 (.add k96 (.add k65 (.add k47 (.add k102 (.add k103 (.add k108 (.add k111 (.add k113 .nil)))))))))))))))))) 600) (by kernel_rfl)
noncomputable def A115:Fact:=⟨[.ag [.sl (some (0,0)) 2 (some 2),.sl (some (1,0)) 2 (some 2),.sl (some (2,0)) 2 (some 2)],.sl (some (3,0)) 2 (some 2),z 1],[.cells 9 [.s ⟨#[97]⟩,.s ⟨#[98]⟩],O0,O2,O3,.cells 3 [z 0,z 1],.grow 3 1 [z 0,z 4,z 4,z 4,z 4],.cells 3 [z 1,z 0],.cells 3 [z 0],.cells 3 [z 0]],.tu [z 1,.b true],[.cells 9 [.s ⟨#[97]⟩,.s ⟨#[98]⟩],O0,O2,O3,.cells 3 [z 0,z 1],.grow 3 1 [z 0,z 4,z 4,z 4,z 4],.cells 3 [z 1,z 0],.cells 3 [z 0],.cells 3 [z 0]]⟩
theorem k115:FactOk Tryz.prog 83 A115:=factOk_ok (ex_ok iEn_ok mixed (.add k4 .nil) 600) (by kernel_rfl)
noncomputable def A116:Fact:=⟨[.ag [.sl (some (0,0)) 2 (some 2),.sl (some (1,0)) 2 (some 2),.sl (some (2,0)) 2 (some 2)],.sl (some (3,0)) 2 (some 2),z 1,z 0],[.cells 9 [.s ⟨#[97]⟩,.s ⟨#[98]⟩],O0,O2,O3,.cells 3 [z 0,z 1],.grow 3 1 [z 0,z 4,z 4,z 4,z 4],.cells 3 [z 1,z 0],.cells 3 [z 0],.cells 3 [z 0]],.tu [.sl (some (9,0)) 2 (some 3),z 0],[.cells 9 [.s ⟨#[97]⟩,.s ⟨#[98]⟩],O0,O2,O3,.cells 3 [z 0,z 1],.grow 3 1 [z 0,z 4,z 4,z 4,z 4],.cells 3 [z 1,z 0],.cells 3 [z 0],.cells 3 [z 0],.cells 3 [z 0,z 1,z 0]]⟩
theorem k116:FactOk Tryz.prog 113 A116:=factOk_ok (ex_ok iEn_ok mixed (.add k4 (.add k69 .nil)) 600) (by kernel_rfl)
noncomputable def A117:Fact:=⟨[.ag [.sl (some (0,0)) 2 (some 2),.sl (some (1,0)) 2 (some 2),.sl (some (2,0)) 2 (some 2)],.sl (some (3,0)) 2 (some 2),z 1,z 0,z 0],[.cells 9 [.s ⟨#[97]⟩,.s ⟨#[98]⟩],O0,O2,O3,.cells 3 [z 0,z 1],.grow 3 1 [z 0,z 4,z 4,z 4,z 4],.cells 3 [z 1,z 0],.cells 3 [z 0],.cells 3 [z 0]],.tu [.ag [.sl (some (9,0)) 2 (some 2),z 1,z 0],z 0],[.cells 9 [.s ⟨#[97]⟩,.s ⟨#[98]⟩],O0,O2,O3,.cells 3 [z 0,z 1],.grow 3 1 [z 0,z 4,z 4,z 4,z 4],.cells 3 [z 1,z 0],.cells 3 [z 0],.cells 3 [z 0],.cells 3 [z 0,z 4611686018427387904]]⟩
theorem k117:FactOk Tryz.prog 114 A117:=factOk_ok (ex_ok iEn_ok mixed (.add k4 .nil) 600) (by kernel_rfl)
noncomputable def A118:Fact:=⟨[.ag [.sl (some (0,0)) 2 (some 2),.sl (some (1,0)) 2 (some 2),.sl (some (2,0)) 2 (some 2)],.sl (some (3,0)) 2 (some 2),z 1,z 1],[.cells 9 [.s ⟨#[97]⟩,.s ⟨#[98]⟩],O0,O2,O3,.cells 3 [z 0,z 1],.grow 3 1 [z 0,z 4,z 4,z 4,z 4],.cells 3 [z 1,z 0],.cells 3 [z 0],.cells 3 [z 0]],.tu [.sl (some (9,0)) 2 (some 3),z 0],[.cells 9 [.s ⟨#[97]⟩,.s ⟨#[98]⟩],O0,O2,O3,.cells 3 [z 0,z 1],.grow 3 1 [z 0,z 4,z 4,z 4,z 4],.cells 3 [z 1,z 0],.cells 3 [z 0],.cells 3 [z 0],.cells 3 [z 0,z 1,z 0]]⟩
theorem k118:FactOk Tryz.prog 113 A118:=factOk_ok (ex_ok iEn_ok mixed (.add k4 (.add k69 .nil)) 600) (by kernel_rfl)
noncomputable def A119:Fact:=⟨[.ag [.sl (some (0,0)) 2 (some 2),.sl (some (1,0)) 2 (some 2),.sl (some (2,0)) 2 (some 2)],.sl (some (3,0)) 2 (some 2),z 1,z 1,z 0],[.cells 9 [.s ⟨#[97]⟩,.s ⟨#[98]⟩],O0,O2,O3,.cells 3 [z 0,z 1],.grow 3 1 [z 0,z 4,z 4,z 4,z 4],.cells 3 [z 1,z 0],.cells 3 [z 0],.cells 3 [z 0]],.tu [.ag [.sl (some (9,0)) 2 (some 2),z 1,z 0],z 0],[.cells 9 [.s ⟨#[97]⟩,.s ⟨#[98]⟩],O0,O2,O3,.cells 3 [z 0,z 1],.grow 3 1 [z 0,z 4,z 4,z 4,z 4],.cells 3 [z 1,z 0],.cells 3 [z 0],.cells 3 [z 0],.cells 3 [z 0,z 4611686018427387904]]⟩
theorem k119:FactOk Tryz.prog 114 A119:=factOk_ok (ex_ok iEn_ok mixed (.add k4 .nil) 600) (by kernel_rfl)
noncomputable def A120:Fact:=⟨[.ag [.sl (some (0,0)) 2 (some 2),.sl (some (1,0)) 2 (some 2),.sl (some (2,0)) 2 (some 2)],.sl (some (3,0)) 2 (some 2),z 1,z 1,z 1],[.cells 9 [.s ⟨#[97]⟩,.s ⟨#[98]⟩],O0,O2,O3,.cells 3 [z 0,z 1],.grow 3 1 [z 0,z 4,z 4,z 4,z 4],.cells 3 [z 1,z 0],.cells 3 [z 0],.cells 3 [z 0]],.tu [.ag [.sl (some (9,0)) 4 none,z 4,z 36],z 0],[.cells 9 [.s ⟨#[97]⟩,.s ⟨#[98]⟩],O0,O2,O3,.cells 3 [z 0,z 1],.grow 3 1 [z 0,z 4,z 4,z 4,z 4],.cells 3 [z 1,z 0],.cells 3 [z 0],.cells 3 [z 0],.grow 3 1 [z 0,z 6,z 16,z 26]]⟩
theorem k120:FactOk Tryz.prog 114 A120:=factOk_ok (ex_ok iEn_ok mixed (.add k4 (.add k6 (.add k5 (.add k11 (.add k17 (.add k42 .nil)))))) 600) (by kernel_rfl)
noncomputable def A121:Fact:=⟨[.ag [.sl (some (0,0)) 2 (some 2),.sl (some (1,0)) 2 (some 2),.sl (some (2,0)) 2 (some 2)],.sl (some (3,0)) 2 (some 2),z 1],[.cells 9 [.s ⟨#[97]⟩,.s ⟨#[98]⟩],O0,O2,O18,.cells 3 [z 0,z 1],.grow 3 1 [z 0,z 4,z 4,z 4,z 4],.cells 3 [z 1,z 0],.grow 3 1 [z 0],.grow 3 1 [z 0]],.tu [z 1,.b true],[.cells 9 [.s ⟨#[97]⟩,.s ⟨#[98]⟩],O0,O2,O18,.cells 3 [z 0,z 1],.grow 3 1 [z 0,z 4,z 4,z 4,z 4],.cells 3 [z 1,z 0],.grow 3 1 [z 0],.grow 3 1 [z 0]]⟩
theorem k121:FactOk Tryz.prog 83 A121:=factOk_ok (ex_ok iEn_ok mixed (.add k112 .nil) 600) (by kernel_rfl)
noncomputable def A122:Fact:=⟨[.ag [.sl (some (0,0)) 2 (some 2),.sl (some (1,0)) 2 (some 2),.sl (some (2,0)) 2 (some 2)],.sl (some (3,0)) 2 (some 2),.sl (some (4,0)) 2 (some 2),z 1],[.cells 9 [.s ⟨#[97]⟩,.s ⟨#[98]⟩],O0,O19,O20,O7,.cells 3 [z 0,z 1],.grow 3 1 [z 0,z 4,z 4,z 4,z 4],.cells 3 [z 1,z 0],.cells 3 [z 0],.cells 3 [z 0],.grow 3 1 [z 0],.grow 3 1 [z 0]],.ag [.b true,z 1,z 1,.sl none 0 (some 0),.sl none 0 (some 0)],[.cells 9 [.s ⟨#[97]⟩,.s ⟨#[98]⟩],O0,O19,O20,O7,.cells 3 [z 0,z 1],.grow 3 1 [z 0,z 4,z 4,z 4,z 4],.cells 3 [z 1,z 0],.cells 3 [z 0],.cells 3 [z 0],.grow 3 1 [z 0],.grow 3 1 [z 0]]⟩
theorem k122:FactOk Tryz.prog 58 A122:=factOk_ok (ex_ok iEn_ok mixed (.add k115 (.add k116 (.add k117 (.add k75 (.add k118 (.add k119 (.add k85 (.add k86 (.add k120 (.add k93 (.add k96 (.add k43 (.add k47 (.add k102 (.add k103 (.add k108 (.add k111 (.add k121 .nil)))))))))))))))))) 600) (by kernel_rfl)
noncomputable def L13:List V:=zs [0]
noncomputable def A123:Fact:=⟨[z 10,z 1,.sl (some (0,0)) 1 none,z 46,.f 245 [] []],[.grow 55 3 [z 0,z 0,z 4]],.ag [.sl (some (1,0)) 1 (some 1),.sl (some (2,0)) 1 (some 1)],[.grow 55 3 [z 0,z 0,z 4],.cells 3 [z 0],.cells 22 [.sl (some (3,0)) 47 (some 47)],.cells 3 (appX L13 (repX 46 [z 4]))]⟩
theorem k123:FactOk Tryz.prog 244 A123:=factOk_ok (ex_ok iEn_ok mixed .nil 600) (by kernel_rfl)
end Go.Proofs.YtehaepbflkncdaaGreat.I
namespace Go.Proofs.YtehaepbflkncdaaGreat.I
open Go Go.RowKit Go.Proofs.YtehaepbflkncdaaGreat.K
set_option maxRecDepth 1000000
noncomputable def A124:Fact:=⟨[.ag [z 1,z 10,z 1,.sl none 0 (some 0),.sl none 0 (some 0)],.sl (some (0,0)) 1 none,z 46],[.grow 55 3 [z 0,z 0,z 4]],.tu [.ag [.sl (some (1,0)) 1 (some 1),.sl (some (2,0)) 1 (some 1)],z 0],[.grow 55 3 [z 0,z 0,z 4],.cells 3 [z 0],.cells 22 [.sl (some (3,0)) 47 (some 47)],.cells 3 (appX L13 (repX 46 [z 4]))]⟩
theorem k124:FactOk Tryz.prog 62 A124:=factOk_ok (ex_ok iEn_ok mixed (.add k1 (.add k123 .nil)) 600) (by kernel_rfl)
noncomputable def A125:Fact:=⟨[.ag [.sl (some (0,0)) 2 (some 2),.sl (some (1,0)) 2 (some 2),.sl (some (2,0)) 2 (some 2)],.sl (some (3,0)) 1 (some 1),.ag [.sl (some (4,0)) 1 none],z 0,z 100],[.cells 9 [.s ⟨#[97]⟩,.s ⟨#[98]⟩],O0,O19,.cells 55 [z 0,z 0,z 4],.grow 22 1 [.sl (some (8,0)) 2 (some 2)],.cells 3 [z 0,z 1],.grow 3 1 [z 0,z 4,z 4,z 4,z 4],.cells 3 [z 1,z 0],.cells 3 [.i .i64 (.negSucc 0),.i .i64 (.negSucc 0)]],.tu [.b true,z 0],[.cells 9 [.s ⟨#[97]⟩,.s ⟨#[98]⟩],O0,O19,.cells 55 [z 0,z 0,z 4],.grow 22 1 [.sl (some (8,0)) 2 (some 2)],.cells 3 [z 0,z 1],.grow 3 1 [z 0,z 4,z 4,z 4,z 4],.cells 3 [z 1,z 0],.cells 3 [z 0,.i .i64 (.negSucc 0)]]⟩
theorem k125:FactOk Tryz.prog 35 A125:=factOk_ok (ex_ok iEn_ok mixed (.add k124 .nil) 600) (by kernel_rfl)
noncomputable def L14:List V:=appX L13 (zs [0])
noncomputable def A126:Fact:=⟨[z 10,z 1,.sl (some (0,0)) 1 none,z 47,.f 245 [] []],[.grow 55 3 [z 0,z 1,z 4]],.ag [.sl (some (1,0)) 1 (some 1),.sl (some (2,0)) 1 (some 1)],[.grow 55 3 [z 0,z 1,z 4],.cells 3 [z 1],.cells 22 [.sl (some (3,0)) 48 (some 48)],.cells 3 (appX L14 (repX 46 [z 4]))]⟩
theorem k126:FactOk Tryz.prog 244 A126:=factOk_ok (ex_ok iEn_ok mixed .nil 600) (by kernel_rfl)
noncomputable def A127:Fact:=⟨[.ag [z 1,z 10,z 1,.sl none 0 (some 0),.sl none 0 (some 0)],.sl (some (0,0)) 1 none,z 47],[.grow 55 3 [z 0,z 1,z 4]],.tu [.ag [.sl (some (1,0)) 1 (some 1),.sl (some (2,0)) 1 (some 1)],z 0],[.grow 55 3 [z 0,z 1,z 4],.cells 3 [z 1],.cells 22 [.sl (some (3,0)) 48 (some 48)],.cells 3 (appX L14 (repX 46 [z 4]))]⟩
theorem k127:FactOk Tryz.prog 62 A127:=factOk_ok (ex_ok iEn_ok mixed (.add k1 (.add k126 .nil)) 600) (by kernel_rfl)
noncomputable def A128:Fact:=⟨[.ag [.sl (some (0,0)) 2 (some 2),.sl (some (1,0)) 2 (some 2),.sl (some (2,0)) 2 (some 2)],.sl (some (3,0)) 1 (some 1),.ag [.sl (some (4,0)) 1 none],z 1,z 100],[.cells 9 [.s ⟨#[97]⟩,.s ⟨#[98]⟩],O0,O19,.cells 55 [z 0,z 0,z 4],.grow 22 1 [.sl (some (8,0)) 2 (some 2)],.cells 3 [z 0,z 1],.grow 3 1 [z 0,z 4,z 4,z 4,z 4],.cells 3 [z 1,z 0],.cells 3 [z 0,.i .i64 (.negSucc 0)]],.tu [.b true,z 0],[.cells 9 [.s ⟨#[97]⟩,.s ⟨#[98]⟩],O0,O19,.cells 55 [z 0,z 0,z 4],.grow 22 1 [.sl (some (8,0)) 2 (some 2)],.cells 3 [z 0,z 1],.grow 3 1 [z 0,z 4,z 4,z 4,z 4],.cells 3 [z 1,z 0],.cells 3 [z 0,z 1]]⟩
theorem k128:FactOk Tryz.prog 35 A128:=factOk_ok (ex_ok iEn_ok mixed (.add k127 .nil) 600) (by kernel_rfl)
noncomputable def A129:Fact:=⟨[.ag [.sl (some (0,0)) 2 (some 2),.sl (some (1,0)) 2 (some 2),.sl (some (2,0)) 2 (some 2)],.sl (some (3,0)) 1 (some 1),.ag [.sl (some (4,0)) 1 none],z 0,z 100],[.cells 9 [.s ⟨#[97]⟩,.s ⟨#[98]⟩],O0,O19,.cells 55 [z 0,z 0,z 4],.grow 22 1 [.sl (some (8,0)) 2 (some 2)],.cells 3 [z 0,z 1],.grow 3 1 [z 0,z 4,z 4,z 4,z 4],.cells 3 [z 1,z 0],.cells 3 [z 0,z 1]],.tu [.b false,z 0],[.cells 9 [.s ⟨#[97]⟩,.s ⟨#[98]⟩],O0,O19,.cells 55 [z 0,z 0,z 4],.grow 22 1 [.sl (some (8,0)) 2 (some 2)],.cells 3 [z 0,z 1],.grow 3 1 [z 0,z 4,z 4,z 4,z 4],.cells 3 [z 1,z 0],.cells 3 [z 0,z 1]]⟩
theorem k129:FactOk Tryz.prog 35 A129:=factOk_ok (ex_ok iEn_ok mixed (.add k124 .nil) 600) (by kernel_rfl)
noncomputable def A130:Fact:=⟨[.ag [.sl (some (0,0)) 2 (some 2),.sl (some (1,0)) 2 (some 2),.sl (some (2,0)) 2 (some 2)],.sl (some (3,0)) 1 (some 1),.ag [.sl (some (4,0)) 1 none],z 1,z 100],[.cells 9 [.s ⟨#[97]⟩,.s ⟨#[98]⟩],O0,O19,.cells 55 [z 0,z 0,z 4],.grow 22 1 [.sl (some (8,0)) 2 (some 2)],.cells 3 [z 0,z 1],.grow 3 1 [z 0,z 4,z 4,z 4,z 4],.cells 3 [z 1,z 0],.cells 3 [z 0,z 1]],.tu [.b false,z 0],[.cells 9 [.s ⟨#[97]⟩,.s ⟨#[98]⟩],O0,O19,.cells 55 [z 0,z 0,z 4],.grow 22 1 [.sl (some (8,0)) 2 (some 2)],.cells 3 [z 0,z 1],.grow 3 1 [z 0,z 4,z 4,z 4,z 4],.cells 3 [z 1,z 0],.cells 3 [z 0,z 1]]⟩
theorem k130:FactOk Tryz.prog 35 A130:=factOk_ok (ex_ok iEn_ok mixed (.add k127 .nil) 600) (by kernel_rfl)
noncomputable def A131:Fact:=⟨[],[],.b true,[]⟩
theorem k131:FactOk Tryz.prog 5 A131:=factOk_ok (ex_ok iEn_ok mixed (.add k0 (.add k36 (.add k37 (.add k67 (.add k114 (.add k122 (.add k3 (.add k125 (.add k128 (.add k129 (.add k130 (.add k68 (.add k115 .nil))))))))))))) 600) (by kernel_rfl)
theorem Made_V {R:Ro}:FnV Tryz.prog 5 [] R (.bool true):=FactOk.toV k131 rfl rfl (fun _=>rfl)
end Go.Proofs.YtehaepbflkncdaaGreat.I
namespace Go.Proofs.YtehaepbflkncdaaGreat
open Go Go.RowKit Go.Proofs.YtehaepbflkncdaaGreat.K
theorem qR {P:Prop} (h:P:=by first|exact RLe.refl _|assumption):P:=h
theorem qK {P:Prop} (h:P:=by kernel_rfl):P:=h
theorem qD {P:Prop} (h:P:=by decide):P:=h
theorem qA {P:Prop} (h:P:=by intro _;constructor<;>(try dsimp only)<;>omega):P:=h
theorem qN {P:Prop} (h:P:=by intro _;(try dsimp only)<;>omega):P:=h
theorem qP {P:Prop} (h:P:=by intro h1 h2;simp_all<;>omega):P:=h
theorem qX {P:Prop} (h:P:=by(try dsimp only)<;>omega):P:=h
theorem qU {P:Prop} (h:P:=by assumption):P:=h
theorem qO {P:Prop} (h:P:=by omega):P:=h
theorem qH {P:Prop} (h:P:=by intro _;first|exact fun _ _ _ _=>rfl|exact RS.has (by assumption)|exact fun _ _ _ _=>(by assumption)|exact HasMem.ownD 0 rfl|exact HasMem.ownD 1 rfl|exact HasMem.ownD 2 rfl|exact HasMem.ownD 3 rfl|exact HasMem.ownD 4 rfl|exact HasMem.ownD 5 rfl|exact HasMem.ownD 6 rfl|exact HasMem.ownD 7 rfl|exact HasMem.ownD 8 rfl|exact HasMem.ownD 9 rfl|exact HasMem.ownD 10 rfl|exact HasMem.ownD 11 rfl):P:=h
theorem qI {P:Prop} (h:P:=by first|exact fun _ _ _ _=>rfl|exact RS.has (by assumption)|exact fun _ _ _ _=>(by assumption)|exact HasMem.ownD 0 rfl|exact HasMem.ownD 1 rfl|exact HasMem.ownD 2 rfl|exact HasMem.ownD 3 rfl|exact HasMem.ownD 4 rfl|exact HasMem.ownD 5 rfl|exact HasMem.ownD 6 rfl|exact HasMem.ownD 7 rfl|exact HasMem.ownD 8 rfl|exact HasMem.ownD 9 rfl|exact HasMem.ownD 10 rfl|exact HasMem.ownD 11 rfl):P:=h
theorem zk:(∀ (p:Prop) [Decidable p],(decide p=true)=p)∧(∀ (p:Prop) [Decidable p],(decide p=false)↔¬ p)∧(∀ (α:Type) [BEq α] [LawfulBEq α] (a b:α),(a == b)=true↔a=b)∧(∀ (α:Type) [BEq α] [LawfulBEq α] (a b:α),(a != b)=true↔a≠b)∧(∀ (α:Type) [BEq α] [LawfulBEq α] (a b:α),(a == b)=false↔a≠b)∧(∀ (α:Type) [BEq α] [LawfulBEq α] (a b:α),(a != b)=false↔a=b)∧(∀ (α:Type) (a b:α),(a≠b)=¬ (a=b))∧(∀ (a b:Bool),((a || b)=true)=(a=true∨b=true))∧(∀ (a b:Bool),(a || b)=false↔a=false∧b=false)∧(∀ (a b:Bool),((a && b)=true)=(a=true∧b=true))∧(∀ (a b:Bool),(a && b)=false↔(a=true→b=false))∧(∀ (b:Bool),(¬ (b=true))=(b=false))∧(∀ (b:Bool),((!b)=true)=(b=false))∧(∀ (b:Bool),((!b)=false)=(b=true))∧(∀ (a:Prop),¬ ¬ a↔a)∧(∀ (a b:Int),¬ (a<b)↔b≤a)∧(∀ (a b:Int),¬ (a≤b)↔b<a)∧(∀ (α:Type) [LT α] (x y:α),x > y↔y<x)∧(∀ (α:Type) [LE α] (x y:α),x≥y↔y≤x):=by
 refine⟨by intros;first|exact decide_eq_true_eq|exact decide_eq_true_eq ..|simp,by intros;first|exact decide_eq_false_iff_not|exact decide_eq_false_iff_not ..|simp,by intros;first|exact beq_iff_eq|exact beq_iff_eq ..|simp,by intros;first|exact bne_iff_ne|exact bne_iff_ne ..|simp,by intros;first|exact beq_eq_false_iff_ne|exact beq_eq_false_iff_ne ..|simp,by intros;first|exact bne_eq_false_iff_eq|exact bne_eq_false_iff_eq ..|simp,by intros;first|exact ne_eq|exact ne_eq ..|simp,by intros;first|exact Bool.or_eq_true|exact Bool.or_eq_true ..|simp,by intros;first|exact Bool.or_eq_false_iff|exact Bool.or_eq_false_iff ..|simp,by intros;first|exact Bool.and_eq_true|exact Bool.and_eq_true ..|simp,by intros;first|exact Bool.and_eq_false_imp|exact Bool.and_eq_false_imp ..|simp,by intros;first|exact Bool.not_eq_true|exact Bool.not_eq_true ..|simp,by intros;first|exact Bool.not_eq_true'|exact Bool.not_eq_true' ..|simp,by intros;first|exact Bool.not_eq_false'|exact Bool.not_eq_false' ..|simp,by intros;first|exact Classical.not_not|exact Classical.not_not ..|simp,by intros;first|exact Int.not_lt|exact Int.not_lt ..|simp,by intros;first|exact Int.not_le|exact Int.not_le ..|simp,by intros;first|exact gt_iff_lt|exact gt_iff_lt ..|simp,by intros;first|exact ge_iff_le|exact ge_iff_le ..|simp⟩
theorem tP {P:Program} {T:Tab} {n:Nat} {env:Env} {w0:World} {R:Ro} {R0:Ro} {E:List Ent} {ES:List Ent} {o:Oper} {pc:Bool} {q:Bool} {ops:List Oper} {Q:Exit→Act→World→Prop} {fuel:Nat} {listed:Array Bool} {v:Value} {d:Nat} (i:Nat) (h:WA P ops Q ES R0 w0 fuel (listed.setIfInBounds i true) n ((d,pc,v)::env) R E) (hT:TabOk P T:=by exact tab_ok) (hi:ops.toArray[i]?=some o:=by exact rfl) (hs:Region.noSelect ops.toArray=true:=by kernel_rfl) (hf:Region.free .any ops.toArray listed i=true:=by kernel_rfl) (hr:(Region.ready .any ops.toArray listed).contains i=true:=by kernel_rfl) (hg:gpc ops env o=some pc:=by exact rfl) (hd:o.dst=some d:=by exact rfl) (hdn:d<n:=by decide) (hv:pureV T env o.op=some (q,v):=by exact rfl) (hq:pc=true→q=true:=by exact fun _=>rfl) (hsub:ES.Sublist E:=by(repeat (first|exact List.Sublist.refl _|exact List.nil_sublist _|apply List.Sublist.cons_cons|apply List.Sublist.cons));done) (hR:RLe R0 R:=by first|exact RLe.refl _|assumption):WA P ops Q ES R0 w0 (fuel+1) listed n env R E:=WA.take i hi hs hf hr hg hd hdn (pureV_ok hT hv hq) hsub hR h
theorem tL {P:Program} {T:Tab} {n:Nat} {env:Env} {w0:World} {R:Ro} {R0:Ro} {E:List Ent} {ES:List Ent} {o:Oper} {pc:Bool} {p:Bool} {ops:List Oper} {Q:Exit→Act→World→Prop} {fuel:Nat} {listed:Array Bool} {t:TypeId} {x:Operand} {ad:Addr} {cs:List Value} {dd:TD} {v:Value} {d:Nat} (i:Nat) (hrd:Rd R0 ES ad cs) (h:WA P ops Q ES R0 w0 fuel (listed.setIfInBounds i true) n ((d,pc,v)::env) R E) (hT:TabOk P T:=by exact tab_ok) (hi:ops.toArray[i]?=some o:=by exact rfl) (hs:Region.noSelect ops.toArray=true:=by kernel_rfl) (hf:Region.free .any ops.toArray listed i=true:=by kernel_rfl) (hr:(Region.ready .any ops.toArray listed).contains i=true:=by kernel_rfl) (hg:gpc ops env o=some pc:=by exact rfl) (hd:o.dst=some d:=by exact rfl) (hdn:d<n:=by decide) (ho:o.op=.load t x:=by exact rfl) (hdt:T.at t=some dd:=by exact rfl) (hx:ev env x=some (p,.pointer (some ad)):=by exact rfl) (hp:pc=true→p=true:=by exact fun _=>rfl) (hk:dd.k.known=true:=by exact rfl) (hv:loadV dd cs=some v:=by exact rfl) (hsub:ES.Sublist E:=by(repeat (first|exact List.Sublist.refl _|exact List.nil_sublist _|apply List.Sublist.cons_cons|apply List.Sublist.cons));done) (hR:RLe R0 R:=by first|exact RLe.refl _|assumption):WA P ops Q ES R0 w0 (fuel+1) listed n env R E:=WA.take i hi hs hf hr hg hd hdn (Yl.load1 hT ho hdt hx hp hrd hk hv) hsub hR h
theorem tA {P:Program} {n:Nat} {env:Env} {w0:World} {R:Ro} {R0:Ro} {E:List Ent} {ES:List Ent} {o:Oper} {pc:Bool} {p:Bool} {q:Bool} {ops:List Oper} {Q:Exit→Act→World→Prop} {fuel:Nat} {listed:Array Bool} {t t2:TypeId} {x y:Operand} {a b:Int} {d:Nat} (i:Nat) (h:WA P ops Q ES R0 w0 fuel (listed.setIfInBounds i true) n ((d,pc,.int .i64 (a+b))::env) R E) (hi:ops.toArray[i]?=some o:=by exact rfl) (hs:Region.noSelect ops.toArray=true:=by kernel_rfl) (hf:Region.free .any ops.toArray listed i=true:=by kernel_rfl) (hr:(Region.ready .any ops.toArray listed).contains i=true:=by kernel_rfl) (hg:gpc ops env o=some pc:=by exact rfl) (hd:o.dst=some d:=by exact rfl) (hdn:d<n:=by decide) (ho:o.op=.binOp .add t x y t2:=by exact rfl) (hx:ev env x=some (p,.int .i64 a):=by exact rfl) (hy:ev env y=some (q,.int .i64 b):=by exact rfl) (hpq:pc=true→(p && q)=true:=by exact fun _=>rfl) (hr2:pc=true→InR (a+b):=by intro _;constructor<;>(try dsimp only)<;>omega) (hsub:ES.Sublist E:=by(repeat (first|exact List.Sublist.refl _|exact List.nil_sublist _|apply List.Sublist.cons_cons|apply List.Sublist.cons));done) (hR:RLe R0 R:=by first|exact RLe.refl _|assumption):WA P ops Q ES R0 w0 (fuel+1) listed n env R E:=WA.take i hi hs hf hr hg hd hdn (Yl.add ho hx hy hpq hr2) hsub hR h
theorem tS {P:Program} {n:Nat} {env:Env} {w0:World} {R:Ro} {R0:Ro} {E:List Ent} {ES:List Ent} {o:Oper} {pc:Bool} {p:Bool} {q:Bool} {ops:List Oper} {Q:Exit→Act→World→Prop} {fuel:Nat} {listed:Array Bool} {t t2:TypeId} {x y:Operand} {a b:Int} {d:Nat} (i:Nat) (h:WA P ops Q ES R0 w0 fuel (listed.setIfInBounds i true) n ((d,pc,.int .i64 (a - b))::env) R E) (hi:ops.toArray[i]?=some o:=by exact rfl) (hs:Region.noSelect ops.toArray=true:=by kernel_rfl) (hf:Region.free .any ops.toArray listed i=true:=by kernel_rfl) (hr:(Region.ready .any ops.toArray listed).contains i=true:=by kernel_rfl) (hg:gpc ops env o=some pc:=by exact rfl) (hd:o.dst=some d:=by exact rfl) (hdn:d<n:=by decide) (ho:o.op=.binOp .sub t x y t2:=by exact rfl) (hx:ev env x=some (p,.int .i64 a):=by exact rfl) (hy:ev env y=some (q,.int .i64 b):=by exact rfl) (hpq:pc=true→(p && q)=true:=by exact fun _=>rfl) (hr2:pc=true→InR (a - b):=by intro _;constructor<;>(try dsimp only)<;>omega) (hsub:ES.Sublist E:=by(repeat (first|exact List.Sublist.refl _|exact List.nil_sublist _|apply List.Sublist.cons_cons|apply List.Sublist.cons));done) (hR:RLe R0 R:=by first|exact RLe.refl _|assumption):WA P ops Q ES R0 w0 (fuel+1) listed n env R E:=WA.take i hi hs hf hr hg hd hdn (Yl.sub ho hx hy hpq hr2) hsub hR h
theorem yP {P:Program} {T:Tab} {n:Nat} {env:Env} {w0:World} {R:Ro} {E:List Ent} {o:Oper} {pc:Bool} {q:Bool} {draw:Bool} {ops:List Oper} {rest:List Oper} {Q:Exit→Act→World→Prop} {v:Value} {d:Nat} (h:WG draw P ops Q rest n ((d,pc,v)::env) w0 R E) (hT:TabOk P T:=by exact tab_ok) (hg:gpc ops env o=some pc:=by exact rfl) (hd:o.dst=some d:=by exact rfl) (hdn:d<n:=by decide) (hv:pureV T env o.op=some (q,v):=by exact rfl) (hq:pc=true→q=true:=by first|exact fun _=>rfl|exact fun h=>h|(intro h;simp_all)):WG draw P ops Q (o::rest) n env w0 R E:=WG.y hg hd hdn (pureV_ok hT hv hq) h
theorem yL {P:Program} {T:Tab} {n:Nat} {env:Env} {w0:World} {R:Ro} {E:List Ent} {o:Oper} {pc:Bool} {p:Bool} {draw:Bool} {ops:List Oper} {rest:List Oper} {Q:Exit→Act→World→Prop} {t:TypeId} {x:Operand} {ad:Addr} {cs:List Value} {dd:TD} {v:Value} {d:Nat} (hrd:Rd R E ad cs) (h:WG draw P ops Q rest n ((d,pc,v)::env) w0 R E) (hT:TabOk P T:=by exact tab_ok) (hg:gpc ops env o=some pc:=by exact rfl) (hd:o.dst=some d:=by exact rfl) (hdn:d<n:=by decide) (ho:o.op=.load t x:=by exact rfl) (hdt:T.at t=some dd:=by exact rfl) (hx:ev env x=some (p,.pointer (some ad)):=by exact rfl) (hp:pc=true→p=true:=by exact fun _=>rfl) (hk:dd.k.known=true:=by exact rfl) (hv:loadV dd cs=some v:=by exact rfl):WG draw P ops Q (o::rest) n env w0 R E:=WG.y hg hd hdn (Yl.load1 hT ho hdt hx hp hrd hk hv) h
theorem yA {P:Program} {n:Nat} {env:Env} {w0:World} {R:Ro} {E:List Ent} {o:Oper} {pc:Bool} {p:Bool} {q:Bool} {draw:Bool} {ops:List Oper} {rest:List Oper} {Q:Exit→Act→World→Prop} {t t2:TypeId} {x y:Operand} {a b:Int} {d:Nat} (h:WG draw P ops Q rest n ((d,pc,.int .i64 (a+b))::env) w0 R E) (hg:gpc ops env o=some pc:=by exact rfl) (hd:o.dst=some d:=by exact rfl) (hdn:d<n:=by decide) (ho:o.op=.binOp .add t x y t2:=by exact rfl) (hx:ev env x=some (p,.int .i64 a):=by exact rfl) (hy:ev env y=some (q,.int .i64 b):=by exact rfl) (hpq:pc=true→(p && q)=true:=by exact fun _=>rfl) (hr2:pc=true→InR (a+b):=by intro _;constructor<;>(try dsimp only)<;>omega):WG draw P ops Q (o::rest) n env w0 R E:=WG.y hg hd hdn (Yl.add ho hx hy hpq hr2) h
theorem yS {P:Program} {n:Nat} {env:Env} {w0:World} {R:Ro} {E:List Ent} {o:Oper} {pc:Bool} {p:Bool} {q:Bool} {draw:Bool} {ops:List Oper} {rest:List Oper} {Q:Exit→Act→World→Prop} {t t2:TypeId} {x y:Operand} {a b:Int} {d:Nat} (h:WG draw P ops Q rest n ((d,pc,.int .i64 (a - b))::env) w0 R E) (hg:gpc ops env o=some pc:=by exact rfl) (hd:o.dst=some d:=by exact rfl) (hdn:d<n:=by decide) (ho:o.op=.binOp .sub t x y t2:=by exact rfl) (hx:ev env x=some (p,.int .i64 a):=by exact rfl) (hy:ev env y=some (q,.int .i64 b):=by exact rfl) (hpq:pc=true→(p && q)=true:=by exact fun _=>rfl) (hr2:pc=true→InR (a - b):=by intro _;constructor<;>(try dsimp only)<;>omega):WG draw P ops Q (o::rest) n env w0 R E:=WG.y hg hd hdn (Yl.sub ho hx hy hpq hr2) h
theorem zR {n:Nat} {env:Env} {w0:World} {R:Ro} {E:List Ent} {draw:Bool} {ops:List Oper} {Q:Exit→Act→World→Prop} {l l':List Oper} {env':Env} (m:Nat) (h:runPure tab n m l env=(l',env')) (k:WG draw Tryz.prog ops Q l' n env' w0 R E):WG draw Tryz.prog ops Q l n env w0 R E:=WG.run tab_ok m h k
theorem zE {P:Program} {T:Tab} {n:Nat} {env:Env} {w0:World} {R:Ro} {E:List Ent} {o:Oper} {ops:List Oper} {rest:List Oper} {Q:Exit→Act→World→Prop} {t:TypeId} {x y:Operand} {b:Nat} {cs:List Value} {v:Value} {dd:TD} (k:Nat) (h:WG false P ops Q rest n env w0 R (E.set k (.blk b (setSeg cs 0 (vcells v))))) (hT:TabOk P T:=by exact tab_ok) (hg:o.guard=none:=by exact rfl) (hd:o.dst=none:=by exact rfl) (ho:o.op=.store t x y:=by exact rfl) (hdt:T.at t=some dd:=by exact rfl) (hx:ev env x=some (true,.pointer (some ⟨b,0,none⟩)):=by exact rfl) (hy:ev env y=some (true,v):=by exact rfl) (hE:E[k]?=some (.blk b cs):=by exact rfl) (hl:Nat.beq (vcells v).length dd.size=true:=by exact rfl) (hfit:Nat.ble dd.size cs.length=true:=by exact rfl) (h1:cells1 (vcells v)=true:=by exact rfl):WG false P ops Q (o::rest) n env w0 R E:=WL.efN hg hd (Ef.store0 k hT ho hdt hx hy hE hl hfit h1 h)
theorem zCE {P:Program} {T:Tab} {n:Nat} {env:Env} {w0:World} {R:Ro} {R0:Ro} {E:List Ent} {ES:List Ent} {o:Oper} {ops:List Oper} {Q:Exit→Act→World→Prop} {fuel:Nat} {listed:Array Bool} {t:TypeId} {x y:Operand} {b:Nat} {cs:List Value} {v:Value} {dd:TD} (i k:Nat) (h:WA P ops Q ES R0 w0 fuel (listed.setIfInBounds i true) n env R (E.set k (.blk b (setSeg cs 0 (vcells v))))) (hT:TabOk P T:=by exact tab_ok) (hi:ops.toArray[i]?=some o:=by exact rfl) (hr:Region.ready .any ops.toArray listed=[i]:=by kernel_rfl) (hg:o.guard=none:=by exact rfl) (hd:o.dst=none:=by exact rfl) (ho:o.op=.store t x y:=by exact rfl) (hdt:T.at t=some dd:=by exact rfl) (hx:ev env x=some (true,.pointer (some ⟨b,0,none⟩)):=by exact rfl) (hy:ev env y=some (true,v):=by exact rfl) (hE:E[k]?=some (.blk b cs):=by exact rfl) (hl:Nat.beq (vcells v).length dd.size=true:=by exact rfl) (hfit:Nat.ble dd.size cs.length=true:=by exact rfl) (h1:cells1 (vcells v)=true:=by exact rfl) (hR:RLe R0 R:=by first|exact RLe.refl _|assumption) (hsub:ES.Sublist (E.set k (.blk b (setSeg cs 0 (vcells v)))):=by(repeat (first|exact List.Sublist.refl _|exact List.nil_sublist _|apply List.Sublist.cons_cons|apply List.Sublist.cons));done):WA P ops Q ES R0 w0 (fuel+1) listed n env R E:=WA.effN i hi hr hg hd (Ef.store0 k hT ho hdt hx hy hE hl hfit h1 ⟨hR,hsub,h⟩)
theorem zF {P:Program} {T:Tab} {n:Nat} {env:Env} {w0:World} {R:Ro} {E:List Ent} {o:Oper} {ops:List Oper} {rest:List Oper} {Q:Exit→Act→World→Prop} {t:TypeId} {x y:Operand} {b off:Nat} {cs:List Value} {v:Value} {dd:TD} (k:Nat) (h:WG false P ops Q rest n env w0 R (E.set k (.blk b (setSeg cs off (vcells v))))) (hT:TabOk P T:=by exact tab_ok) (hg:o.guard=none:=by exact rfl) (hd:o.dst=none:=by exact rfl) (ho:o.op=.store t x y:=by exact rfl) (hdt:T.at t=some dd:=by exact rfl) (hx:ev env x=some (true,.pointer (some ((⟨b,0,none⟩:Addr).add off))):=by exact rfl) (hy:ev env y=some (true,v):=by exact rfl) (hE:E[k]?=some (.blk b cs):=by exact rfl) (hl:Nat.beq (vcells v).length dd.size=true:=by exact rfl) (hfit:Nat.ble (off+dd.size) cs.length=true:=by exact rfl) (h1:cells1 (vcells v)=true:=by exact rfl):WG false P ops Q (o::rest) n env w0 R E:=WL.efN hg hd (Ef.store k hT ho hdt hx hy hE hl hfit h1 h)
theorem zCF {P:Program} {T:Tab} {n:Nat} {env:Env} {w0:World} {R:Ro} {R0:Ro} {E:List Ent} {ES:List Ent} {o:Oper} {ops:List Oper} {Q:Exit→Act→World→Prop} {fuel:Nat} {listed:Array Bool} {t:TypeId} {x y:Operand} {b off:Nat} {cs:List Value} {v:Value} {dd:TD} (i k:Nat) (h:WA P ops Q ES R0 w0 fuel (listed.setIfInBounds i true) n env R (E.set k (.blk b (setSeg cs off (vcells v))))) (hT:TabOk P T:=by exact tab_ok) (hi:ops.toArray[i]?=some o:=by exact rfl) (hr:Region.ready .any ops.toArray listed=[i]:=by kernel_rfl) (hg:o.guard=none:=by exact rfl) (hd:o.dst=none:=by exact rfl) (ho:o.op=.store t x y:=by exact rfl) (hdt:T.at t=some dd:=by exact rfl) (hx:ev env x=some (true,.pointer (some ((⟨b,0,none⟩:Addr).add off))):=by exact rfl) (hy:ev env y=some (true,v):=by exact rfl) (hE:E[k]?=some (.blk b cs):=by exact rfl) (hl:Nat.beq (vcells v).length dd.size=true:=by exact rfl) (hfit:Nat.ble (off+dd.size) cs.length=true:=by exact rfl) (h1:cells1 (vcells v)=true:=by exact rfl) (hR:RLe R0 R:=by first|exact RLe.refl _|assumption) (hsub:ES.Sublist (E.set k (.blk b (setSeg cs off (vcells v)))):=by(repeat (first|exact List.Sublist.refl _|exact List.nil_sublist _|apply List.Sublist.cons_cons|apply List.Sublist.cons));done):WA P ops Q ES R0 w0 (fuel+1) listed n env R E:=WA.effN i hi hr hg hd (Ef.store k hT ho hdt hx hy hE hl hfit h1 ⟨hR,hsub,h⟩)
theorem lL {P:Program} {T:Tab} {n:Nat} {env:Env} {w0:World} {R:Ro} {R0:Ro} {E:List Ent} {ES:List Ent} {o:Oper} {p:Bool} {ops:List Oper} {Q:Exit→Act→World→Prop} {fuel:Nat} {listed:Array Bool} {t:TypeId} {x:Operand} {ad:Addr} {cs:List Value} {dd:TD} {v:Value} {d:Nat} (i:Nat) (hrd:Rd R E ad cs) (h:WA P ops Q ES R0 w0 fuel (listed.setIfInBounds i true) n ((d,true,v)::env) R E) (hT:TabOk P T:=by exact tab_ok) (hi:ops.toArray[i]?=some o:=by exact rfl) (hr:Region.ready .any ops.toArray listed=[i]:=by kernel_rfl) (hg:o.guard=none:=by exact rfl) (hd:o.dst=some d:=by exact rfl) (hdn:d<n:=by decide) (ho:o.op=.load t x:=by exact rfl) (hdt:T.at t=some dd:=by exact rfl) (hx:ev env x=some (p,.pointer (some ad)):=by exact rfl) (hp:true=true→p=true:=by exact fun _=>rfl) (hk:dd.k.known=true:=by exact rfl) (hv:loadV dd cs=some v:=by exact rfl) (hsub:ES.Sublist E:=by(repeat (first|exact List.Sublist.refl _|exact List.nil_sublist _|apply List.Sublist.cons_cons|apply List.Sublist.cons));done) (hR:RLe R0 R:=by first|exact RLe.refl _|assumption):WA P ops Q ES R0 w0 (fuel+1) listed n env R E:=WA.yl i hi hr hg hd hdn (Yl.load1 (pc:=true) hT ho hdt hx hp hrd hk hv) hsub hR h
theorem sL {P:Program} {T:Tab} {n:Nat} {env:Env} {w0:World} {R:Ro} {R0:Ro} {E:List Ent} {ES:List Ent} {o:Oper} {p:Bool} {ops:List Oper} {Q:Exit→Act→World→Prop} {fuel:Nat} {listed:Array Bool} {t:TypeId} {x:Operand} {ad:Addr} {cs:List Value} {dd:TD} {v:Value} {d i:Nat} (hrd:Rd R E ad cs) (h:WA P ops Q ES R0 w0 fuel (listed.setIfInBounds i true) n ((d,true,v)::env) R E) (hT:TabOk P T:=by exact tab_ok) (hi:ops.toArray[i]?=some o:=by exact rfl) (hg:o.guard=none:=by exact rfl) (hd:o.dst=some d:=by exact rfl) (hdn:d<n:=by decide) (ho:o.op=.load t x:=by exact rfl) (hdt:T.at t=some dd:=by exact rfl) (hx:ev env x=some (p,.pointer (some ad)):=by exact rfl) (hp:true=true→p=true:=by exact fun _=>rfl) (hk:dd.k.known=true:=by exact rfl) (hv:loadV dd cs=some v:=by exact rfl) (hsub:ES.Sublist E:=by(repeat (first|exact List.Sublist.refl _|exact List.nil_sublist _|apply List.Sublist.cons_cons|apply List.Sublist.cons));done) (hR:RLe R0 R:=by first|exact RLe.refl _|assumption):WS P ops Q ES R0 w0 fuel listed n env R E i:=WS.yl hi hg hd hdn (Yl.load1 (pc:=true) hT ho hdt hx hp hrd hk hv) hsub hR h
theorem zQ {P:Program} {n:Nat} {env:Env} {w0:World} {R:Ro} {E:List Ent} {Q:Exit→Act→World→Prop} {x:Code} {y:Code} (h:W P x (Exit.then (y.wp P Q) Q) n env w0 R E):W P (.seq x y) Q n env w0 R E:=W.seq h
theorem zG {P:Program} {n:Nat} {env:Env} {w0:World} {R:Ro} {E:List Ent} {Q:Exit→Act→World→Prop}  {id:Nat} {l:List Oper} (h:WG false P l Q l n env w0 R E):W P (.region id l.toArray false) Q n env w0 R E:=W.region id h
theorem zN {P:Program} {n:Nat} {env:Env} {w0:World} {R:Ro} {E:List Ent} {draw:Bool} {ops:List Oper} {Q:Exit→Act→World→Prop}  (h:WE Q .normal n env w0 R E):WG draw P ops Q [] n env w0 R E:=WG.nil h
theorem zU {P:Program} {n:Nat} {env:Env} {w0:World} {R:Ro} {E:List Ent} {Q:Exit→Act→World→Prop} {y:Code} (h:W P y Q n env w0 R E):WE (Exit.then (y.wp P Q) Q) .normal n env w0 R E:=WE.nxt h
theorem zB {P:Program} {n:Nat} {env:Env} {w0:World} {R:Ro} {E:List Ent} {Q:Exit→Act→World→Prop} {x:Code} {id:Nat} (h:W P x (Exit.inBlock id Q) n env w0 R E):W P (.block id x) Q n env w0 R E:=W.block h
theorem zK {P:Program} {n:Nat} {env:Env} {w0:World} {R:Ro} {E:List Ent} {Q:Exit→Act→World→Prop}  (h:WE Q .normal n env w0 R E):W P .skip Q n env w0 R E:=W.skip h
theorem zT {P:Program} {n:Nat} {env:Env} {w0:World} {R:Ro} {E:List Ent} {Q:Exit→Act→World→Prop}  (h:WE Q .ret n env w0 R E):W P .ret Q n env w0 R E:=W.ret h
theorem wt {n:Nat} {env:Env} {w0:World} {R:Ro} {E:List Ent} {Q:Exit→Act→World→Prop} {K:Act→World→Prop} (h:WE Q .ret n env w0 R E):WE (Exit.then K Q) .ret n env w0 R E:=WE.then_ret h
theorem wb {n:Nat} {env:Env} {w0:World} {R:Ro} {E:List Ent} {Q:Exit→Act→World→Prop}  {id:Nat} (h:WE Q .ret n env w0 R E):WE (Exit.inBlock id Q) .ret n env w0 R E:=WE.blk_ret h
theorem wx {n:Nat} {env:Env} {w0:World} {R:Ro} {E:List Ent} {Q:Exit→Act→World→Prop} {K:Act→World→Prop} {id:Nat} (h:WE Q (.exit id) n env w0 R E):WE (Exit.then K Q) (.exit id) n env w0 R E:=WE.then_exit h
theorem zY {n:Nat} {env:Env} {w0:World} {R:Ro} {E:List Ent} {Q:Exit→Act→World→Prop}  {id:Nat} (h:WE Q .normal n env w0 R E):WE (Exit.inBlock id Q) (.exit id) n env w0 R E:=WE.blk_exit h
theorem zX {P:Program} {n:Nat} {env:Env} {w0:World} {R:Ro} {E:List Ent} {Q:Exit→Act→World→Prop}  {id:Nat} (h:WE Q (.exit id) n env w0 R E):W P (.exit id) Q n env w0 R E:=W.exit h
theorem zL {n:Nat} {env:Env} {w0:World} {R:Ro} {E:List Ent} {Q:Exit→Act→World→Prop}  {id:Nat} (h:WE Q .normal n env w0 R E):WE (Exit.inBlock id Q) .normal n env w0 R E:=WE.blk id h
theorem fE {P:Program} {f:FuncId} {fn:Func} {c:Code} {args:List Value} {Post:Value→Ro→List Ent→Prop} {w0:World} {R:Ro} {E:List Ent} (n:Nat) (hf:P.funcs[f]?=some fn) (h:W P c (bodyPost P fn (FnR w0 R Post)) n (argEnv 0 args) w0 R E) (hb:fn.body=some c:=by exact rfl) (hn:fn.ntmps=n:=by exact rfl) (ha:args.length≤n:=by exact Nat.le_of_ble_eq_true rfl) (hs:Nat.ble n 99999=true:=by exact rfl):K.Fn P f args w0 R E Post:=Fn.enter hf hb hn ha hs h
theorem zA {P:Program} {T:Tab} {n:Nat} {env:Env} {w0:World} {R:Ro} {E:List Ent} {o:Oper} {ops:List Oper} {rest:List Oper} {Q:Exit→Act→World→Prop} {d:Nat} {t:TypeId} {dd:TD} (h:∀ b,WG false P ops Q rest n ((d,true,(.pointer (some ⟨b,0,none⟩)))::env) w0 R (.blk b dd.zero::E)) (hT:TabOk P T:=by exact tab_ok) (hg:o.guard=none:=by exact rfl) (hd:o.dst=some d:=by exact rfl) (hdn:d<n:=by decide) (ho:o.op=.alloc t:=by exact rfl) (hdt:T.at t=some dd:=by exact rfl):WG false P ops Q (o::rest) n env w0 R E:=WL.ef hg hd hdn (Ef.alloc hT ho hdt h)
theorem zO {P:Program} {n:Nat} {env:Env} {w0:World} {R:Ro} {E:List Ent} {o:Oper} {ops:List Oper} {rest:List Oper} {Q:Exit→Act→World→Prop} {d:Nat} {t:TypeId} {x:Operand} {v:Value} (h:∀ b,WG false P ops Q rest n ((d,true,(.pointer (some ⟨b,0,none⟩)))::env) w0 R (.blk b (vcells v)::E)) (hg:o.guard=none:=by exact rfl) (hd:o.dst=some d:=by exact rfl) (hdn:d<n:=by decide) (ho:o.op=.box t x:=by exact rfl) (hx:ev env x=some (true,v):=by exact rfl):WG false P ops Q (o::rest) n env w0 R E:=WL.ef hg hd hdn (Ef.box ho hx h)
theorem yO {P:Program} {n:Nat} {env:Env} {w0:World} {R:Ro} {E:List Ent} {o:Oper} {pc:Bool} {p:Bool} {q:Bool} {draw:Bool} {ops:List Oper} {rest:List Oper} {Q:Exit→Act→World→Prop} {x y:Operand} {b c:Bool} {d:Nat} (h:WG draw P ops Q rest n ((d,pc,.bool (b || c))::env) w0 R E) (hg:gpc ops env o=some pc:=by exact rfl) (hd:o.dst=some d:=by exact rfl) (hdn:d<n:=by decide) (ho:o.op=.pick x (.const (.bool true)) y:=by exact rfl) (hx:ev env x=some (p,.bool b):=by exact rfl) (hy:ev env y=some (q,.bool c):=by exact rfl) (hp:pc=true→p=true:=by first|exact fun _=>rfl|exact fun h=>h|(intro h;simp_all)) (hq:pc=true→b=false→q=true:=by intro h1 h2;simp_all<;>omega):WG draw P ops Q (o::rest) n env w0 R E:=WG.y hg hd hdn (Yl.por ho hx hy hp hq) h
theorem yN {P:Program} {n:Nat} {env:Env} {w0:World} {R:Ro} {E:List Ent} {o:Oper} {pc:Bool} {p:Bool} {q:Bool} {draw:Bool} {ops:List Oper} {rest:List Oper} {Q:Exit→Act→World→Prop} {x y:Operand} {b c:Bool} {d:Nat} (h:WG draw P ops Q rest n ((d,pc,.bool (b && c))::env) w0 R E) (hg:gpc ops env o=some pc:=by exact rfl) (hd:o.dst=some d:=by exact rfl) (hdn:d<n:=by decide) (ho:o.op=.pick x y (.const (.bool false)):=by exact rfl) (hx:ev env x=some (p,.bool b):=by exact rfl) (hy:ev env y=some (q,.bool c):=by exact rfl) (hp:pc=true→p=true:=by first|exact fun _=>rfl|exact fun h=>h|(intro h;simp_all)) (hq:pc=true→b=true→q=true:=by intro h1 h2;simp_all<;>omega):WG draw P ops Q (o::rest) n env w0 R E:=WG.y hg hd hdn (Yl.pand ho hx hy hp hq) h
theorem yG {P:Program} {T:Tab} {n:Nat} {env:Env} {w0:World} {R:Ro} {E:List Ent} {o:Oper} {pc:Bool} {p:Bool} {draw:Bool} {ops:List Oper} {rest:List Oper} {Q:Exit→Act→World→Prop} {t:TypeId} {x:Operand} {ad:Addr} {cs:List Value} {dd:TD} {v:Value} {d:Nat} (hrd:True→Rd R E ad cs) (h:WG draw P ops Q rest n ((d,pc,v)::env) w0 R E) (hT:TabOk P T:=by exact tab_ok) (hg:gpc ops env o=some pc:=by exact rfl) (hd:o.dst=some d:=by exact rfl) (hdn:d<n:=by decide) (ho:o.op=.load t x:=by exact rfl) (hdt:T.at t=some dd:=by exact rfl) (hx:ev env x=some (p,.pointer (some ad)):=by exact rfl) (hp:pc=true→p=true:=by first|exact fun _=>rfl|exact fun h=>h|(intro h;simp_all)) (hk:dd.k.known=true:=by exact rfl) (hv:loadV dd cs=some v:=by exact rfl):WG draw P ops Q (o::rest) n env w0 R E:=WG.y hg hd hdn (Yl.loadG hT ho hdt hx hp hrd hk hv (fun _=>trivial)) h
theorem yR {P:Program} {T:Tab} {n:Nat} {env:Env} {w0:World} {R:Ro} {E:List Ent} {o:Oper} {pc:Bool} {p:Bool} {draw:Bool} {ops:List Oper} {rest:List Oper} {Q:Exit→Act→World→Prop} {t:TypeId} {x:Operand} {ad:Addr} {cs:List Value} {dd:TD} {v:Value} {d:Nat} (h:WG draw P ops Q rest n ((d,pc,v)::env) w0 R E) (hT:TabOk P T:=by exact tab_ok) (hg:gpc ops env o=some pc:=by exact rfl) (hd:o.dst=some d:=by exact rfl) (hdn:d<n:=by decide) (ho:o.op=.load t x:=by exact rfl) (hdt:T.at t=some dd:=by exact rfl) (hx:ev env x=some (p,.pointer (some ad)):=by exact rfl) (hp:pc=true→p=true:=by exact fun _=>rfl) (hrd:Rd R E ad cs:=by(apply RS.rdD;assumption;((try dsimp only)<;>omega))) (hk:dd.k.known=true:=by exact rfl) (hv:loadV dd cs=some v:=by exact rfl):WG draw P ops Q (o::rest) n env w0 R E:=WG.y hg hd hdn (Yl.load1 hT ho hdt hx hp hrd hk hv) h
theorem yD {P:Program} {T:Tab} {n:Nat} {env:Env} {w0:World} {R:Ro} {E:List Ent} {o:Oper} {pc:Bool} {p:Bool} {draw:Bool} {ops:List Oper} {rest:List Oper} {Q:Exit→Act→World→Prop} {t:TypeId} {x:Operand} {ad:Addr} {cs:List Value} {dd:TD} {v:Value} {d:Nat} (hT:TabOk P T:=by exact tab_ok) (hg:gpc ops env o=some pc:=by exact rfl) (hd:o.dst=some d:=by exact rfl) (hdn:d<n:=by decide) (ho:o.op=.load t x:=by exact rfl) (hdt:T.at t=some dd:=by exact rfl) (hx:ev env x=some (p,.pointer (some ad)):=by exact rfl) (hp:pc=true→p=true:=by exact fun _=>rfl) (r:Rd R E ad cs) (hk:dd.k.known=true:=by exact rfl) (hv:loadV dd cs=some v:=by exact rfl) (k:WG draw P ops Q rest n ((d,pc,v)::env) w0 R E):WG draw P ops Q (o::rest) n env w0 R E:=WG.y hg hd hdn (Yl.load1 hT ho hdt hx hp r hk hv) k
theorem tD {P:Program} {T:Tab} {n:Nat} {env:Env} {w0:World} {R:Ro} {R0:Ro} {E:List Ent} {ES:List Ent} {o:Oper} {pc:Bool} {p:Bool} {ops:List Oper} {Q:Exit→Act→World→Prop} {fuel:Nat} {listed:Array Bool} {t:TypeId} {x:Operand} {ad:Addr} {cs:List Value} {dd:TD} {v:Value} {d:Nat} (i:Nat) (hT:TabOk P T:=by exact tab_ok) (hi:ops.toArray[i]?=some o:=by exact rfl) (hs:Region.noSelect ops.toArray=true:=by kernel_rfl) (hf:Region.free .any ops.toArray listed i=true:=by kernel_rfl) (hr:(Region.ready .any ops.toArray listed).contains i=true:=by kernel_rfl) (hg:gpc ops env o=some pc:=by exact rfl) (hd:o.dst=some d:=by exact rfl) (hdn:d<n:=by decide) (ho:o.op=.load t x:=by exact rfl) (hdt:T.at t=some dd:=by exact rfl) (hx:ev env x=some (p,.pointer (some ad)):=by exact rfl) (hp:pc=true→p=true:=by exact fun _=>rfl) (r:Rd R0 ES ad cs) (hk:dd.k.known=true:=by exact rfl) (hv:loadV dd cs=some v:=by exact rfl) (hsub:ES.Sublist E:=by(repeat (first|exact List.Sublist.refl _|exact List.nil_sublist _|apply List.Sublist.cons_cons|apply List.Sublist.cons));done) (hR:RLe R0 R:=by first|exact RLe.refl _|assumption) (k:WA P ops Q ES R0 w0 fuel (listed.setIfInBounds i true) n ((d,pc,v)::env) R E):WA P ops Q ES R0 w0 (fuel+1) listed n env R E:=WA.take i hi hs hf hr hg hd hdn (Yl.load1 hT ho hdt hx hp r hk hv) hsub hR k
theorem yJ {P:Program} {T:Tab} {n:Nat} {env:Env} {w0:World} {R:Ro} {E:List Ent} {o:Oper} {pc:Bool} {p:Bool} {draw:Bool} {ops:List Oper} {rest:List Oper} {Q:Exit→Act→World→Prop} {t:TypeId} {x:Operand} {ad:Addr} {cs:List Value} {dd:TD} {v:Value} {d:Nat} {C:Prop} (hT:TabOk P T:=by exact tab_ok) (hg:gpc ops env o=some pc:=by exact rfl) (hd:o.dst=some d:=by exact rfl) (hdn:d<n:=by decide) (ho:o.op=.load t x:=by exact rfl) (hdt:T.at t=some dd:=by exact rfl) (hx:ev env x=some (p,.pointer (some ad)):=by exact rfl) (hp:pc=true→p=true:=by first|exact fun _=>rfl|exact fun h=>h|(intro h;simp_all)) (r:C→Rd R E ad cs) (hk:dd.k.known=true:=by exact rfl) (hv:loadV dd cs=some v:=by exact rfl) (g:pc=true→C:=by first|exact fun _=>trivial|(intro hg;(try simp only[zk] at hg);(try dsimp only);omega)) (k:WG draw P ops Q rest n ((d,pc,v)::env) w0 R E):WG draw P ops Q (o::rest) n env w0 R E:=WG.y hg hd hdn (Yl.loadG hT ho hdt hx hp r hk hv g) k
theorem yM {P:Program} {T:Tab} {n:Nat} {env:Env} {w0:World} {R:Ro} {E:List Ent} {o:Oper} {pc:Bool} {p:Bool} {draw:Bool} {ops:List Oper} {rest:List Oper} {Q:Exit→Act→World→Prop} {t:TypeId} {x:Operand} {b off:Nat} {cs:List Value} {dd:TD} {v:Value} {d:Nat} (i:Nat) (h:WG draw P ops Q rest n ((d,pc,v)::env) w0 R E) (hE:E[i]?=some (.blk b cs):=by exact rfl) (hT:TabOk P T:=by exact tab_ok) (hg:gpc ops env o=some pc:=by exact rfl) (hd:o.dst=some d:=by exact rfl) (hdn:d<n:=by decide) (ho:o.op=.load t x:=by exact rfl) (hdt:T.at t=some dd:=by exact rfl) (hx:ev env x=some (p,.pointer (some ((⟨b,0,none⟩:Addr).add off))):=by exact rfl) (hp:pc=true→p=true:=by exact fun _=>rfl) (hk:dd.k.known=true:=by exact rfl) (hv:loadV dd (cs.drop off)=some v:=by exact rfl):WG draw P ops Q (o::rest) n env w0 R E:=WG.y hg hd hdn (Yl.load1 hT ho hdt hx hp (Rd.add (Rd.blk i hE) off) hk hv) h
theorem yB {P:Program} {T:Tab} {n:Nat} {env:Env} {w0:World} {R:Ro} {E:List Ent} {o:Oper} {pc:Bool} {p:Bool} {draw:Bool} {ops:List Oper} {rest:List Oper} {Q:Exit→Act→World→Prop} {t:TypeId} {x:Operand} {b:Nat} {cs:List Value} {dd:TD} {v:Value} {d:Nat} (i:Nat) (h:WG draw P ops Q rest n ((d,pc,v)::env) w0 R E) (hE:E[i]?=some (.blk b cs):=by exact rfl) (hT:TabOk P T:=by exact tab_ok) (hg:gpc ops env o=some pc:=by exact rfl) (hd:o.dst=some d:=by exact rfl) (hdn:d<n:=by decide) (ho:o.op=.load t x:=by exact rfl) (hdt:T.at t=some dd:=by exact rfl) (hx:ev env x=some (p,.pointer (some ⟨b,0,none⟩)):=by exact rfl) (hp:pc=true→p=true:=by exact fun _=>rfl) (hk:dd.k.known=true:=by exact rfl) (hv:loadV dd cs=some v:=by exact rfl):WG draw P ops Q (o::rest) n env w0 R E:=WG.y hg hd hdn (Yl.load1 hT ho hdt hx hp (Rd.blk i hE) hk hv) h
theorem yW {P:Program} {T:Tab} {n:Nat} {env:Env} {w0:World} {R:Ro} {E:List Ent} {o:Oper} {pc:Bool} {q:Bool} {draw:Bool} {ops:List Oper} {rest:List Oper} {Q:Exit→Act→World→Prop} {t:TypeId} {dd:TD} {fs:List (Nat × Nat)} {vs:List (Nat × Value)} {cs:List Value} {d:Nat} (parts:List (Nat × Operand)) (h:WG draw P ops Q rest n ((d,pc,.agg cs.toArray)::env) w0 R E) (hT:TabOk P T:=by exact tab_ok) (hg:gpc ops env o=some pc:=by exact rfl) (hd:o.dst=some d:=by exact rfl) (hdn:d<n:=by decide) (ho:o.op=.build t parts.toArray:=by exact rfl) (hdt:T.at t=some dd:=by exact rfl) (hk:dd.k=.strct fs:=by exact rfl) (hv:evParts env parts=some (q,vs):=by exact rfl) (hq:pc=true→q=true:=by exact fun _=>rfl) (hin:fs.all (fun x=>Nat.blt 0 x.2)=true:=by exact rfl) (hb:buildCells fs dd.zero (vs.map fun x=>(x.1,vcells x.2))=some cs:=by exact rfl):WG draw P ops Q (o::rest) n env w0 R E:=WG.y hg hd hdn (Yl.build hT ho hdt hk hv hq hin hb) h
theorem yI {P:Program} {T:Tab} {n:Nat} {env:Env} {w0:World} {R:Ro} {E:List Ent} {o:Oper} {pc:Bool} {p:Bool} {q:Bool} {draw:Bool} {ops:List Oper} {rest:List Oper} {Q:Exit→Act→World→Prop} {t e:TypeId} {x y:Operand} {a:Option Addr} {l c:Nat} {i:Nat} {dd d2:TD} {d:Nat} (h:WG draw P ops Q rest n ((d,pc,.pointer (some (eaddr a d2.size i)))::env) w0 R E) (hT:TabOk P T:=by exact tab_ok) (hg:gpc ops env o=some pc:=by exact rfl) (hd:o.dst=some d:=by exact rfl) (hdn:d<n:=by decide) (ho:o.op=.indexAddr t x y:=by exact rfl) (hdt:T.at t=some dd:=by exact rfl) (hk:dd.k=.slice e:=by exact rfl) (hd2:T.at e=some d2:=by exact rfl) (hx:ev env x=some (p,.slice a l c):=by exact rfl) (hy:ev env y=some (q,.int .i64 (i:Int)):=by exact rfl) (hpq:pc=true→(p && q)=true:=by exact fun _=>rfl) (hii:pc=true→i<l:=by intro _;(try dsimp only)<;>omega) (hh:pc=true→HasMem R E a l:=by exact qH):WG draw P ops Q (o::rest) n env w0 R E:=WG.y hg hd hdn (Yl.indexN hT ho hdt hk hd2 hx hy hpq hii hh) h
theorem yX {P:Program} {T:Tab} {n:Nat} {env:Env} {w0:World} {R:Ro} {E:List Ent} {o:Oper} {pc:Bool} {p:Bool} {q:Bool} {draw:Bool} {ops:List Oper} {rest:List Oper} {Q:Exit→Act→World→Prop} {t e:TypeId} {x y:Operand} {a:Option Addr} {l c:Nat} {i:Int} {dd d2:TD} {d:Nat} (h:WG draw P ops Q rest n ((d,pc,.pointer (some (eaddr a d2.size i.toNat)))::env) w0 R E) (hT:TabOk P T:=by exact tab_ok) (hg:gpc ops env o=some pc:=by exact rfl) (hd:o.dst=some d:=by exact rfl) (hdn:d<n:=by decide) (ho:o.op=.indexAddr t x y:=by exact rfl) (hdt:T.at t=some dd:=by exact rfl) (hk:dd.k=.slice e:=by exact rfl) (hd2:T.at e=some d2:=by exact rfl) (hx:ev env x=some (p,.slice a l c):=by exact rfl) (hy:ev env y=some (q,.int .i64 i):=by exact rfl) (hpq:pc=true→(p && q)=true:=by exact fun _=>rfl) (hii:pc=true→0≤i∧i<l:=by intro _;constructor<;>(try dsimp only)<;>omega) (hh:pc=true→HasMem R E a l:=by exact qH):WG draw P ops Q (o::rest) n env w0 R E:=WG.y hg hd hdn (Yl.index hT ho hdt hk hd2 hx hy hpq hii hh) h
theorem gI {P:Program} {T:Tab} {n:Nat} {env:Env} {w0:World} {R:Ro} {E:List Ent} {o:Oper} {pc:Bool} {p:Bool} {q:Bool} {draw:Bool} {ops:List Oper} {rest:List Oper} {Q:Exit→Act→World→Prop} {t e:TypeId} {x y:Operand} {a:Option Addr} {l c:Nat} {i:Nat} {dd d2:TD} {d:Nat} (h:WG draw P ops Q rest n ((d,pc,.pointer (some (eaddr a d2.size i)))::env) w0 R E) (hT:TabOk P T:=by exact tab_ok) (hg:gpc ops env o=some pc:=by exact rfl) (hd:o.dst=some d:=by exact rfl) (hdn:d<n:=by decide) (ho:o.op=.indexAddr t x y:=by exact rfl) (hdt:T.at t=some dd:=by exact rfl) (hk:dd.k=.slice e:=by exact rfl) (hd2:T.at e=some d2:=by exact rfl) (hx:ev env x=some (p,.slice a l c):=by exact rfl) (hy:ev env y=some (q,.int .i64 (i:Int)):=by exact rfl) (hpq:pc=true→(p && q)=true:=by first|exact fun _=>rfl|exact fun h=>h|(intro h;simp_all)) (hii:pc=true→i<l:=by intro hg;(try simp only[zk] at hg);(try dsimp only)<;>omega) (hh:pc=true→HasMem R E a l:=by intro hg;(try simp only[zk] at hg);first|exact qI):WG draw P ops Q (o::rest) n env w0 R E:=WG.y hg hd hdn (Yl.indexN hT ho hdt hk hd2 hx hy hpq hii hh) h
theorem gX {P:Program} {T:Tab} {n:Nat} {env:Env} {w0:World} {R:Ro} {E:List Ent} {o:Oper} {pc:Bool} {p:Bool} {q:Bool} {draw:Bool} {ops:List Oper} {rest:List Oper} {Q:Exit→Act→World→Prop} {t e:TypeId} {x y:Operand} {a:Option Addr} {l c:Nat} {i:Int} {dd d2:TD} {d:Nat} (h:WG draw P ops Q rest n ((d,pc,.pointer (some (eaddr a d2.size i.toNat)))::env) w0 R E) (hT:TabOk P T:=by exact tab_ok) (hg:gpc ops env o=some pc:=by exact rfl) (hd:o.dst=some d:=by exact rfl) (hdn:d<n:=by decide) (ho:o.op=.indexAddr t x y:=by exact rfl) (hdt:T.at t=some dd:=by exact rfl) (hk:dd.k=.slice e:=by exact rfl) (hd2:T.at e=some d2:=by exact rfl) (hx:ev env x=some (p,.slice a l c):=by exact rfl) (hy:ev env y=some (q,.int .i64 i):=by exact rfl) (hpq:pc=true→(p && q)=true:=by first|exact fun _=>rfl|exact fun h=>h|(intro h;simp_all)) (hii:pc=true→0≤i∧i<l:=by intro hg;(try simp only[zk] at hg);constructor<;>(try dsimp only)<;>omega) (hh:pc=true→HasMem R E a l:=by intro hg;(try simp only[zk] at hg);first|exact qI):WG draw P ops Q (o::rest) n env w0 R E:=WG.y hg hd hdn (Yl.index hT ho hdt hk hd2 hx hy hpq hii hh) h
theorem tI {P:Program} {T:Tab} {n:Nat} {env:Env} {w0:World} {R:Ro} {R0:Ro} {E:List Ent} {ES:List Ent} {o:Oper} {pc:Bool} {p:Bool} {q:Bool} {ops:List Oper} {Q:Exit→Act→World→Prop} {fuel:Nat} {listed:Array Bool} {t e:TypeId} {x y:Operand} {a:Option Addr} {l c:Nat} {i:Nat} {dd d2:TD} {d:Nat} (j:Nat) (h:WA P ops Q ES R0 w0 fuel (listed.setIfInBounds j true) n ((d,pc,.pointer (some (eaddr a d2.size i)))::env) R E) (hT:TabOk P T:=by exact tab_ok) (hi:ops.toArray[j]?=some o:=by exact rfl) (hs:Region.noSelect ops.toArray=true:=by kernel_rfl) (hf:Region.free .any ops.toArray listed j=true:=by kernel_rfl) (hr:(Region.ready .any ops.toArray listed).contains j=true:=by kernel_rfl) (hg:gpc ops env o=some pc:=by exact rfl) (hd:o.dst=some d:=by exact rfl) (hdn:d<n:=by decide) (ho:o.op=.indexAddr t x y:=by exact rfl) (hdt:T.at t=some dd:=by exact rfl) (hk:dd.k=.slice e:=by exact rfl) (hd2:T.at e=some d2:=by exact rfl) (hx:ev env x=some (p,.slice a l c):=by exact rfl) (hy:ev env y=some (q,.int .i64 (i:Int)):=by exact rfl) (hpq:pc=true→(p && q)=true:=by exact fun _=>rfl) (hii:pc=true→i<l:=by intro _;(try dsimp only)<;>omega) (hh:pc=true→HasMem R0 ES a l:=by exact qH) (hsub:ES.Sublist E:=by(repeat (first|exact List.Sublist.refl _|exact List.nil_sublist _|apply List.Sublist.cons_cons|apply List.Sublist.cons));done) (hR:RLe R0 R:=by first|exact RLe.refl _|assumption):WA P ops Q ES R0 w0 (fuel+1) listed n env R E:=WA.take j hi hs hf hr hg hd hdn (Yl.indexN hT ho hdt hk hd2 hx hy hpq hii hh) hsub hR h
theorem tX {P:Program} {T:Tab} {n:Nat} {env:Env} {w0:World} {R:Ro} {R0:Ro} {E:List Ent} {ES:List Ent} {o:Oper} {pc:Bool} {p:Bool} {q:Bool} {ops:List Oper} {Q:Exit→Act→World→Prop} {fuel:Nat} {listed:Array Bool} {t e:TypeId} {x y:Operand} {a:Option Addr} {l c:Nat} {i:Int} {dd d2:TD} {d:Nat} (j:Nat) (h:WA P ops Q ES R0 w0 fuel (listed.setIfInBounds j true) n ((d,pc,.pointer (some (eaddr a d2.size i.toNat)))::env) R E) (hT:TabOk P T:=by exact tab_ok) (hi:ops.toArray[j]?=some o:=by exact rfl) (hs:Region.noSelect ops.toArray=true:=by kernel_rfl) (hf:Region.free .any ops.toArray listed j=true:=by kernel_rfl) (hr:(Region.ready .any ops.toArray listed).contains j=true:=by kernel_rfl) (hg:gpc ops env o=some pc:=by exact rfl) (hd:o.dst=some d:=by exact rfl) (hdn:d<n:=by decide) (ho:o.op=.indexAddr t x y:=by exact rfl) (hdt:T.at t=some dd:=by exact rfl) (hk:dd.k=.slice e:=by exact rfl) (hd2:T.at e=some d2:=by exact rfl) (hx:ev env x=some (p,.slice a l c):=by exact rfl) (hy:ev env y=some (q,.int .i64 i):=by exact rfl) (hpq:pc=true→(p && q)=true:=by exact fun _=>rfl) (hii:pc=true→0≤i∧i<l:=by intro _;constructor<;>(try dsimp only)<;>omega) (hh:pc=true→HasMem R0 ES a l:=by exact qH) (hsub:ES.Sublist E:=by(repeat (first|exact List.Sublist.refl _|exact List.nil_sublist _|apply List.Sublist.cons_cons|apply List.Sublist.cons));done) (hR:RLe R0 R:=by first|exact RLe.refl _|assumption):WA P ops Q ES R0 w0 (fuel+1) listed n env R E:=WA.take j hi hs hf hr hg hd hdn (Yl.index hT ho hdt hk hd2 hx hy hpq hii hh) hsub hR h
theorem yU {P:Program} {n:Nat} {env:Env} {w0:World} {R:Ro} {E:List Ent} {o:Oper} {pc:Bool} {p:Bool} {q:Bool} {draw:Bool} {ops:List Oper} {rest:List Oper} {Q:Exit→Act→World→Prop} {t t2:TypeId} {x y:Operand} {a b:Int} {d:Nat} (h:WG draw P ops Q rest n ((d,pc,.int .i64 (a*b))::env) w0 R E) (hg:gpc ops env o=some pc:=by exact rfl) (hd:o.dst=some d:=by exact rfl) (hdn:d<n:=by decide) (ho:o.op=.binOp .mul t x y t2:=by exact rfl) (hx:ev env x=some (p,.int .i64 a):=by exact rfl) (hy:ev env y=some (q,.int .i64 b):=by exact rfl) (hpq:pc=true→(p && q)=true:=by exact fun _=>rfl) (hr:pc=true→InR (a*b):=by intro _;constructor<;>(try dsimp only)<;>omega):WG draw P ops Q (o::rest) n env w0 R E:=WG.y hg hd hdn (Yl.mul ho hx hy hpq hr) h
theorem yV {P:Program} {n:Nat} {env:Env} {w0:World} {R:Ro} {E:List Ent} {o:Oper} {pc:Bool} {p:Bool} {q:Bool} {draw:Bool} {ops:List Oper} {rest:List Oper} {Q:Exit→Act→World→Prop} {t t2:TypeId} {x y:Operand} {a b:Int} {d:Nat} (h:WG draw P ops Q rest n ((d,pc,.int .i64 (a / b))::env) w0 R E) (hg:gpc ops env o=some pc:=by exact rfl) (hd:o.dst=some d:=by exact rfl) (hdn:d<n:=by decide) (ho:o.op=.binOp .quo t x y t2:=by exact rfl) (hx:ev env x=some (p,.int .i64 a):=by exact rfl) (hy:ev env y=some (q,.int .i64 b):=by exact rfl) (hpq:pc=true→(p && q)=true:=by exact fun _=>rfl) (hr:pc=true→0≤a∧a≤9223372036854775807:=by intro _;constructor<;>(try dsimp only)<;>omega) (hb0:pc=true→0<b:=by intro _;omega):WG draw P ops Q (o::rest) n env w0 R E:=WG.y hg hd hdn (Yl.quo ho hx hy hpq hr hb0) h
theorem zr1 {P:Program} {T:Tab} {n:Nat} {env:Env} {w0:World} {R:Ro} {E:List Ent} {fn:Func} {Post:Value→Ro→List Ent→Prop} {rs:List ResultVar} {v:Value} (hp:Post (resVal [v]) R E) (hT:TabOk P T:=by exact tab_ok) (hr:fn.results=rs.toArray:=by exact rfl) (ha:ResAll T env R E rs [v]:=by exact⟨rfl,trivial⟩) (hds:markOf env=none:=by rfl):WE (bodyPost P fn (FnR w0 R Post)) .ret n env w0 R E:=WE.retF hT [v] hr ha (RLe.refl _) hp hds
theorem zq1 {P:Program} {T:Tab} {n:Nat} {env:Env} {w0:World} {R:Ro} {R0:Ro} {E:List Ent} {fn:Func} {Post:Value→Ro→List Ent→Prop} {rs:List ResultVar} {v:Value} (hR:RLe R0 R) (hp:Post (resVal [v]) R E) (hT:TabOk P T:=by exact tab_ok) (hr:fn.results=rs.toArray:=by exact rfl) (ha:ResAll T env R E rs [v]:=by exact⟨rfl,trivial⟩) (hds:markOf env=none:=by rfl):WE (bodyPost P fn (FnR w0 R0 Post)) .ret n env w0 R E:=WE.retF hT [v] hr ha hR hp hds
theorem zr2 {P:Program} {T:Tab} {n:Nat} {env:Env} {w0:World} {R:Ro} {E:List Ent} {fn:Func} {Post:Value→Ro→List Ent→Prop} {rs:List ResultVar} {v u:Value} (hp:Post (resVal [v,u]) R E) (hT:TabOk P T:=by exact tab_ok) (hr:fn.results=rs.toArray:=by exact rfl) (ha:ResAll T env R E rs [v,u]:=by exact⟨rfl,rfl,trivial⟩) (hds:markOf env=none:=by rfl):WE (bodyPost P fn (FnR w0 R Post)) .ret n env w0 R E:=WE.retF hT [v,u] hr ha (RLe.refl _) hp hds
theorem zq2 {P:Program} {T:Tab} {n:Nat} {env:Env} {w0:World} {R:Ro} {R0:Ro} {E:List Ent} {fn:Func} {Post:Value→Ro→List Ent→Prop} {rs:List ResultVar} {v u:Value} (hR:RLe R0 R) (hp:Post (resVal [v,u]) R E) (hT:TabOk P T:=by exact tab_ok) (hr:fn.results=rs.toArray:=by exact rfl) (ha:ResAll T env R E rs [v,u]:=by exact⟨rfl,rfl,trivial⟩) (hds:markOf env=none:=by rfl):WE (bodyPost P fn (FnR w0 R0 Post)) .ret n env w0 R E:=WE.retF hT [v,u] hr ha hR hp hds
theorem zr3 {P:Program} {T:Tab} {n:Nat} {env:Env} {w0:World} {R:Ro} {E:List Ent} {fn:Func} {Post:Value→Ro→List Ent→Prop} {rs:List ResultVar} {v:Value} (hp:Post (resVal [v]) R E) (hT:TabOk P T:=by exact tab_ok) (hr:fn.results=rs.toArray:=by exact rfl) (ha:ResAll T env R E rs [v]:=by exact⟨⟨_,_,_,rfl,rfl,rfl,qB,rfl⟩,trivial⟩) (hds:markOf env=none:=by rfl):WE (bodyPost P fn (FnR w0 R Post)) .ret n env w0 R E:=WE.retF hT [v] hr ha (RLe.refl _) hp hds
theorem zq3 {P:Program} {T:Tab} {n:Nat} {env:Env} {w0:World} {R:Ro} {R0:Ro} {E:List Ent} {fn:Func} {Post:Value→Ro→List Ent→Prop} {rs:List ResultVar} {v:Value} (hR:RLe R0 R) (hp:Post (resVal [v]) R E) (hT:TabOk P T:=by exact tab_ok) (hr:fn.results=rs.toArray:=by exact rfl) (ha:ResAll T env R E rs [v]:=by exact⟨⟨_,_,_,rfl,rfl,rfl,qB,rfl⟩,trivial⟩) (hds:markOf env=none:=by rfl):WE (bodyPost P fn (FnR w0 R0 Post)) .ret n env w0 R E:=WE.retF hT [v] hr ha hR hp hds
theorem zr4 {P:Program} {T:Tab} {n:Nat} {env:Env} {w0:World} {R:Ro} {E:List Ent} {fn:Func} {Post:Value→Ro→List Ent→Prop} {rs:List ResultVar} {v u:Value} (hp:Post (resVal [v,u]) R E) (hT:TabOk P T:=by exact tab_ok) (hr:fn.results=rs.toArray:=by exact rfl) (ha:ResAll T env R E rs [v,u]:=by exact⟨⟨_,_,_,rfl,rfl,rfl,qB,rfl⟩,rfl,trivial⟩) (hds:markOf env=none:=by rfl):WE (bodyPost P fn (FnR w0 R Post)) .ret n env w0 R E:=WE.retF hT [v,u] hr ha (RLe.refl _) hp hds
theorem zq4 {P:Program} {T:Tab} {n:Nat} {env:Env} {w0:World} {R:Ro} {R0:Ro} {E:List Ent} {fn:Func} {Post:Value→Ro→List Ent→Prop} {rs:List ResultVar} {v u:Value} (hR:RLe R0 R) (hp:Post (resVal [v,u]) R E) (hT:TabOk P T:=by exact tab_ok) (hr:fn.results=rs.toArray:=by exact rfl) (ha:ResAll T env R E rs [v,u]:=by exact⟨⟨_,_,_,rfl,rfl,rfl,qB,rfl⟩,rfl,trivial⟩) (hds:markOf env=none:=by rfl):WE (bodyPost P fn (FnR w0 R0 Post)) .ret n env w0 R E:=WE.retF hT [v,u] hr ha hR hp hds
theorem cD {P:Program} {n:Nat} {env:Env} {w0:World} {R:Ro} {E:List Ent} {Q:Exit→Act→World→Prop} {x y:Code} {c:Operand} {b:Prop} [Decidable b] (hc:ev env c=some (true,.bool (decide b))) (ht:b→W P x Q n env w0 R E) (hf:¬ b→W P y Q n env w0 R E):W P (.cond c x y) Q n env w0 R E:=W.condD hc ht hf
theorem cE {P:Program} {n:Nat} {env:Env} {w0:World} {R:Ro} {E:List Ent} {Q:Exit→Act→World→Prop} {x y:Code} {c:Operand} {a b:Int} (hc:ev env c=some (true,.bool (a == b))) (ht:a=b→W P x Q n env w0 R E) (hf:a≠b→W P y Q n env w0 R E):W P (.cond c x y) Q n env w0 R E:=W.condE hc ht hf
theorem cN {P:Program} {n:Nat} {env:Env} {w0:World} {R:Ro} {E:List Ent} {Q:Exit→Act→World→Prop} {x y:Code} {c:Operand} {a b:Int} (hc:ev env c=some (true,.bool (a != b))) (ht:a≠b→W P x Q n env w0 R E) (hf:a=b→W P y Q n env w0 R E):W P (.cond c x y) Q n env w0 R E:=W.condN hc ht hf
theorem cC {P:Program} {n:Nat} {env:Env} {w0:World} {R:Ro} {E:List Ent} {Q:Exit→Act→World→Prop} {x y:Code} {c:Operand} {b:Bool} (hc:ev env c=some (true,.bool (b))) (ht:b=true→W P x Q n env w0 R E) (hf:b=false→W P y Q n env w0 R E):W P (.cond c x y) Q n env w0 R E:=W.cond hc ht hf
theorem vP {P:Program} {T:Tab} {n:Nat} {env:Env} {w0:World} {R:Ro} {R0:Ro} {E:List Ent} {ES:List Ent} {o:Oper} {pc:Bool} {q:Bool} {ops:List Oper} {Q:Exit→Act→World→Prop} {fuel:Nat} {listed:Array Bool} {ES2:List Ent} {D:List Nat} {v:Value} {d:Nat} (i:Nat) (h:VA P ops Q ES ES2 D R0 w0 fuel (listed.setIfInBounds i true) n ((d,pc,v)::env) R E) (hT:TabOk P T:=by exact tab_ok) (hi:ops.toArray[i]?=some o:=by exact rfl) (hs:Region.noSelect ops.toArray=true:=by kernel_rfl) (hf:Region.free .any ops.toArray listed i=true:=by kernel_rfl) (hr:(Region.ready .any ops.toArray listed).contains i=true:=by kernel_rfl) (hDi:D.contains i=false:=by kernel_rfl) (hw:waitsD .any ops.toArray D i=true:=by kernel_rfl) (hn:noneD D listed=true:=by kernel_rfl) (hg:gpc ops env o=some pc:=by exact rfl) (hd:o.dst=some d:=by exact rfl) (hdn:d<n:=by decide) (hv:pureV T env o.op=some (q,v):=by exact rfl) (hq:pc=true→q=true:=by exact fun _=>rfl) (hsub:ES.Sublist E:=by(repeat (first|exact List.Sublist.refl _|exact List.nil_sublist _|apply List.Sublist.cons_cons|apply List.Sublist.cons));done) (hR:RLe R0 R:=by first|exact RLe.refl _|assumption) (hs2:ES2.Sublist E:=by(repeat (first|exact List.Sublist.refl _|exact List.nil_sublist _|apply List.Sublist.cons_cons|apply List.Sublist.cons));done):VA P ops Q ES ES2 D R0 w0 (fuel+1) listed n env R E:=VA.take2 i hi hs hf hr hDi hw hn hg hd hdn (pureV_ok hT hv hq) hsub hR hs2 h
theorem vD {P:Program} {T:Tab} {n:Nat} {env:Env} {w0:World} {R:Ro} {R0:Ro} {E:List Ent} {ES:List Ent} {o:Oper} {pc:Bool} {p:Bool} {ops:List Oper} {Q:Exit→Act→World→Prop} {fuel:Nat} {listed:Array Bool} {t:TypeId} {x:Operand} {ad:Addr} {cs:List Value} {dd:TD} {ES2:List Ent} {D:List Nat} {v:Value} {d:Nat} (i:Nat) (hT:TabOk P T:=by exact tab_ok) (hi:ops.toArray[i]?=some o:=by exact rfl) (hs:Region.noSelect ops.toArray=true:=by kernel_rfl) (hf:Region.free .any ops.toArray listed i=true:=by kernel_rfl) (hr:(Region.ready .any ops.toArray listed).contains i=true:=by kernel_rfl) (hDi:D.contains i=false:=by kernel_rfl) (hw:waitsD .any ops.toArray D i=true:=by kernel_rfl) (hn:noneD D listed=true:=by kernel_rfl) (hg:gpc ops env o=some pc:=by exact rfl) (hd:o.dst=some d:=by exact rfl) (hdn:d<n:=by decide) (ho:o.op=.load t x:=by exact rfl) (hdt:T.at t=some dd:=by exact rfl) (hx:ev env x=some (p,.pointer (some ad)):=by exact rfl) (hp:pc=true→p=true:=by exact fun _=>rfl) (r:Rd R0 ES2 ad cs) (hk:dd.k.known=true:=by exact rfl) (hv:loadV dd cs=some v:=by exact rfl) (hsub:ES.Sublist E:=by(repeat (first|exact List.Sublist.refl _|exact List.nil_sublist _|apply List.Sublist.cons_cons|apply List.Sublist.cons));done) (hR:RLe R0 R:=by first|exact RLe.refl _|assumption) (hs2:ES2.Sublist E:=by(repeat (first|exact List.Sublist.refl _|exact List.nil_sublist _|apply List.Sublist.cons_cons|apply List.Sublist.cons));done) (k:VA P ops Q ES ES2 D R0 w0 fuel (listed.setIfInBounds i true) n ((d,pc,v)::env) R E):VA P ops Q ES ES2 D R0 w0 (fuel+1) listed n env R E:=VA.take2 i hi hs hf hr hDi hw hn hg hd hdn (Yl.load1 hT ho hdt hx hp r hk hv) hsub hR hs2 k
theorem sE {n:Nat} {env:Env} {w0:World} {R:Ro} {E:List Ent} {ES:List Ent} {Q:Exit→Act→World→Prop} {x:Exit} (h:WE Q x n env w0 R E) (hE:E.Sublist ES:=by(repeat (first|exact List.Sublist.refl _|exact List.nil_sublist _|apply List.Sublist.cons_cons|apply List.Sublist.cons));done):WE Q x n env w0 R ES:=WE.subE hE h
theorem qB {P:Prop} (h:P:=by first|exact Rd.blk 0 rfl|exact Rd.blk 1 rfl|exact Rd.blk 2 rfl|exact Rd.blk 3 rfl|exact Rd.blk 4 rfl|exact Rd.blk 5 rfl|exact Rd.blk 6 rfl|exact Rd.blk 7 rfl|exact Rd.blk 8 rfl|exact Rd.blk 9 rfl|exact Rd.blk 10 rfl|exact Rd.blk 11 rfl|exact Rd.blk 12 rfl):P:=h
end Go.Proofs.YtehaepbflkncdaaGreat
set_option maxRecDepth 4000
set_option linter.unusedSimpArgs false
set_option linter.unusedVariables false
namespace Go.Proofs.YtehaepbflkncdaaGreat
open Go Go.RowKit Go.Proofs.YtehaepbflkncdaaGreat.K Go.Proofs.YtehaepbflkncdaaGreat.M
def encT (l:List UInt8):List Value:=[.string (str l)]
end Go.Proofs.YtehaepbflkncdaaGreat
namespace Go.Proofs.YtehaepbflkncdaaGreat.M
open Go Go.Proofs.YtehaepbflkncdaaGreat.K
section
variable {names:List (List UInt8)} {Ls:List Ln} {f:Fl}
end
theorem routeGo_ok {ls:List Ln} {cl:Int}:∀ (r met:List Int),(∀ l∈r,(0≤l∧l<ls.length)∧l∉met∧0≤cl∧cl<(nth ls l.toNat).n)→r.Nodup→routeGo ls cl met r=0
 | [],_,_,_=>rfl
 | x::r,met,h,hd=>by
  obtain⟨h1,h2,h3⟩:=h x (by simp)
  rw[routeGo,if_neg (by omega),if_neg h2,if_neg (by omega)]
  refine routeGo_ok r _ (fun l hl=>?_) (List.nodup_cons.1 hd).2
  obtain⟨g1,g2,g3⟩:=h l (by simp[hl])
  refine⟨g1,fun hm=>?_,g3⟩
  rcases List.mem_append.1 hm with hm|hm
  ·exact g2 hm
  ·rw[List.mem_singleton.1 hm] at hl;exact(List.nodup_cons.1 hd).1 hl
theorem DrawF.flE {k m:Nat} {f:Fl} {Ls:List Ln} {met:List (List UInt8)} (h:DrawF k m f) (hm:Ls.length=m) (hk:∀ L∈Ls,L.n=(k:Int)) (hw:wordB f.name=true) (hn:f.name∉met):flE met Ls f=0∧FlRight Ls f:=by
 have hl:=h.len
 have hs:=h.sizes
 have hc:=h.cls
 obtain⟨v1,v2,v3,_⟩:=stair_valid h.cv
 have hf:frE met f.name=0:=by unfold frE;rw[if_neg (by rw[hw];decide),if_neg hn]
 have hr:routeE Ls f=0:=by
  unfold routeE
  rw[if_neg (by omega),if_neg (by omega)]
  refine routeGo_ok _ _ (fun l hl=>?_) h.nodup
  have hlr:=h.route l hl
  have hll:l.toNat<Ls.length:=by omega
  exact⟨by omega,by simp,hc.1,by rw[hk _ (nth_mem hll)];exact hc.2⟩
 have ht:trafE f=0:=by unfold trafE;rw[if_neg (by omega),if_neg (by rw[v1];decide),if_neg (fun hh=>hh v2),if_neg (by rw[v3];decide)]
 have he:M.flE met Ls f=0:=by unfold M.flE;rw[if_neg (fun hh=>hh hf),if_neg (fun hh=>hh hr),ht]
 exact⟨he,(flE_zero he).1⟩
structure DrawN (k:Nat) (ms:List LnM) (fs:List FlM):Prop where
  hk:k=1∨k=2
  hm:1≤ms.length∧ms.length≤4
  hf4:fs.length≤4
  hl:∀ m∈ms,DrawP k m.L
  hf:∀ x∈fs,DrawF k ms.length x.f
  hn:fs.map FlM.nm=nf5.take fs.length
theorem nf5_word:∀ x∈nf5,wordB x=true:=by
 intro x hx
 simp only[nf5,List.mem_cons,List.not_mem_nil,or_false] at hx
 rcases hx with rfl|rfl|rfl|rfl|rfl<;>kernel_rfl
theorem chkFs_ok {ls:List Ln}:∀ (Fs:List Fl) (met:List (List UInt8)),(∀ f∈Fs,∀ met',f.name∉met'→flE met' ls f=0)→(met++Fs.map (·.name)).Nodup→chkFs ls met Fs=0
 | [],_,_,_=>rfl
 | f :: r, met, h, hd => by
  have hn:f.name∉met:=fun hm=>by
   rw[List.nodup_append] at hd
   exact hd.2.2 _ hm _ (by simp) rfl
  have h0:=h f (by simp) met hn
  rw[chkFs,if_neg (fun e=>e h0)]
  exact chkFs_ok r _ (fun g hg=>h g (by simp[hg])) (by rw[List.append_assoc];exact hd)
section
variable {k:Nat} {ms:List LnM} {fs:List FlM}
end
def fLn (m:LnM):LnM:=⟨none,0,none,0,⟨1,m.L.cap,1,[],[]⟩⟩
def gFl (m:FlM):FlM:=⟨m.a1,m.c1,m.a2,m.c2,⟨m.f.name,m.f.route,0,m.f.lo,m.f.hi,m.f.cv⟩⟩
def mixL {α:Type} (f:α→α) (i:Nat) (xs:List α):List α:=(xs.take i).map f++xs.drop i
section
variable {α:Type} {f:α→α} {i:Nat} {xs:List α}
theorem mix_all:mixL f xs.length xs=xs.map f:=by unfold mixL;rw[List.take_length,List.drop_length,List.append_nil]
theorem mix_len (h:i≤xs.length):(mixL f i xs).length=xs.length:=by unfold mixL;rw[List.length_append,List.length_map,List.length_take,List.length_drop];omega
theorem mix_nth [Inhabited α] (h:i<xs.length):nth (mixL f i xs) i=nth xs i:=by
 have hl:((xs.take i).map f).length=i:=by rw[List.length_map,List.length_take];omega
 unfold mixL
 rw[drop_nth h,nth_eq (by rw[List.length_append,hl,List.length_cons];omega),List.getElem_append_right (by omega)]
 simp only[hl,Nat.sub_self,List.getElem_cons_zero]
theorem mix_set [Inhabited α] (h:i<xs.length):(mixL f i xs).set i (f (nth xs i))=mixL f (i+1) xs:=by
 have hl:((xs.take i).map f).length=i:=by rw[List.length_map,List.length_take];omega
 unfold mixL
 rw[drop_nth h,List.set_append_right _ _ (by omega),hl,Nat.sub_self,List.set_cons_zero,take_nth h,List.map_append,List.append_assoc]
 rfl
end
structure FlatN (ms:List LnM) (fs:List FlM):Prop where
  hm:1≤ms.length∧ms.length≤4
  hf4:fs.length≤4
  hl:∀ m∈ms,∃ c:Int,m=⟨none,0,none,0,⟨1,c,1,[],[]⟩⟩∧1≤c∧c≤4000
  hf:∀ x∈fs,DrawF 1 ms.length x.f∧x.f.cls=0∧x.f.route.length≤x.c1
  hn:fs.map FlM.nm=nf5.take fs.length
theorem flat_of {k:Nat} {ms:List LnM} {fs:List FlM} (h:DrawN k ms fs) (hc:∀ x∈fs,x.f.route.length≤x.c1):FlatN (ms.map fLn) (fs.map gFl):=by
 refine⟨by rw[List.length_map];exact h.hm,by rw[List.length_map];exact h.hf4,fun m hm=>?_,fun x hx=>?_,?_⟩
 ·obtain⟨q,hq,rfl⟩:=List.mem_map.1 hm
  have:=(h.hl q hq).cap
  exact⟨q.L.cap,rfl,by omega,by omega⟩
 ·obtain⟨q,hq,rfl⟩:=List.mem_map.1 hx
  have hd:=h.hf q hq
  rw[List.length_map]
  exact⟨⟨⟨Int.le_refl _,by show (0:Int)<((1:Nat):Int);decide⟩,hd.sizes,hd.len,hd.route,hd.nodup,hd.cv⟩,rfl,hc q hq⟩
 ·rw[List.map_map,List.length_map]
  exact h.hn
theorem FlatN.take {ms:List LnM} {fs:List FlM} (h:FlatN ms fs) (j:Nat):FlatN ms (fs.take j):=by
 have h4:=h.hf4
 refine⟨h.hm,by rw[List.length_take];omega,h.hl,fun x hx=>h.hf x (List.mem_of_mem_take hx),?_⟩
 rw[List.map_take,h.hn,List.take_take,List.length_take]
theorem FlatN.set {ms:List LnM} {fs:List FlM} (h:FlatN ms fs) {i:Nat} {c:Int} (hc:1≤c∧c≤4000):FlatN (ms.set i ⟨none,0,none,0,⟨1,c,1,[],[]⟩⟩) fs:=by
 refine⟨by rw[List.length_set];exact h.hm,h.hf4,fun m hm=>?_,by rw[List.length_set];exact h.hf,h.hn⟩
 rcases List.mem_or_eq_of_mem_set hm with h1|rfl
 ·exact h.hl m h1
 ·exact⟨c,rfl,hc⟩
theorem FlatN.chk {ms:List LnM} {fs:List FlM} (h:FlatN ms fs):chkNet (nm4.take ms.length) (ms.map (·.L)) (fs.map (·.f))=0:=by
 have hm:=h.hm
 have h4:=h.hf4
 have l1:(nm4.take ms.length).length=ms.length:=by rw[List.length_take];show min _ 4=_;omega
 have e:(fs.map (·.f)).map (·.name)=nf5.take fs.length:=by rw[List.map_map];exact h.hn
 have hL:∀ L∈ms.map (·.L),chkL L=0∧L.n=((1:Nat):Int):=fun L hL=>by
  obtain⟨m,hm,rfl⟩:=List.mem_map.1 hL
  obtain⟨c,rfl,hc⟩:=h.hl m hm
  refine⟨?_,rfl⟩
  unfold chkL
  dsimp only
  rw[if_neg (by decide),if_neg (by omega)]
  rfl
 have hz:chkLs [] ((nm4.take ms.length).zip (ms.map (·.L)))=0:=by
  refine chkLs_ok _ _ (fun x hx=>?_) ?_
  ·have h1:=List.of_mem_zip (a:=x.1) (b:=x.2) hx
   exact⟨(nm4_len h1.1).2,(hL _ h1.2).1⟩
  ·rw[List.nil_append,List.map_fst_zip (by rw[l1,List.length_map];omega)]
   exact(show nm4.Nodup by decide).sublist (List.take_sublist _ _)
 unfold chkNet
 rw[List.length_map,List.length_map,l1,if_neg (by omega),if_neg (fun hh=>hh rfl),if_neg (fun hh=>hh hz)]
 refine chkFs_ok _ _ (fun f hf met hn=>?_) ?_
 ·obtain⟨x,hx,rfl⟩:=List.mem_map.1 hf
  refine((h.hf x hx).1.flE (List.length_map ..) (fun L hL'=>(hL L hL').2) ?_ hn).1
  refine nf5_word _ (List.mem_of_mem_take (i:=fs.length) ?_)
  rw[← e]
  exact List.mem_map_of_mem (List.mem_map_of_mem hx)
 ·rw[List.nil_append,e]
  exact(show nf5.Nodup by decide).sublist (List.take_sublist _ _)
theorem FlatN.bn {ms:List LnM} {fs:List FlM} (h:FlatN ms fs):BnG ms fs:=by
 have hm:=h.hm
 have h4:=h.hf4
 refine⟨fun m hm=>?_,fun m hm=>?_,fun m hm=>?_,by omega,by omega⟩
 ·obtain⟨c,rfl,_⟩:=h.hl m hm
  exact⟨rfl,rfl,Nat.le_refl _⟩
 ·obtain⟨c,rfl,hc⟩:=h.hl m hm
  dsimp only
  exact⟨by omega,hc.2⟩
 ·obtain⟨d,hc,hr⟩:=h.hf m hm
  obtain⟨v1,_,v3,_⟩:=stair_valid d.cv
  exact⟨by have:=d.len;omega,hr,v1,v3,hc,d.route⟩
theorem FlatN.okLn {ms:List LnM} {fs:List FlM} (h:FlatN ms fs) (R:Ro):∀ m∈ms,OkLn R m:=fun m hm=>by
 obtain⟨c,rfl,_⟩:=h.hl m hm
 exact⟨K.rs_nil,K.rs_nil⟩
theorem gFl_ok {R:Ro} {fs:List FlM} (h:∀ x∈fs,OkFl R x):∀ x∈fs.map gFl,OkFl R x:=fun x hx=>by
 obtain⟨y,hy,rfl⟩:=List.mem_map.1 hx
 have:=h y hy
 exact⟨this.route,this.vals,this.len,this.name⟩
theorem nth_one (x:Int):nth [x] 0=x:=rfl
theorem least_less {fs ext:List FlM} {ms ms':List LnM} (hA:BnG ms (fs++ext)) (hB:BnG ms' fs) (hll:ms'.length=ms.length) (hcap:∀ l,l<ms.length→(nth ms l).L.cap≤(nth ms' l).L.cap) {ja jb:Nat} {ra rb:List Sl}
  (a1:IsD ms (fs++ext) (ja+1) ra) (a2:itD ms (fs++ext) (ja+1)=itD ms (fs++ext) ja) (a3:∀ i,i≤ja+1→∀ v∈itD ms (fs++ext) i,0≤v) (b1:IsD ms' fs (jb+1) rb) (b3:∀ i,i≤jb+1→∀ v∈itD ms' fs i,0≤v) :
  rb.length=ra.length∧(∀ i,i<rb.length→(nth rb i).xs.length=(nth ra i).xs.length)∧leD rb ra:=by
 have hl:rb.length=ms.length:=by rw[b1.1,hll]
 refine⟨by rw[hl,a1.1],fun i hi=>by rw[b1.2 i (by omega),a1.2 i (by omega)];simp only[List.length_cons,List.length_nil],fun i hi c hc=>?_⟩
 have hil:i<ms.length:=by omega
 rw[b1.2 i (by omega)] at hc ⊢
 rw[a1.2 i hil]
 have hc0:c=0:=by simp at hc;omega
 subst hc0
 rw[nth_one,nth_one]
 have hfix:stepD ms (fs++ext) (itD ms (fs++ext) (ja+1))=itD ms (fs++ext) (ja+1):=by
  have:itD ms (fs++ext) (ja+1)=stepD ms (fs++ext) (itD ms (fs++ext) ja):=rfl
  rw[a2]
  exact this.symm.trans a2
 refine⟨b3 _ (Nat.le_refl _) _ ?_,bes_less hA.bf hA.bl hB.bl hll hcap (itD_len _ _ _) (fun x hx=>⟨a3 _ (Nat.le_refl _) x hx,itD_le _ _ _ x hx⟩) hfix (jb+1) b3 i hil⟩
 exact nth_mem (by rw[itD_len,hll];exact hil)
end Go.Proofs.YtehaepbflkncdaaGreat.M
set_option maxRecDepth 4000
set_option linter.unusedSimpArgs false
set_option linter.unusedVariables false
namespace Go.Proofs.YtehaepbflkncdaaGreat
open Go Go.RowKit Go.Proofs.YtehaepbflkncdaaGreat.K Go.Proofs.YtehaepbflkncdaaGreat.M
theorem tmod_gt (x:Int) {n:Int} (h:0<n):-n<x.tmod n:=by
 rcases Int.le_total 0 x with h0|h0
 ·have:=Int.tmod_nonneg n h0;omega
 ·have h1:=Int.neg_tmod (a:=x) (b:=n)
  have h2:=Int.tmod_lt_of_pos (-x) h
  omega
theorem mod_pos {x n:Int} (h:1≤n) (hc:¬ x.tmod n<0):x.tmod n=x % n:=by
 rw[Int.tmod_eq_emod] at hc ⊢
 split at hc
 ·rename_i h1;rw[if_pos h1];omega
 ·rename_i h1
  rw[if_neg h1]
  have:=Int.emod_lt_of_pos x (show 0<n by omega)
  have h2:(n.natAbs:Int)=n:=by omega
  omega
theorem mod_neg {x n:Int} (h:1≤n) (hc:x.tmod n<0):x.tmod n+n=x % n:=by
 rw[Int.tmod_eq_emod] at hc ⊢
 split at hc
 ·rename_i h1
  have:=Int.emod_nonneg x (show n≠0 by omega)
  omega
 ·rename_i h1;rw[if_neg h1]
  have h2:(n.natAbs:Int)=n:=by omega
  omega
theorem src_end {b:Nat} {a:Option Addr} {cp:Nat} {xs:List Int} {c:Nat} (h:xs.length≤c):srcE b a cp xs c=srcE b a cp xs (c+1):=by
 unfold srcE
 rw[show min c xs.length=min (c+1) xs.length by omega]
theorem src_next {b:Nat} {a:Option Addr} {cp:Nat} {xs:List Int} {c:Nat} (h:c<xs.length):Ent.blk b [.slice a xs.length cp,.int .i64 (((min c xs.length:Nat):Int)+1)]=srcE b a cp xs (c+1):=by
 unfold srcE
 rw[show ((min c xs.length:Nat):Int)+1=((min (c+1) xs.length:Nat):Int) by omega]
theorem Mod_V {R:Ro} {x n:Int} (hn:InR n):FnV Tryz.prog 40 [.int .i64 x,.int .i64 n] R (.int .i64 (mod x n)):=by
 refine Fn.toV (fun w0 E=>?_)
 refine fE 16 Tryz.func40 ?_
 refine zQ (zG (zR 1 rfl (zN (zU (zQ (zQ (zG (zR 2 rfl (zN (zU ?_))))))))))
 refine cD rfl ?_ ?_<;>intro hc0
 ·
  refine zQ (zG (zR 1 rfl (zN (zU (zT (wt ?_))))))
  refine zr1 ?_
  exact⟨by unfold mod;rw[if_pos hc0];rfl,rfl⟩
 ·
  refine zK (zU (zQ (zG (zR 2 rfl ?_))))
  refine WG.y rfl rfl qD (Yl.tmod rfl rfl rfl (fun _=>rfl) (by intro _;omega)) ?_
  refine zR 1 rfl (zN (zU (zQ (zQ (zG (zR 2 rfl (zN (zU ?_))))))))
  refine cD rfl ?_ ?_<;>intro hc1
  ·
   refine zG (zR 2 rfl ?_)
   refine WG.y rfl rfl qD (Yl.add rfl rfl rfl (fun _=>rfl) (by intro _;have h9:=tmod_gt x (show (0:Int)<n by omega);constructor<;>omega)) ?_
   refine zR 1 rfl (zN (zU (zQ (zG (zR 2 rfl (zN (zU (zT ?_))))))))
   refine zr1 ?_
   refine⟨congrArg (Value.int .i64) ?_,rfl⟩
   unfold mod;rw[if_neg hc0];exact mod_neg (by omega) hc1
  ·
   refine zK (zU (zQ (zG (zR 2 rfl (zN (zU (zT ?_)))))))
   refine zr1 ?_
   refine⟨congrArg (Value.int .i64) ?_,rfl⟩
   unfold mod;rw[if_neg hc0];exact mod_pos (by omega) hc1
theorem Raw_C {R:Ro} {b:Nat} {a:Option Addr} {cp:Nat} {xs:List Int} {c:Nat} (w0:World) (ha:RS R 1 encI a xs):FnAt Tryz.prog 56 [.pointer (some ⟨b,0,none⟩)] w0 R (srcE b a cp xs c) (RdPost (.int .i64 (nth xs c)) R (srcE b a cp xs (c+1))):=by
 intro F
 have hla:=ha.len
 refine fE 31 Tryz.func56 ?_
 refine zQ (zG (zR 1 rfl (zN (zU (zQ (zQ ?_))))))
 refine W.regionQ _ mixed qK ?_
 refine zR 3 rfl ?_
 refine yM 0 ?_
 refine zR 3 rfl ?_
 refine yM 0 ?_
 refine zR 2 rfl (zN (zU ?_))
 refine cD rfl ?_ ?_<;>intro hc0
 ·
  refine zQ (zG (zR 1 rfl (zN (zU (zT (wt ?_))))))
  refine zr1 ?_
  exact⟨_,[],rfl,by rw[nth_out (by omega)];rfl,rfl,src_end (by omega),rfl⟩
 ·
  refine zK (zU (zQ (zG (zR 3 rfl ?_))))
  refine yM 0 ?_
  refine yA ?_
  refine zR 2 rfl ?_
  refine zF 0 ?_
  refine zN (zU (zQ ?_))
  refine W.regionQ _ mixed qK ?_
  refine zR 3 rfl ?_
  refine yM 0 ?_
  refine zR 3 rfl ?_
  refine yM 0 ?_
  refine yS ?_
  refine yX ?_
  refine yD (r:=by((apply RS.rdD;assumption;((try dsimp only)<;>omega)))) (k:=?_)
  refine zR 1 rfl (zN (zU (zT ?_)))
  refine zr1 ?_
  exact⟨_,[],rfl,congrArg (fun i=>Value.int .i64 (nth xs i)) (show _=c by omega),rfl,src_next qO,rfl⟩
theorem N_C {R:Ro} {b:Nat} {a:Option Addr} {cp:Nat} {xs:List Int} {c:Nat} (w0:World) {n:Int} (ha:RS R 1 encI a xs) (hn:InR n):FnAt Tryz.prog 29 [.pointer (some ⟨b,0,none⟩),.int .i64 n] w0 R (srcE b a cp xs c) (RdPost (.int .i64 (mod (nth xs c) n)) R (srcE b a cp xs (c+1))):=by
 intro F
 refine fE 9 Tryz.func29 ?_
 refine zQ (zG (zR 1 rfl (zN (zU (zQ (zG (zR 1 rfl ?_)))))))
 refine WL.callAt 0 en56 rfl rfl qD (CallOp.mkT rfl rfl rfl rfl) rfl (Raw_C w0 ha _) ?_
 rintro _ _ _ _ - ⟨rfl,rfl,rfl,rfl⟩
 refine zR 1 rfl ?_
 refine WG.callV en40 rfl rfl qD (CallOp.mk' rfl rfl rfl rfl) (fun _=>rfl) (fun hg=>Mod_V hn) ?_
 refine zR 1 rfl (zN (zU (zT ?_)))
 refine zr1 ?_
 exact⟨_,[],rfl,rfl,rfl,rfl,rfl⟩
theorem Pick_C {R:Ro} {b:Nat} {a:Option Addr} {cp:Nat} {xs:List Int} {c:Nat} (w0:World) {a2:Option Addr} {c2:Nat} {ys:List Int} {j:Nat} {F:List Ent} (ha:RS R 1 encI a xs) (hy:F[j]?=some (.sl 3 1 a2 c2 (ys.map encI))) (hne:0<ys.length) (hl:ys.length≤1000000) :
  K.Fn Tryz.prog 39 [.pointer (some ⟨b,0,none⟩),.slice a2 ys.length c2] w0 R (srcE b a cp xs c::F) (fun v R' E'=>∃ e' N,E'=N++e'::F∧RdPost (.int .i64 (nth ys (mod (nth xs c) ys.length).toNat)) R (srcE b a cp xs (c+1)) v R' e' N):=by
 have hr:=mod_range (nth xs c) (show (1:Int)≤ys.length by omega)
 refine fE 12 Tryz.func39 ?_
 refine zQ (zG (zR 1 rfl (zN (zU (zQ (zG (zR 4 rfl ?_)))))))
 refine WL.callAt 0 en29 rfl rfl qD (CallOp.mkT rfl rfl rfl rfl) rfl (N_C w0 ha (by constructor<;>omega) _) ?_
 rintro _ _ _ _ - ⟨rfl,rfl,rfl,rfl⟩
 refine WG.y rfl rfl qD (Yl.index tab_ok rfl rfl rfl rfl rfl rfl (fun _=>rfl) qA (by intro _;first|exact HasMem.ownD (j+1) hy|exact qI)) ?_
 refine yD (r:=by(exact Rd.slD (j+1) hy qO)) (k:=?_)
 refine zR 1 rfl (zN (zU (zT ?_)))
 refine zr1 ?_
 exact⟨_,[],rfl,rfl,rfl,rfl,rfl⟩
theorem New_C {R:Ro} {a:Option Addr} {cp:Nat} {l:List Int} (w0:World) (E:List Ent) (hc:l.length≤cp) :
  K.Fn Tryz.prog 6 [.slice a l.length cp] w0 R E (fun v R' E'=>∃ b,v=.pointer (some ⟨b,0,none⟩)∧R=R'∧E'=srcE b a cp (l.take 2000) 0::E):=by
 refine fE 10 Tryz.func6 ?_
 refine zQ (zG (zR 1 rfl (zN (zU (zQ (zG (zR 4 rfl ?_)))))))
 refine WG.y rfl rfl qD (Yl.sliceH tab_ok rfl rfl rfl rfl rfl (fun _=>rfl) (by intro _;split<;>constructor<;>omega) rfl) ?_
 refine yW [(0,.tmp 7)] ?_
 refine zO fun b9=>?_
 refine zR 1 rfl (zN (zU (zT ?_)))
 refine zr1 ?_
 refine⟨_,rfl,rfl,?_⟩
 unfold srcE
 rw[List.length_take,Nat.min_comm 0,Nat.min_zero]
 have e1:((if (2000:Int)<(l.length:Int) then 2000 else (l.length:Int))).toNat=min 2000 l.length:=by split<;>omega
 exact congrArg (fun n=>Ent.blk _ [Value.slice a n cp,.int .i64 0]::E) e1


theorem LessD_V {R:Ro} {aa ba:Option Addr} {ac bc:Nat} {xs1 ys1:List Sl} (ha:RS R 1 encS aa xs1) (hb:RS R 1 encS ba ys1) (hra:∀ r∈xs1,RS R 1 encI r.a r.xs) (hrb:∀ r∈ys1,RS R 1 encI r.a r.xs) (hl:xs1.length=ys1.length) (hr:∀ i,i<xs1.length→(nth xs1 i).xs.length=(nth ys1 i).xs.length) (hle:leD xs1 ys1):FnV Tryz.prog 9 [.slice aa xs1.length ac,.slice ba ys1.length bc] R (.bool true):=by
 have hal:=ha.len
 have hbl:=hb.len
 refine FnV.ofOwn (fun w0 hb0=>?_)
 refine fE 62 Tryz.func9 ?_
 refine zQ (zG (zR 1 rfl (zN (zU ?_))))
 refine W.scope ?_
 refine zQ (zQ (zG (zR 5 rfl (zN (zU ?_)))))
 refine cN rfl ?_ ?_<;>intro hc0
 ·
  exfalso;omega
 ·
  refine zK (zU (zQ (zG (zR 1 rfl (zN (zU (zQ (W.label (zU (zQ (zQ (zG (zR 3 rfl (zN (zU (zB ?_))))))))))))))))
  refine W.loopK (β:=Nat) (fun i=>i≤xs1.length) (fun i=>[(5,true,.bool true),(17,true,.int .i64 (i:Int))]) [0,1,16] [_,_,_] [] _ rfl (fun i=>[]) (fun i=>xs1.length - i) (0) (Nat.zero_le _) ⟨rfl,rfl,rfl,rfl,rfl,rfl⟩ qS ?_
  intro i hst
  have hi:=hst
  refine zQ (zG (zR 1 rfl (zN (zU (zQ ?_)))))
  refine cD rfl ?_ ?_<;>intro hc1
  ·
   have hil:i<xs1.length:=by omega
   have hib:i<ys1.length:=by omega
   have h1:=hra _ (nth_mem hil)
   have h2:=hrb _ (nth_mem hib)
   have h1l:=h1.len
   have hri:=hr i hil
   refine zK (zU (zQ (zB (zQ (zG (zR 2 rfl (zN (zU (zQ (zQ ?_))))))))))
   refine W.regionQ _ mixed qK ?_
   refine zR 2 rfl ?_
   refine yI ?_
   refine yD (r:=by((apply RS.rdD;assumption;((try dsimp only)<;>omega)))) (k:=?_)
   refine zR 3 rfl ?_
   refine yI ?_
   refine yD (r:=by((apply RS.rdD;assumption;((try dsimp only)<;>omega)))) (k:=?_)
   refine zR 2 rfl (zN (zU ?_))
   refine cN rfl ?_ ?_<;>intro hc2
   ·
    exfalso;omega
   ·
    refine zK (zU (zQ (zG (zR 2 rfl ?_))))
    refine yI ?_
    refine yD (r:=by((apply RS.rdD;assumption;((try dsimp only)<;>omega)))) (k:=?_)
    refine zR 2 rfl (zN (zU (zB ?_)))
    refine W.loopK (β:=Nat) (fun c=>c≤(nth xs1 i).xs.length) (fun c=>[(5,true,.bool true),(36,true,.int .i64 (c:Int))]) [0,1,6,16,17,34,35] [_,_,_,_,_,_,_] [] _ rfl (fun c=>[]) (fun c=>(nth xs1 i).xs.length - c) (0) (Nat.zero_le _) ⟨rfl,rfl,rfl,rfl,rfl,rfl,rfl,rfl,rfl,rfl⟩ qS ?_
    intro c hst
    have hc:=hst
    refine zQ (zG (zR 1 rfl (zN (zU (zQ ?_)))))
    refine cD rfl ?_ ?_<;>intro hc3
    ·
     have hcl:c<(nth xs1 i).xs.length:=by omega
     have hlt:=hle i hil c hcl
     refine zK (zU (zQ (zB (zQ (zG (zR 1 rfl ?_))))))
     refine yI ?_
     refine yD (r:=by((apply RS.rdD;assumption;((try dsimp only)<;>omega)))) (k:=?_)
     refine zR 2 rfl (zN (zU (zQ (zG (zR 2 rfl ?_)))))
     refine yI ?_
     refine yD (r:=by((apply RS.rdD;assumption;((try dsimp only)<;>omega)))) (k:=?_)
     refine zR 1 rfl ?_
     refine yI ?_
     refine yD (r:=by((apply RS.rdD;assumption;((try dsimp only)<;>omega)))) (k:=?_)
     refine zR 1 rfl (zN (zU (zQ (zG (zR 3 rfl ?_)))))
     refine yP ?_
     refine yP ?_
     refine yP ?_
     refine yP ?_
     refine yP ?_
     refine yP ?_
     refine yO ?_
     refine yN ?_
     refine zN (zU ?_)
     refine cC rfl ?_ ?_<;>intro hc4
     ·try simp only[zk] at hc4
      exfalso;omega
     ·try simp only[zk] at hc4
      refine zK (zL (zU (zG ?_)))
      refine yA ?_
      refine zR 1 rfl (zN ?_)
      refine WE.again (c+1) qO (by(try dsimp only);omega) ⟨rfl,rfl,rfl,rfl,rfl,rfl,rfl,rfl,rfl,rfl⟩ (RLe.refl _) qS
    ·
     refine zX ?_
     refine wx (wx (zY (zL (zU (zG ?_)))))
     refine yA ?_
     refine zR 1 rfl (zN ?_)
     refine WE.again (i+1) qO (by(try dsimp only);omega) ⟨rfl,rfl,rfl,rfl,rfl,rfl⟩ (RLe.refl _) qS
  ·
   refine zX ?_
   refine wx (wx (zY (zU (zQ (zG (zR 2 rfl (zN (zU (zT ?_)))))))))
   refine WE.scope_ret ?_
   refine zr1 ?_
   exact rfl
set_option maxHeartbeats 1000000 in
theorem Bef_V {R:Ro} {na la fa:Option Addr} {nc lc fc nn nl:Nat} {fs:List FlM} (hfa:K.RS R 8 encFl fa fs) (hof:∀ m∈fs,OkFl R m) {da:Option Addr} {dc:Nat} {ds:List Sl} (hd:RS R 1 encS da ds) (hrd:∀ r∈ds,RS R 1 encI r.a r.xs) {i h:Nat} (hif:i<fs.length) (hh:h≤(nth fs i).f.route.length) (hcap:(nth fs i).f.route.length≤(nth fs i).c1) (hl8:(nth fs i).f.route.length≤100) (hro:∀ l∈(nth fs i).f.route,0≤l∧l<ds.length) (hcl:∀ r∈ds,0≤(nth fs i).f.cls∧(nth fs i).f.cls<r.xs.length∧∀ x∈r.xs,0≤x∧x≤400):FnV Tryz.prog 192 [.agg #[.slice na nn nc,.slice la nl lc,.slice fa fs.length fc],.slice da ds.length dc,.int .i64 (i:Int),.int .i64 (h:Int)] R (.tuple #[.int .i64 (befS ds (nth fs i).f.cls ((nth fs i).f.route.take h)),.bool true]):=by
 have hrt:=(hof _ (nth_mem hif)).route
 have hrl:=hrt.len
 have hdl:=hd.len
 refine Fn.toVS (fun w0 E=>?_)
 refine fE 44 Tryz.func192 ?_
 refine zQ (zG ?_)
 refine zO fun b4=>?_
 refine zR 2 rfl (zN (zU (zQ (zG (zR 1 rfl ?_)))))
 refine yM 0 ?_
 refine zR 1 rfl ?_
 refine yI ?_
 refine yD (r:=by((apply RS.rdD;assumption;((try dsimp only)<;>omega)))) (k:=?_)
 refine zA fun b10=>?_
 refine zE 0 ?_
 refine zR 1 rfl (zN (zU (zQ (zQ (zG (zR 1 rfl ?_))))))
 refine yM 0 ?_
 refine zR 1 rfl ?_
 refine WG.y rfl rfl qD (Yl.sliceH tab_ok rfl rfl rfl rfl rfl (fun _=>rfl) (by intro _;omega) rfl) ?_
 rw[show ((h:Int)).toNat=((nth fs i).f.route.take h).length by rw[List.length_take];omega]
 have htk:=hrt.take h
 have htl:((nth fs i).f.route.take h).length=h:=by rw[List.length_take];omega
 refine zR 2 rfl (zN (zU (zB ?_)))
 refine W.loopK (β:=Nat) (fun k=>k≤h∧0≤befS ds (nth fs i).f.cls ((nth fs i).f.route.take k)∧befS ds (nth fs i).f.cls ((nth fs i).f.route.take k)≤400*(k:Int)) (fun k=>[(11,true,.int .i64 (befS ds (nth fs i).f.cls ((nth fs i).f.route.take k))),(25,true,.int .i64 (k:Int))]) [1,10,23,24] [_,_,_,_] [] _ rfl (fun k=>[]) (fun k=>h - k) (0) (⟨Nat.zero_le _,by simp[befS],by simp[befS]⟩) ⟨rfl,rfl,rfl,rfl,rfl,rfl,rfl⟩ qS ?_
 intro k hst
 obtain⟨hk,hs0,hs1⟩:=hst
 refine zQ (zG (zR 1 rfl (zN (zU (zQ ?_)))))
 refine cD rfl ?_ ?_<;>intro hc0
 ·
  have hkl:k<h:=by omega
  have hkr:k<(nth fs i).f.route.length:=by omega
  have hnk:nth ((nth fs i).f.route.take h) k=nth (nth fs i).f.route k:=nth_takeB hkl hkr
  have hlk:=hro _ (nth_mem hkr)
  have hdk:(nth (nth fs i).f.route k).toNat<ds.length:=by omega
  have hck:=hcl _ (nth_mem hdk)
  have hrk:=hrd _ (nth_mem hdk)
  have hxk:=hck.2.2 _ (nth_mem (xs:=(nth ds (nth (nth fs i).f.route k).toNat).xs) (k:=(nth fs i).f.cls.toNat) (by omega))
  have hsn:befS ds (nth fs i).f.cls ((nth fs i).f.route.take (k+1))=befS ds (nth fs i).f.cls ((nth fs i).f.route.take k)+nth (nth ds (nth (nth fs i).f.route k).toNat).xs (nth fs i).f.cls.toNat:=by rw[take_nth hkr,befS_snoc]
  refine zK (zU (zQ (zB (zQ (zG ?_)))))
  refine yI ?_
  refine yD (r:=by((apply RS.rdD;assumption;((try dsimp only)<;>omega)))) (k:=?_)
  rw[hnk]
  refine zR 1 rfl (zN (zU (zQ ?_)))
  refine W.regionQ _ mixed qK ?_
  refine zR 2 rfl ?_
  refine yX ?_
  refine yD (r:=by((apply RS.rdD;assumption;((try dsimp only)<;>omega)))) (k:=?_)
  refine zR 1 rfl ?_
  refine yM 0 ?_
  refine yX ?_
  refine yD (r:=by((apply RS.rdD;assumption;((try dsimp only)<;>omega)))) (k:=?_)
  refine zR 1 rfl (zN (zU (zQ (zQ (zG (zR 2 rfl (zN (zU ?_))))))))
  refine cD rfl ?_ ?_<;>intro hc1
  ·
   exfalso;omega
  ·
   refine zK (zU (zG (zR 2 rfl ?_)))
   refine yA ?_
   refine zR 1 rfl (zN (zL (zU (zG ?_))))
   refine yA ?_
   refine zR 1 rfl (zN ?_)
   rw[← hsn]
   refine WE.again (k+1) (⟨by omega,by omega,by omega⟩) (by(try dsimp only);omega) ⟨rfl,rfl,rfl,rfl,rfl,rfl,rfl⟩ (RLe.refl _) qS
 ·
  obtain rfl:k=h:=by omega
  refine zX ?_
  refine wx (wx (zY (zU (zQ (zG (zR 3 rfl (zN (zU (zT ?_)))))))))
  refine zr2 ?_
  exact⟨rfl,qS⟩

set_option maxHeartbeats 1000000 in
theorem Word_V {R:Ro} {s:List UInt8} (hs:s.length≤9223372036854775807):FnV Tryz.prog 69 [.string (str s)] R (.bool (wordB s)):=by
 refine Fn.toV (fun w0 E=>?_)
 have hss:=str_size s
 have hse:str s=⟨#[]⟩↔s=[]:=⟨fun h=>str_inj (b:=[]) h,fun h=>by rw[h];rfl⟩
 have h0l:s≠[]→0<s.length:=List.length_pos_iff.2
 refine fE 49 Tryz.func69 ?_
 refine zQ (zG (zR 1 rfl (zN (zU (zQ (zQ (zG (zR 1 rfl ?_))))))))
 refine WG.y rfl rfl qD (Yl.eqS rfl rfl rfl (fun _=>rfl)) ?_
 refine zR 1 rfl ?_
 refine yP ?_
 refine yP ?_
 refine yP ?_
 refine yO ?_
 refine zR 1 rfl ?_
 refine yP ?_
 refine WG.y rfl rfl (by decide) (Yl.sidx tab_ok rfl rfl rfl rfl rfl qE (by intro hg;(try simp only[zk] at hg);(have h1:=hg;have h2:s≠[]:=(fun h=>by subst h;simp[str] at h1);have h3:=h0l h2;constructor<;>omega))) ?_
 refine yP ?_
 refine yO ?_
 refine zR 1 rfl ?_
 refine yP ?_
 refine WG.y rfl rfl (by decide) (Yl.sidx tab_ok rfl rfl rfl rfl rfl qE (by intro hg;(try simp only[zk] at hg);(have h1:=hg;have h2:s≠[]:=(fun h=>by subst h;simp[str] at h1);have h3:=h0l h2;constructor<;>omega))) ?_
 refine yP ?_
 refine yO ?_
 refine zN (zU ?_)
 refine cC rfl ?_ ?_<;>intro hc0
 ·try simp only[zk] at hc0
  have h00:byteAt s ((0:Int)).toNat=byteAt s 0:=rfl
  try rw[h00] at hc0
  have hno:wordB s=false:=by
   unfold wordB
   rw[decide_eq_false_iff_not]
   rintro⟨h1,h2,h3,h4⟩
   rcases hc0 with ((h|h)|h)|h
   ·rw[hse.1 h] at h1;simp at h1
   all_goals omega
  refine zQ (zG (zR 1 rfl (zN (zU (zT (wt ?_))))))
  refine sE (E:=E) ?_
  refine zr1 ?_
  exact⟨by rw[hno];rfl,rfl⟩
 ·try simp only[zk] at hc0
  have h00:byteAt s ((0:Int)).toNat=byteAt s 0:=rfl
  try rw[h00] at hc0
  have hne:s≠[]:=fun h=>by rw[h] at hc0;simp[str] at hc0
  have hl1:=h0l hne
  have hok:1≤s.length∧s.length≤12∧97≤byteAt s 0∧byteAt s 0≤122:=by omega
  refine zK (zU (zQ (zQ (zG (zR 1 rfl (zN (zU (zB ?_))))))))
  refine W.loopK (β:=Nat) (fun i=>(1≤i∧i≤s.length)∧∀ j,j<i→wordOk s j) (fun i=>[(3,true,.int .i64 (i:Int))]) [0] [_] [] _ rfl (fun i=>[]) (fun i=>s.length - i) (1) (⟨⟨Nat.le_refl _,hok.1⟩,fun j hj=>by
   obtain rfl:j=0:=by omega
   exact .inr (.inr hok.2.2)⟩) ⟨rfl,rfl,rfl⟩ qS ?_
  intro i hst
  refine zQ (zQ (zG (zR 4 rfl (zN (zU ?_)))))
  refine cD rfl ?_ ?_<;>intro hc1
  ·
   have hil:i<s.length:=by omega
   have hbt:byteAt s ((i:Int)).toNat=byteAt s i:=rfl
   refine zK (zU (zQ (zB (zQ (zG (zR 2 rfl ?_))))))
   refine WG.y rfl rfl qD (Yl.sidx tab_ok rfl rfl rfl rfl rfl (fun _=>rfl) qA) ?_
   refine zR 1 rfl (zN (zU (zQ (zG (zR 3 rfl ?_)))))
   refine yP ?_
   refine yP ?_
   refine yP ?_
   refine yP ?_
   refine yP ?_
   refine yO ?_
   refine yN ?_
   refine zR 1 rfl ?_
   refine yP ?_
   refine yP ?_
   refine yP ?_
   refine yP ?_
   refine yP ?_
   refine yO ?_
   refine yN ?_
   refine zN (zU ?_)
   refine cC rfl ?_ ?_<;>intro hc2
   ·try simp only[zk] at hc2
    have hno:wordB s=false:=by
     unfold wordB
     rw[decide_eq_false_iff_not]
     rintro⟨h1,h2,h3,h4⟩
     have:=h4 i hil
     unfold wordOk at this
     rw[hbt] at hc2
     omega
    refine zQ (zG (zR 1 rfl (zN (zU (zT (wb (wt (wt (wb (wt ?_))))))))))
    refine sE (E:=E) ?_
    refine zr1 ?_
    exact⟨by rw[hno];rfl,rfl⟩
   ·try simp only[zk] at hc2
    rw[hbt] at hc2
    have hy:wordOk s i:=by unfold wordOk;omega
    refine zK (zL (zU (zG (zR 1 rfl ?_))))
    refine yA ?_
    refine zR 1 rfl (zN ?_)
    refine WE.again (i+1) (⟨by omega,fun j hj=>by
     by_cases e:j=i
     ·subst e;exact hy
     ·exact hst.2 j (by omega)⟩) (by(try dsimp only);omega) ⟨rfl,rfl,rfl⟩ (RLe.refl _) qS
  ·
   obtain rfl:i=s.length:=by omega
   refine zX ?_
   refine wx (wx (zY (zU (zQ (zG (zR 1 rfl (zN (zU (zT ?_)))))))))
   refine sE (E:=E) ?_
   refine zr1 ?_
   exact⟨by rw[show wordB s=true from decide_eq_true ⟨hok.1,hok.2.1,hok.2.2,hst.2⟩];rfl,rfl⟩

theorem Fresh_C {R:Ro} {b:Nat} {met:List (List UInt8)} {n:List UInt8} (hn:n.length≤9223372036854775807) (w0:World):FnAt Tryz.prog 41 [.map (some b),.string (str n)] w0 R (.obj b (setO met)) (fun v R' e' N=>v=.int .i64 (frE met n)∧R=R'∧e'=.obj b (setO (if frE met n=0 then met++[n] else met))∧N=[]):=by
 intro F
 refine fE 13 Tryz.func41 ?_
 refine zQ (zG (zR 1 rfl (zN (zU (zQ (zQ (zG (zR 1 rfl ?_))))))))
 refine WG.callV en69 rfl rfl qD (CallOp.mk' rfl rfl rfl rfl) (fun _=>rfl) (fun hg=>Word_V (s:=n) hn) ?_
 refine zR 1 rfl (zN (zU ?_))
 refine cC rfl ?_ ?_<;>intro hc0
 ·try simp only[zk] at hc0
  have hw:wordB n=false:=by simpa using hc0
  have hf:frE met n=4:=if_pos hw
  refine zQ (zG (zR 1 rfl (zN (zU (zT (wt ?_))))))
  refine zr1 ?_
  exact⟨_,[],rfl,by rw[hf];rfl,rfl,by rw[hf];rfl,rfl⟩
 ·try simp only[zk] at hc0
  have hw:wordB n=true:=by simpa using hc0
  refine zK (zU (zQ (zQ (zG (zR 2 rfl ?_)))))
  refine WG.y rfl rfl qD (Yl.setHas tab_ok rfl rfl rfl rfl rfl rfl rfl rfl (fun _=>rfl)) ?_
  refine zN (zU ?_)
  refine cC rfl ?_ ?_<;>intro hc1
  ·try simp only[zk] at hc1
   have hi:n∈met:=by simpa using hc1
   have hf:frE met n=60:=by unfold frE;rw[if_neg (by rw[hw];decide),if_pos hi]
   refine zQ (zG (zR 1 rfl (zN (zU (zT (wt ?_))))))
   refine zr1 ?_
   exact⟨_,[],rfl,by rw[hf];rfl,rfl,by rw[hf];rfl,rfl⟩
  ·try simp only[zk] at hc1
   have hi:n∉met:=by simpa using hc1
   have hf:frE met n=0:=by unfold frE;rw[if_neg (by rw[hw];decide),if_neg hi]
   refine zK (zU (zQ (zG (zR 2 rfl ?_))))
   refine WL.efN rfl rfl (Ef.setAdd tab_ok rfl rfl rfl rfl rfl rfl rfl rfl (by simpa using hc1) ?_)
   refine zN (zU (zQ (zG (zR 1 rfl (zN (zU (zT ?_)))))))
   refine zr1 ?_
   exact⟨_,[],rfl,by rw[hf];rfl,rfl,by rw[hf,if_pos rfl],rfl⟩
end Go.Proofs.YtehaepbflkncdaaGreat