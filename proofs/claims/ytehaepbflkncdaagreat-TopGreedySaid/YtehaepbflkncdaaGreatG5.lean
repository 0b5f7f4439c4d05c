/- Rules and walks, joined from 19 texts: the first of them says: The reader of words. No condition. -/
import Derived.Test.YtehaepbflkncdaaGreatG4
set_option linter.unusedSimpArgs false
set_option linter.unusedVariables false
set_option linter.unnecessarySimpa false
namespace Go.Proofs.YtehaepbflkncdaaGreat
open Go Go.RowKit Go.Proofs.YtehaepbflkncdaaGreat.K
theorem qR {P : Prop} (h : P := by first | exact RLe.refl _ | assumption) : P := h
theorem qK {P : Prop} (h : P := by kernel_rfl) : P := h
theorem qD {P : Prop} (h : P := by decide) : P := h
theorem qA {P : Prop} (h : P := by intro _; constructor <;> (try dsimp only) <;> omega) : P := h
theorem qN {P : Prop} (h : P := by intro _; (try dsimp only) <;> omega) : P := h
theorem qP {P : Prop} (h : P := by intro h1 h2; simp_all <;> omega) : P := h
theorem qX {P : Prop} (h : P := by (try dsimp only) <;> omega) : P := h
theorem qU {P : Prop} (h : P := by assumption) : P := h
theorem qO {P : Prop} (h : P := by omega) : P := h
theorem qH {P : Prop} (h : P := by intro _; first | exact fun _ _ _ _ => rfl | exact RS.has (by assumption) | exact fun _ _ _ _ => (by assumption) | exact HasMem.ownD 0 rfl | exact HasMem.ownD 1 rfl | exact HasMem.ownD 2 rfl | exact HasMem.ownD 3 rfl | exact HasMem.ownD 4 rfl | exact HasMem.ownD 5 rfl | exact HasMem.ownD 6 rfl | exact HasMem.ownD 7 rfl | exact HasMem.ownD 8 rfl | exact HasMem.ownD 9 rfl | exact HasMem.ownD 10 rfl | exact HasMem.ownD 11 rfl) : P := h
theorem qI {P : Prop} (h : P := by first | exact fun _ _ _ _ => rfl | exact RS.has (by assumption) | exact fun _ _ _ _ => (by assumption) | exact HasMem.ownD 0 rfl | exact HasMem.ownD 1 rfl | exact HasMem.ownD 2 rfl | exact HasMem.ownD 3 rfl | exact HasMem.ownD 4 rfl | exact HasMem.ownD 5 rfl | exact HasMem.ownD 6 rfl | exact HasMem.ownD 7 rfl | exact HasMem.ownD 8 rfl | exact HasMem.ownD 9 rfl | exact HasMem.ownD 10 rfl | exact HasMem.ownD 11 rfl) : P := h
theorem zk : (∀ (p : Prop) [Decidable p], (decide p = true) = p) ∧ (∀ (p : Prop) [Decidable p], (decide p = false) ↔ ¬ p) ∧ (∀ (α : Type) [BEq α] [LawfulBEq α] (a b : α), (a == b) = true ↔ a = b) ∧ (∀ (α : Type) [BEq α] [LawfulBEq α] (a b : α), (a != b) = true ↔ a ≠ b) ∧ (∀ (α : Type) [BEq α] [LawfulBEq α] (a b : α), (a == b) = false ↔ a ≠ b) ∧ (∀ (α : Type) [BEq α] [LawfulBEq α] (a b : α), (a != b) = false ↔ a = b) ∧ (∀ (α : Type) (a b : α), (a ≠ b) = ¬ (a = b)) ∧ (∀ (a b : Bool), ((a || b) = true) = (a = true ∨ b = true)) ∧ (∀ (a b : Bool), (a || b) = false ↔ a = false ∧ b = false) ∧ (∀ (a b : Bool), ((a && b) = true) = (a = true ∧ b = true)) ∧ (∀ (a b : Bool), (a && b) = false ↔ (a = true → b = false)) ∧ (∀ (b : Bool), (¬ (b = true)) = (b = false)) ∧ (∀ (b : Bool), ((!b) = true) = (b = false)) ∧ (∀ (b : Bool), ((!b) = false) = (b = true)) ∧ (∀ (a : Prop), ¬ ¬ a ↔ a) ∧ (∀ (a b : Int), ¬ (a < b) ↔ b ≤ a) ∧ (∀ (a b : Int), ¬ (a ≤ b) ↔ b < a) ∧ (∀ (α : Type) [LT α] (x y : α), x > y ↔ y < x) ∧ (∀ (α : Type) [LE α] (x y : α), x ≥ y ↔ y ≤ x) := by
 refine ⟨by intros; first | exact decide_eq_true_eq | exact decide_eq_true_eq .. | simp, by intros; first | exact decide_eq_false_iff_not | exact decide_eq_false_iff_not .. | simp, by intros; first | exact beq_iff_eq | exact beq_iff_eq .. | simp, by intros; first | exact bne_iff_ne | exact bne_iff_ne .. | simp, by intros; first | exact beq_eq_false_iff_ne | exact beq_eq_false_iff_ne .. | simp, by intros; first | exact bne_eq_false_iff_eq | exact bne_eq_false_iff_eq .. | simp, by intros; first | exact ne_eq | exact ne_eq .. | simp, by intros; first | exact Bool.or_eq_true | exact Bool.or_eq_true .. | simp, by intros; first | exact Bool.or_eq_false_iff | exact Bool.or_eq_false_iff .. | simp, by intros; first | exact Bool.and_eq_true | exact Bool.and_eq_true .. | simp, by intros; first | exact Bool.and_eq_false_imp | exact Bool.and_eq_false_imp .. | simp, by intros; first | exact Bool.not_eq_true | exact Bool.not_eq_true .. | simp, by intros; first | exact Bool.not_eq_true' | exact Bool.not_eq_true' .. | simp, by intros; first | exact Bool.not_eq_false' | exact Bool.not_eq_false' .. | simp, by intros; first | exact Classical.not_not | exact Classical.not_not .. | simp, by intros; first | exact Int.not_lt | exact Int.not_lt .. | simp, by intros; first | exact Int.not_le | exact Int.not_le .. | simp, by intros; first | exact gt_iff_lt | exact gt_iff_lt .. | simp, by intros; first | exact ge_iff_le | exact ge_iff_le .. | simp⟩
theorem tP {P : Program} {T : Tab} {n : Nat} {env : Env} {w0 : World} {R : Ro} {R0 : Ro} {E : List Ent} {ES : List Ent} {o : Oper} {pc : Bool} {q : Bool} {ops : List Oper} {Q : Exit → Act → World → Prop} {fuel : Nat} {listed : Array Bool} {v : Value} {d : Nat} (i : Nat) (h : WA P ops Q ES R0 w0 fuel (listed.setIfInBounds i true) n ((d, pc, v) :: env) R E) (hT : TabOk P T := by exact tab_ok) (hi : ops.toArray[i]? = some o := by exact rfl) (hs : Region.noSelect ops.toArray = true := by kernel_rfl) (hf : Region.free .any ops.toArray listed i = true := by kernel_rfl) (hr : (Region.ready .any ops.toArray listed).contains i = true := by kernel_rfl) (hg : gpc ops env o = some pc := by exact rfl) (hd : o.dst = some d := by exact rfl) (hdn : d < n := by decide) (hv : pureV T env o.op = some (q, v) := by exact rfl) (hq : pc = true → q = true := by exact fun _ => rfl) (hsub : ES.Sublist E := by (repeat (first | exact List.Sublist.refl _ | exact List.nil_sublist _ | apply List.Sublist.cons_cons | apply List.Sublist.cons)); done) (hR : RLe R0 R := by first | exact RLe.refl _ | assumption) : WA P ops Q ES R0 w0 (fuel + 1) listed n env R E := WA.take i hi hs hf hr hg hd hdn (pureV_ok hT hv hq) hsub hR h
theorem tL {P : Program} {T : Tab} {n : Nat} {env : Env} {w0 : World} {R : Ro} {R0 : Ro} {E : List Ent} {ES : List Ent} {o : Oper} {pc : Bool} {p : Bool} {ops : List Oper} {Q : Exit → Act → World → Prop} {fuel : Nat} {listed : Array Bool} {t : TypeId} {x : Operand} {ad : Addr} {cs : List Value} {dd : TD} {v : Value} {d : Nat} (i : Nat) (hrd : Rd R0 ES ad cs) (h : WA P ops Q ES R0 w0 fuel (listed.setIfInBounds i true) n ((d, pc, v) :: env) R E) (hT : TabOk P T := by exact tab_ok) (hi : ops.toArray[i]? = some o := by exact rfl) (hs : Region.noSelect ops.toArray = true := by kernel_rfl) (hf : Region.free .any ops.toArray listed i = true := by kernel_rfl) (hr : (Region.ready .any ops.toArray listed).contains i = true := by kernel_rfl) (hg : gpc ops env o = some pc := by exact rfl) (hd : o.dst = some d := by exact rfl) (hdn : d < n := by decide) (ho : o.op = .load t x := by exact rfl) (hdt : T.at t = some dd := by exact rfl) (hx : ev env x = some (p, .pointer (some ad)) := by exact rfl) (hp : pc = true → p = true := by exact fun _ => rfl) (hk : dd.k.known = true := by exact rfl) (hv : loadV dd cs = some v := by exact rfl) (hsub : ES.Sublist E := by (repeat (first | exact List.Sublist.refl _ | exact List.nil_sublist _ | apply List.Sublist.cons_cons | apply List.Sublist.cons)); done) (hR : RLe R0 R := by first | exact RLe.refl _ | assumption) : WA P ops Q ES R0 w0 (fuel + 1) listed n env R E := WA.take i hi hs hf hr hg hd hdn (Yl.load1 hT ho hdt hx hp hrd hk hv) hsub hR h
theorem tA {P : Program} {n : Nat} {env : Env} {w0 : World} {R : Ro} {R0 : Ro} {E : List Ent} {ES : List Ent} {o : Oper} {pc : Bool} {p : Bool} {q : Bool} {ops : List Oper} {Q : Exit → Act → World → Prop} {fuel : Nat} {listed : Array Bool} {t t2 : TypeId} {x y : Operand} {a b : Int} {d : Nat} (i : Nat) (h : WA P ops Q ES R0 w0 fuel (listed.setIfInBounds i true) n ((d, pc, .int .i64 (a + b)) :: env) R E) (hi : ops.toArray[i]? = some o := by exact rfl) (hs : Region.noSelect ops.toArray = true := by kernel_rfl) (hf : Region.free .any ops.toArray listed i = true := by kernel_rfl) (hr : (Region.ready .any ops.toArray listed).contains i = true := by kernel_rfl) (hg : gpc ops env o = some pc := by exact rfl) (hd : o.dst = some d := by exact rfl) (hdn : d < n := by decide) (ho : o.op = .binOp .add t x y t2 := by exact rfl) (hx : ev env x = some (p, .int .i64 a) := by exact rfl) (hy : ev env y = some (q, .int .i64 b) := by exact rfl) (hpq : pc = true → (p && q) = true := by exact fun _ => rfl) (hr2 : pc = true → InR (a + b) := by intro _; constructor <;> (try dsimp only) <;> omega) (hsub : ES.Sublist E := by (repeat (first | exact List.Sublist.refl _ | exact List.nil_sublist _ | apply List.Sublist.cons_cons | apply List.Sublist.cons)); done) (hR : RLe R0 R := by first | exact RLe.refl _ | assumption) : WA P ops Q ES R0 w0 (fuel + 1) listed n env R E := WA.take i hi hs hf hr hg hd hdn (Yl.add ho hx hy hpq hr2) hsub hR h
theorem tS {P : Program} {n : Nat} {env : Env} {w0 : World} {R : Ro} {R0 : Ro} {E : List Ent} {ES : List Ent} {o : Oper} {pc : Bool} {p : Bool} {q : Bool} {ops : List Oper} {Q : Exit → Act → World → Prop} {fuel : Nat} {listed : Array Bool} {t t2 : TypeId} {x y : Operand} {a b : Int} {d : Nat} (i : Nat) (h : WA P ops Q ES R0 w0 fuel (listed.setIfInBounds i true) n ((d, pc, .int .i64 (a - b)) :: env) R E) (hi : ops.toArray[i]? = some o := by exact rfl) (hs : Region.noSelect ops.toArray = true := by kernel_rfl) (hf : Region.free .any ops.toArray listed i = true := by kernel_rfl) (hr : (Region.ready .any ops.toArray listed).contains i = true := by kernel_rfl) (hg : gpc ops env o = some pc := by exact rfl) (hd : o.dst = some d := by exact rfl) (hdn : d < n := by decide) (ho : o.op = .binOp .sub t x y t2 := by exact rfl) (hx : ev env x = some (p, .int .i64 a) := by exact rfl) (hy : ev env y = some (q, .int .i64 b) := by exact rfl) (hpq : pc = true → (p && q) = true := by exact fun _ => rfl) (hr2 : pc = true → InR (a - b) := by intro _; constructor <;> (try dsimp only) <;> omega) (hsub : ES.Sublist E := by (repeat (first | exact List.Sublist.refl _ | exact List.nil_sublist _ | apply List.Sublist.cons_cons | apply List.Sublist.cons)); done) (hR : RLe R0 R := by first | exact RLe.refl _ | assumption) : WA P ops Q ES R0 w0 (fuel + 1) listed n env R E := WA.take i hi hs hf hr hg hd hdn (Yl.sub ho hx hy hpq hr2) hsub hR h
theorem yP {P : Program} {T : Tab} {n : Nat} {env : Env} {w0 : World} {R : Ro} {E : List Ent} {o : Oper} {pc : Bool} {q : Bool} {draw : Bool} {ops : List Oper} {rest : List Oper} {Q : Exit → Act → World → Prop} {v : Value} {d : Nat} (h : WG draw P ops Q rest n ((d, pc, v) :: env) w0 R E) (hT : TabOk P T := by exact tab_ok) (hg : gpc ops env o = some pc := by exact rfl) (hd : o.dst = some d := by exact rfl) (hdn : d < n := by decide) (hv : pureV T env o.op = some (q, v) := by exact rfl) (hq : pc = true → q = true := by first | exact fun _ => rfl | exact fun h => h | (intro h; simp_all)) : WG draw P ops Q (o :: rest) n env w0 R E := WG.y hg hd hdn (pureV_ok hT hv hq) h
theorem yL {P : Program} {T : Tab} {n : Nat} {env : Env} {w0 : World} {R : Ro} {E : List Ent} {o : Oper} {pc : Bool} {p : Bool} {draw : Bool} {ops : List Oper} {rest : List Oper} {Q : Exit → Act → World → Prop} {t : TypeId} {x : Operand} {ad : Addr} {cs : List Value} {dd : TD} {v : Value} {d : Nat} (hrd : Rd R E ad cs) (h : WG draw P ops Q rest n ((d, pc, v) :: env) w0 R E) (hT : TabOk P T := by exact tab_ok) (hg : gpc ops env o = some pc := by exact rfl) (hd : o.dst = some d := by exact rfl) (hdn : d < n := by decide) (ho : o.op = .load t x := by exact rfl) (hdt : T.at t = some dd := by exact rfl) (hx : ev env x = some (p, .pointer (some ad)) := by exact rfl) (hp : pc = true → p = true := by exact fun _ => rfl) (hk : dd.k.known = true := by exact rfl) (hv : loadV dd cs = some v := by exact rfl) : WG draw P ops Q (o :: rest) n env w0 R E := WG.y hg hd hdn (Yl.load1 hT ho hdt hx hp hrd hk hv) h
theorem yA {P : Program} {n : Nat} {env : Env} {w0 : World} {R : Ro} {E : List Ent} {o : Oper} {pc : Bool} {p : Bool} {q : Bool} {draw : Bool} {ops : List Oper} {rest : List Oper} {Q : Exit → Act → World → Prop} {t t2 : TypeId} {x y : Operand} {a b : Int} {d : Nat} (h : WG draw P ops Q rest n ((d, pc, .int .i64 (a + b)) :: env) w0 R E) (hg : gpc ops env o = some pc := by exact rfl) (hd : o.dst = some d := by exact rfl) (hdn : d < n := by decide) (ho : o.op = .binOp .add t x y t2 := by exact rfl) (hx : ev env x = some (p, .int .i64 a) := by exact rfl) (hy : ev env y = some (q, .int .i64 b) := by exact rfl) (hpq : pc = true → (p && q) = true := by exact fun _ => rfl) (hr2 : pc = true → InR (a + b) := by intro _; constructor <;> (try dsimp only) <;> omega) : WG draw P ops Q (o :: rest) n env w0 R E := WG.y hg hd hdn (Yl.add ho hx hy hpq hr2) h
theorem yS {P : Program} {n : Nat} {env : Env} {w0 : World} {R : Ro} {E : List Ent} {o : Oper} {pc : Bool} {p : Bool} {q : Bool} {draw : Bool} {ops : List Oper} {rest : List Oper} {Q : Exit → Act → World → Prop} {t t2 : TypeId} {x y : Operand} {a b : Int} {d : Nat} (h : WG draw P ops Q rest n ((d, pc, .int .i64 (a - b)) :: env) w0 R E) (hg : gpc ops env o = some pc := by exact rfl) (hd : o.dst = some d := by exact rfl) (hdn : d < n := by decide) (ho : o.op = .binOp .sub t x y t2 := by exact rfl) (hx : ev env x = some (p, .int .i64 a) := by exact rfl) (hy : ev env y = some (q, .int .i64 b) := by exact rfl) (hpq : pc = true → (p && q) = true := by exact fun _ => rfl) (hr2 : pc = true → InR (a - b) := by intro _; constructor <;> (try dsimp only) <;> omega) : WG draw P ops Q (o :: rest) n env w0 R E := WG.y hg hd hdn (Yl.sub ho hx hy hpq hr2) h
theorem zR {n : Nat} {env : Env} {w0 : World} {R : Ro} {E : List Ent} {draw : Bool} {ops : List Oper} {Q : Exit → Act → World → Prop} {l l' : List Oper} {env' : Env} (m : Nat) (h : runPure tab n m l env = (l', env')) (k : WG draw Tryz.prog ops Q l' n env' w0 R E) : WG draw Tryz.prog ops Q l n env w0 R E := WG.run tab_ok m h k
theorem zE {P : Program} {T : Tab} {n : Nat} {env : Env} {w0 : World} {R : Ro} {E : List Ent} {o : Oper} {ops : List Oper} {rest : List Oper} {Q : Exit → Act → World → Prop} {t : TypeId} {x y : Operand} {b : Nat} {cs : List Value} {v : Value} {dd : TD} (k : Nat) (h : WG false P ops Q rest n env w0 R (E.set k (.blk b (setSeg cs 0 (vcells v))))) (hT : TabOk P T := by exact tab_ok) (hg : o.guard = none := by exact rfl) (hd : o.dst = none := by exact rfl) (ho : o.op = .store t x y := by exact rfl) (hdt : T.at t = some dd := by exact rfl) (hx : ev env x = some (true, .pointer (some ⟨b, 0, none⟩)) := by exact rfl) (hy : ev env y = some (true, v) := by exact rfl) (hE : E[k]? = some (.blk b cs) := by exact rfl) (hl : Nat.beq (vcells v).length dd.size = true := by exact rfl) (hfit : Nat.ble dd.size cs.length = true := by exact rfl) (h1 : cells1 (vcells v) = true := by exact rfl) : WG false P ops Q (o :: rest) n env w0 R E := WL.efN hg hd (Ef.store0 k hT ho hdt hx hy hE hl hfit h1 h)
theorem zCE {P : Program} {T : Tab} {n : Nat} {env : Env} {w0 : World} {R : Ro} {R0 : Ro} {E : List Ent} {ES : List Ent} {o : Oper} {ops : List Oper} {Q : Exit → Act → World → Prop} {fuel : Nat} {listed : Array Bool} {t : TypeId} {x y : Operand} {b : Nat} {cs : List Value} {v : Value} {dd : TD} (i k : Nat) (h : WA P ops Q ES R0 w0 fuel (listed.setIfInBounds i true) n env R (E.set k (.blk b (setSeg cs 0 (vcells v))))) (hT : TabOk P T := by exact tab_ok) (hi : ops.toArray[i]? = some o := by exact rfl) (hr : Region.ready .any ops.toArray listed = [i] := by kernel_rfl) (hg : o.guard = none := by exact rfl) (hd : o.dst = none := by exact rfl) (ho : o.op = .store t x y := by exact rfl) (hdt : T.at t = some dd := by exact rfl) (hx : ev env x = some (true, .pointer (some ⟨b, 0, none⟩)) := by exact rfl) (hy : ev env y = some (true, v) := by exact rfl) (hE : E[k]? = some (.blk b cs) := by exact rfl) (hl : Nat.beq (vcells v).length dd.size = true := by exact rfl) (hfit : Nat.ble dd.size cs.length = true := by exact rfl) (h1 : cells1 (vcells v) = true := by exact rfl) (hR : RLe R0 R := by first | exact RLe.refl _ | assumption) (hsub : ES.Sublist (E.set k (.blk b (setSeg cs 0 (vcells v)))) := by (repeat (first | exact List.Sublist.refl _ | exact List.nil_sublist _ | apply List.Sublist.cons_cons | apply List.Sublist.cons)); done) : WA P ops Q ES R0 w0 (fuel + 1) listed n env R E := WA.effN i hi hr hg hd (Ef.store0 k hT ho hdt hx hy hE hl hfit h1 ⟨hR, hsub, h⟩)
theorem zF {P : Program} {T : Tab} {n : Nat} {env : Env} {w0 : World} {R : Ro} {E : List Ent} {o : Oper} {ops : List Oper} {rest : List Oper} {Q : Exit → Act → World → Prop} {t : TypeId} {x y : Operand} {b off : Nat} {cs : List Value} {v : Value} {dd : TD} (k : Nat) (h : WG false P ops Q rest n env w0 R (E.set k (.blk b (setSeg cs off (vcells v))))) (hT : TabOk P T := by exact tab_ok) (hg : o.guard = none := by exact rfl) (hd : o.dst = none := by exact rfl) (ho : o.op = .store t x y := by exact rfl) (hdt : T.at t = some dd := by exact rfl) (hx : ev env x = some (true, .pointer (some ((⟨b, 0, none⟩ : Addr).add off))) := by exact rfl) (hy : ev env y = some (true, v) := by exact rfl) (hE : E[k]? = some (.blk b cs) := by exact rfl) (hl : Nat.beq (vcells v).length dd.size = true := by exact rfl) (hfit : Nat.ble (off + dd.size) cs.length = true := by exact rfl) (h1 : cells1 (vcells v) = true := by exact rfl) : WG false P ops Q (o :: rest) n env w0 R E := WL.efN hg hd (Ef.store k hT ho hdt hx hy hE hl hfit h1 h)
theorem zCF {P : Program} {T : Tab} {n : Nat} {env : Env} {w0 : World} {R : Ro} {R0 : Ro} {E : List Ent} {ES : List Ent} {o : Oper} {ops : List Oper} {Q : Exit → Act → World → Prop} {fuel : Nat} {listed : Array Bool} {t : TypeId} {x y : Operand} {b off : Nat} {cs : List Value} {v : Value} {dd : TD} (i k : Nat) (h : WA P ops Q ES R0 w0 fuel (listed.setIfInBounds i true) n env R (E.set k (.blk b (setSeg cs off (vcells v))))) (hT : TabOk P T := by exact tab_ok) (hi : ops.toArray[i]? = some o := by exact rfl) (hr : Region.ready .any ops.toArray listed = [i] := by kernel_rfl) (hg : o.guard = none := by exact rfl) (hd : o.dst = none := by exact rfl) (ho : o.op = .store t x y := by exact rfl) (hdt : T.at t = some dd := by exact rfl) (hx : ev env x = some (true, .pointer (some ((⟨b, 0, none⟩ : Addr).add off))) := by exact rfl) (hy : ev env y = some (true, v) := by exact rfl) (hE : E[k]? = some (.blk b cs) := by exact rfl) (hl : Nat.beq (vcells v).length dd.size = true := by exact rfl) (hfit : Nat.ble (off + dd.size) cs.length = true := by exact rfl) (h1 : cells1 (vcells v) = true := by exact rfl) (hR : RLe R0 R := by first | exact RLe.refl _ | assumption) (hsub : ES.Sublist (E.set k (.blk b (setSeg cs off (vcells v)))) := by (repeat (first | exact List.Sublist.refl _ | exact List.nil_sublist _ | apply List.Sublist.cons_cons | apply List.Sublist.cons)); done) : WA P ops Q ES R0 w0 (fuel + 1) listed n env R E := WA.effN i hi hr hg hd (Ef.store k hT ho hdt hx hy hE hl hfit h1 ⟨hR, hsub, h⟩)
theorem lL {P : Program} {T : Tab} {n : Nat} {env : Env} {w0 : World} {R : Ro} {R0 : Ro} {E : List Ent} {ES : List Ent} {o : Oper} {p : Bool} {ops : List Oper} {Q : Exit → Act → World → Prop} {fuel : Nat} {listed : Array Bool} {t : TypeId} {x : Operand} {ad : Addr} {cs : List Value} {dd : TD} {v : Value} {d : Nat} (i : Nat) (hrd : Rd R E ad cs) (h : WA P ops Q ES R0 w0 fuel (listed.setIfInBounds i true) n ((d, true, v) :: env) R E) (hT : TabOk P T := by exact tab_ok) (hi : ops.toArray[i]? = some o := by exact rfl) (hr : Region.ready .any ops.toArray listed = [i] := by kernel_rfl) (hg : o.guard = none := by exact rfl) (hd : o.dst = some d := by exact rfl) (hdn : d < n := by decide) (ho : o.op = .load t x := by exact rfl) (hdt : T.at t = some dd := by exact rfl) (hx : ev env x = some (p, .pointer (some ad)) := by exact rfl) (hp : true = true → p = true := by exact fun _ => rfl) (hk : dd.k.known = true := by exact rfl) (hv : loadV dd cs = some v := by exact rfl) (hsub : ES.Sublist E := by (repeat (first | exact List.Sublist.refl _ | exact List.nil_sublist _ | apply List.Sublist.cons_cons | apply List.Sublist.cons)); done) (hR : RLe R0 R := by first | exact RLe.refl _ | assumption) : WA P ops Q ES R0 w0 (fuel + 1) listed n env R E := WA.yl i hi hr hg hd hdn (Yl.load1 (pc := true) hT ho hdt hx hp hrd hk hv) hsub hR h
theorem sL {P : Program} {T : Tab} {n : Nat} {env : Env} {w0 : World} {R : Ro} {R0 : Ro} {E : List Ent} {ES : List Ent} {o : Oper} {p : Bool} {ops : List Oper} {Q : Exit → Act → World → Prop} {fuel : Nat} {listed : Array Bool} {t : TypeId} {x : Operand} {ad : Addr} {cs : List Value} {dd : TD} {v : Value} {d i : Nat} (hrd : Rd R E ad cs) (h : WA P ops Q ES R0 w0 fuel (listed.setIfInBounds i true) n ((d, true, v) :: env) R E) (hT : TabOk P T := by exact tab_ok) (hi : ops.toArray[i]? = some o := by exact rfl) (hg : o.guard = none := by exact rfl) (hd : o.dst = some d := by exact rfl) (hdn : d < n := by decide) (ho : o.op = .load t x := by exact rfl) (hdt : T.at t = some dd := by exact rfl) (hx : ev env x = some (p, .pointer (some ad)) := by exact rfl) (hp : true = true → p = true := by exact fun _ => rfl) (hk : dd.k.known = true := by exact rfl) (hv : loadV dd cs = some v := by exact rfl) (hsub : ES.Sublist E := by (repeat (first | exact List.Sublist.refl _ | exact List.nil_sublist _ | apply List.Sublist.cons_cons | apply List.Sublist.cons)); done) (hR : RLe R0 R := by first | exact RLe.refl _ | assumption) : WS P ops Q ES R0 w0 fuel listed n env R E i := WS.yl hi hg hd hdn (Yl.load1 (pc := true) hT ho hdt hx hp hrd hk hv) hsub hR h
theorem zQ {P : Program} {n : Nat} {env : Env} {w0 : World} {R : Ro} {E : List Ent} {Q : Exit → Act → World → Prop} {x : Code} {y : Code} (h : W P x (Exit.then (y.wp P Q) Q) n env w0 R E) : W P (.seq x y) Q n env w0 R E := W.seq h
theorem zG {P : Program} {n : Nat} {env : Env} {w0 : World} {R : Ro} {E : List Ent} {Q : Exit → Act → World → Prop}  {id : Nat} {l : List Oper} (h : WG false P l Q l n env w0 R E) : W P (.region id l.toArray false) Q n env w0 R E := W.region id h
theorem zN {P : Program} {n : Nat} {env : Env} {w0 : World} {R : Ro} {E : List Ent} {draw : Bool} {ops : List Oper} {Q : Exit → Act → World → Prop}  (h : WE Q .normal n env w0 R E) : WG draw P ops Q [] n env w0 R E := WG.nil h
theorem zU {P : Program} {n : Nat} {env : Env} {w0 : World} {R : Ro} {E : List Ent} {Q : Exit → Act → World → Prop} {y : Code} (h : W P y Q n env w0 R E) : WE (Exit.then (y.wp P Q) Q) .normal n env w0 R E := WE.nxt h
theorem zB {P : Program} {n : Nat} {env : Env} {w0 : World} {R : Ro} {E : List Ent} {Q : Exit → Act → World → Prop} {x : Code} {id : Nat} (h : W P x (Exit.inBlock id Q) n env w0 R E) : W P (.block id x) Q n env w0 R E := W.block h
theorem zK {P : Program} {n : Nat} {env : Env} {w0 : World} {R : Ro} {E : List Ent} {Q : Exit → Act → World → Prop}  (h : WE Q .normal n env w0 R E) : W P .skip Q n env w0 R E := W.skip h
theorem zT {P : Program} {n : Nat} {env : Env} {w0 : World} {R : Ro} {E : List Ent} {Q : Exit → Act → World → Prop}  (h : WE Q .ret n env w0 R E) : W P .ret Q n env w0 R E := W.ret h
theorem wt {n : Nat} {env : Env} {w0 : World} {R : Ro} {E : List Ent} {Q : Exit → Act → World → Prop} {K : Act → World → Prop} (h : WE Q .ret n env w0 R E) : WE (Exit.then K Q) .ret n env w0 R E := WE.then_ret h
theorem wb {n : Nat} {env : Env} {w0 : World} {R : Ro} {E : List Ent} {Q : Exit → Act → World → Prop}  {id : Nat} (h : WE Q .ret n env w0 R E) : WE (Exit.inBlock id Q) .ret n env w0 R E := WE.blk_ret h
theorem wx {n : Nat} {env : Env} {w0 : World} {R : Ro} {E : List Ent} {Q : Exit → Act → World → Prop} {K : Act → World → Prop} {id : Nat} (h : WE Q (.exit id) n env w0 R E) : WE (Exit.then K Q) (.exit id) n env w0 R E := WE.then_exit h
theorem zY {n : Nat} {env : Env} {w0 : World} {R : Ro} {E : List Ent} {Q : Exit → Act → World → Prop}  {id : Nat} (h : WE Q .normal n env w0 R E) : WE (Exit.inBlock id Q) (.exit id) n env w0 R E := WE.blk_exit h
theorem zX {P : Program} {n : Nat} {env : Env} {w0 : World} {R : Ro} {E : List Ent} {Q : Exit → Act → World → Prop}  {id : Nat} (h : WE Q (.exit id) n env w0 R E) : W P (.exit id) Q n env w0 R E := W.exit h
theorem zL {n : Nat} {env : Env} {w0 : World} {R : Ro} {E : List Ent} {Q : Exit → Act → World → Prop}  {id : Nat} (h : WE Q .normal n env w0 R E) : WE (Exit.inBlock id Q) .normal n env w0 R E := WE.blk id h
theorem fE {P : Program} {f : FuncId} {fn : Func} {c : Code} {args : List Value} {Post : Value → Ro → List Ent → Prop} {w0 : World} {R : Ro} {E : List Ent} (n : Nat) (hf : P.funcs[f]? = some fn) (h : W P c (bodyPost P fn (FnR w0 R Post)) n (argEnv 0 args) w0 R E) (hb : fn.body = some c := by exact rfl) (hn : fn.ntmps = n := by exact rfl) (ha : args.length ≤ n := by exact Nat.le_of_ble_eq_true rfl) (hs : Nat.ble n 99999 = true := by exact rfl) : K.Fn P f args w0 R E Post := Fn.enter hf hb hn ha hs h
theorem zA {P : Program} {T : Tab} {n : Nat} {env : Env} {w0 : World} {R : Ro} {E : List Ent} {o : Oper} {ops : List Oper} {rest : List Oper} {Q : Exit → Act → World → Prop} {d : Nat} {t : TypeId} {dd : TD} (h : ∀ b, WG false P ops Q rest n ((d, true, (.pointer (some ⟨b, 0, none⟩))) :: env) w0 R (.blk b dd.zero :: E)) (hT : TabOk P T := by exact tab_ok) (hg : o.guard = none := by exact rfl) (hd : o.dst = some d := by exact rfl) (hdn : d < n := by decide) (ho : o.op = .alloc t := by exact rfl) (hdt : T.at t = some dd := by exact rfl) : WG false P ops Q (o :: rest) n env w0 R E := WL.ef hg hd hdn (Ef.alloc hT ho hdt h)
theorem zO {P : Program} {n : Nat} {env : Env} {w0 : World} {R : Ro} {E : List Ent} {o : Oper} {ops : List Oper} {rest : List Oper} {Q : Exit → Act → World → Prop} {d : Nat} {t : TypeId} {x : Operand} {v : Value} (h : ∀ b, WG false P ops Q rest n ((d, true, (.pointer (some ⟨b, 0, none⟩))) :: env) w0 R (.blk b (vcells v) :: E)) (hg : o.guard = none := by exact rfl) (hd : o.dst = some d := by exact rfl) (hdn : d < n := by decide) (ho : o.op = .box t x := by exact rfl) (hx : ev env x = some (true, v) := by exact rfl) : WG false P ops Q (o :: rest) n env w0 R E := WL.ef hg hd hdn (Ef.box ho hx h)
theorem yO {P : Program} {n : Nat} {env : Env} {w0 : World} {R : Ro} {E : List Ent} {o : Oper} {pc : Bool} {p : Bool} {q : Bool} {draw : Bool} {ops : List Oper} {rest : List Oper} {Q : Exit → Act → World → Prop} {x y : Operand} {b c : Bool} {d : Nat} (h : WG draw P ops Q rest n ((d, pc, .bool (b || c)) :: env) w0 R E) (hg : gpc ops env o = some pc := by exact rfl) (hd : o.dst = some d := by exact rfl) (hdn : d < n := by decide) (ho : o.op = .pick x (.const (.bool true)) y := by exact rfl) (hx : ev env x = some (p, .bool b) := by exact rfl) (hy : ev env y = some (q, .bool c) := by exact rfl) (hp : pc = true → p = true := by first | exact fun _ => rfl | exact fun h => h | (intro h; simp_all)) (hq : pc = true → b = false → q = true := by intro h1 h2; simp_all <;> omega) : WG draw P ops Q (o :: rest) n env w0 R E := WG.y hg hd hdn (Yl.por ho hx hy hp hq) h
theorem yN {P : Program} {n : Nat} {env : Env} {w0 : World} {R : Ro} {E : List Ent} {o : Oper} {pc : Bool} {p : Bool} {q : Bool} {draw : Bool} {ops : List Oper} {rest : List Oper} {Q : Exit → Act → World → Prop} {x y : Operand} {b c : Bool} {d : Nat} (h : WG draw P ops Q rest n ((d, pc, .bool (b && c)) :: env) w0 R E) (hg : gpc ops env o = some pc := by exact rfl) (hd : o.dst = some d := by exact rfl) (hdn : d < n := by decide) (ho : o.op = .pick x y (.const (.bool false)) := by exact rfl) (hx : ev env x = some (p, .bool b) := by exact rfl) (hy : ev env y = some (q, .bool c) := by exact rfl) (hp : pc = true → p = true := by first | exact fun _ => rfl | exact fun h => h | (intro h; simp_all)) (hq : pc = true → b = true → q = true := by intro h1 h2; simp_all <;> omega) : WG draw P ops Q (o :: rest) n env w0 R E := WG.y hg hd hdn (Yl.pand ho hx hy hp hq) h
theorem yG {P : Program} {T : Tab} {n : Nat} {env : Env} {w0 : World} {R : Ro} {E : List Ent} {o : Oper} {pc : Bool} {p : Bool} {draw : Bool} {ops : List Oper} {rest : List Oper} {Q : Exit → Act → World → Prop} {t : TypeId} {x : Operand} {ad : Addr} {cs : List Value} {dd : TD} {v : Value} {d : Nat} (hrd : True → Rd R E ad cs) (h : WG draw P ops Q rest n ((d, pc, v) :: env) w0 R E) (hT : TabOk P T := by exact tab_ok) (hg : gpc ops env o = some pc := by exact rfl) (hd : o.dst = some d := by exact rfl) (hdn : d < n := by decide) (ho : o.op = .load t x := by exact rfl) (hdt : T.at t = some dd := by exact rfl) (hx : ev env x = some (p, .pointer (some ad)) := by exact rfl) (hp : pc = true → p = true := by first | exact fun _ => rfl | exact fun h => h | (intro h; simp_all)) (hk : dd.k.known = true := by exact rfl) (hv : loadV dd cs = some v := by exact rfl) : WG draw P ops Q (o :: rest) n env w0 R E := WG.y hg hd hdn (Yl.loadG hT ho hdt hx hp hrd hk hv (fun _ => trivial)) h
theorem yR {P : Program} {T : Tab} {n : Nat} {env : Env} {w0 : World} {R : Ro} {E : List Ent} {o : Oper} {pc : Bool} {p : Bool} {draw : Bool} {ops : List Oper} {rest : List Oper} {Q : Exit → Act → World → Prop} {t : TypeId} {x : Operand} {ad : Addr} {cs : List Value} {dd : TD} {v : Value} {d : Nat} (h : WG draw P ops Q rest n ((d, pc, v) :: env) w0 R E) (hT : TabOk P T := by exact tab_ok) (hg : gpc ops env o = some pc := by exact rfl) (hd : o.dst = some d := by exact rfl) (hdn : d < n := by decide) (ho : o.op = .load t x := by exact rfl) (hdt : T.at t = some dd := by exact rfl) (hx : ev env x = some (p, .pointer (some ad)) := by exact rfl) (hp : pc = true → p = true := by exact fun _ => rfl) (hrd : Rd R E ad cs := by (apply RS.rdD; assumption; ((try dsimp only) <;> omega))) (hk : dd.k.known = true := by exact rfl) (hv : loadV dd cs = some v := by exact rfl) : WG draw P ops Q (o :: rest) n env w0 R E := WG.y hg hd hdn (Yl.load1 hT ho hdt hx hp hrd hk hv) h
theorem yD {P : Program} {T : Tab} {n : Nat} {env : Env} {w0 : World} {R : Ro} {E : List Ent} {o : Oper} {pc : Bool} {p : Bool} {draw : Bool} {ops : List Oper} {rest : List Oper} {Q : Exit → Act → World → Prop} {t : TypeId} {x : Operand} {ad : Addr} {cs : List Value} {dd : TD} {v : Value} {d : Nat} (hT : TabOk P T := by exact tab_ok) (hg : gpc ops env o = some pc := by exact rfl) (hd : o.dst = some d := by exact rfl) (hdn : d < n := by decide) (ho : o.op = .load t x := by exact rfl) (hdt : T.at t = some dd := by exact rfl) (hx : ev env x = some (p, .pointer (some ad)) := by exact rfl) (hp : pc = true → p = true := by exact fun _ => rfl) (r : Rd R E ad cs) (hk : dd.k.known = true := by exact rfl) (hv : loadV dd cs = some v := by exact rfl) (k : WG draw P ops Q rest n ((d, pc, v) :: env) w0 R E) : WG draw P ops Q (o :: rest) n env w0 R E := WG.y hg hd hdn (Yl.load1 hT ho hdt hx hp r hk hv) k
theorem tD {P : Program} {T : Tab} {n : Nat} {env : Env} {w0 : World} {R : Ro} {R0 : Ro} {E : List Ent} {ES : List Ent} {o : Oper} {pc : Bool} {p : Bool} {ops : List Oper} {Q : Exit → Act → World → Prop} {fuel : Nat} {listed : Array Bool} {t : TypeId} {x : Operand} {ad : Addr} {cs : List Value} {dd : TD} {v : Value} {d : Nat} (i : Nat) (hT : TabOk P T := by exact tab_ok) (hi : ops.toArray[i]? = some o := by exact rfl) (hs : Region.noSelect ops.toArray = true := by kernel_rfl) (hf : Region.free .any ops.toArray listed i = true := by kernel_rfl) (hr : (Region.ready .any ops.toArray listed).contains i = true := by kernel_rfl) (hg : gpc ops env o = some pc := by exact rfl) (hd : o.dst = some d := by exact rfl) (hdn : d < n := by decide) (ho : o.op = .load t x := by exact rfl) (hdt : T.at t = some dd := by exact rfl) (hx : ev env x = some (p, .pointer (some ad)) := by exact rfl) (hp : pc = true → p = true := by exact fun _ => rfl) (r : Rd R0 ES ad cs) (hk : dd.k.known = true := by exact rfl) (hv : loadV dd cs = some v := by exact rfl) (hsub : ES.Sublist E := by (repeat (first | exact List.Sublist.refl _ | exact List.nil_sublist _ | apply List.Sublist.cons_cons | apply List.Sublist.cons)); done) (hR : RLe R0 R := by first | exact RLe.refl _ | assumption) (k : WA P ops Q ES R0 w0 fuel (listed.setIfInBounds i true) n ((d, pc, v) :: env) R E) : WA P ops Q ES R0 w0 (fuel + 1) listed n env R E := WA.take i hi hs hf hr hg hd hdn (Yl.load1 hT ho hdt hx hp r hk hv) hsub hR k
theorem yJ {P : Program} {T : Tab} {n : Nat} {env : Env} {w0 : World} {R : Ro} {E : List Ent} {o : Oper} {pc : Bool} {p : Bool} {draw : Bool} {ops : List Oper} {rest : List Oper} {Q : Exit → Act → World → Prop} {t : TypeId} {x : Operand} {ad : Addr} {cs : List Value} {dd : TD} {v : Value} {d : Nat} {C : Prop} (hT : TabOk P T := by exact tab_ok) (hg : gpc ops env o = some pc := by exact rfl) (hd : o.dst = some d := by exact rfl) (hdn : d < n := by decide) (ho : o.op = .load t x := by exact rfl) (hdt : T.at t = some dd := by exact rfl) (hx : ev env x = some (p, .pointer (some ad)) := by exact rfl) (hp : pc = true → p = true := by first | exact fun _ => rfl | exact fun h => h | (intro h; simp_all)) (r : C → Rd R E ad cs) (hk : dd.k.known = true := by exact rfl) (hv : loadV dd cs = some v := by exact rfl) (g : pc = true → C := by first | exact fun _ => trivial | (intro hg; (try simp only [zk] at hg); (try dsimp only); omega)) (k : WG draw P ops Q rest n ((d, pc, v) :: env) w0 R E) : WG draw P ops Q (o :: rest) n env w0 R E := WG.y hg hd hdn (Yl.loadG hT ho hdt hx hp r hk hv g) k
theorem yM {P : Program} {T : Tab} {n : Nat} {env : Env} {w0 : World} {R : Ro} {E : List Ent} {o : Oper} {pc : Bool} {p : Bool} {draw : Bool} {ops : List Oper} {rest : List Oper} {Q : Exit → Act → World → Prop} {t : TypeId} {x : Operand} {b off : Nat} {cs : List Value} {dd : TD} {v : Value} {d : Nat} (i : Nat) (h : WG draw P ops Q rest n ((d, pc, v) :: env) w0 R E) (hE : E[i]? = some (.blk b cs) := by exact rfl) (hT : TabOk P T := by exact tab_ok) (hg : gpc ops env o = some pc := by exact rfl) (hd : o.dst = some d := by exact rfl) (hdn : d < n := by decide) (ho : o.op = .load t x := by exact rfl) (hdt : T.at t = some dd := by exact rfl) (hx : ev env x = some (p, .pointer (some ((⟨b, 0, none⟩ : Addr).add off))) := by exact rfl) (hp : pc = true → p = true := by exact fun _ => rfl) (hk : dd.k.known = true := by exact rfl) (hv : loadV dd (cs.drop off) = some v := by exact rfl) : WG draw P ops Q (o :: rest) n env w0 R E := WG.y hg hd hdn (Yl.load1 hT ho hdt hx hp (Rd.add (Rd.blk i hE) off) hk hv) h
theorem yB {P : Program} {T : Tab} {n : Nat} {env : Env} {w0 : World} {R : Ro} {E : List Ent} {o : Oper} {pc : Bool} {p : Bool} {draw : Bool} {ops : List Oper} {rest : List Oper} {Q : Exit → Act → World → Prop} {t : TypeId} {x : Operand} {b : Nat} {cs : List Value} {dd : TD} {v : Value} {d : Nat} (i : Nat) (h : WG draw P ops Q rest n ((d, pc, v) :: env) w0 R E) (hE : E[i]? = some (.blk b cs) := by exact rfl) (hT : TabOk P T := by exact tab_ok) (hg : gpc ops env o = some pc := by exact rfl) (hd : o.dst = some d := by exact rfl) (hdn : d < n := by decide) (ho : o.op = .load t x := by exact rfl) (hdt : T.at t = some dd := by exact rfl) (hx : ev env x = some (p, .pointer (some ⟨b, 0, none⟩)) := by exact rfl) (hp : pc = true → p = true := by exact fun _ => rfl) (hk : dd.k.known = true := by exact rfl) (hv : loadV dd cs = some v := by exact rfl) : WG draw P ops Q (o :: rest) n env w0 R E := WG.y hg hd hdn (Yl.load1 hT ho hdt hx hp (Rd.blk i hE) hk hv) h
theorem yW {P : Program} {T : Tab} {n : Nat} {env : Env} {w0 : World} {R : Ro} {E : List Ent} {o : Oper} {pc : Bool} {q : Bool} {draw : Bool} {ops : List Oper} {rest : List Oper} {Q : Exit → Act → World → Prop} {t : TypeId} {dd : TD} {fs : List (Nat × Nat)} {vs : List (Nat × Value)} {cs : List Value} {d : Nat} (parts : List (Nat × Operand)) (h : WG draw P ops Q rest n ((d, pc, .agg cs.toArray) :: env) w0 R E) (hT : TabOk P T := by exact tab_ok) (hg : gpc ops env o = some pc := by exact rfl) (hd : o.dst = some d := by exact rfl) (hdn : d < n := by decide) (ho : o.op = .build t parts.toArray := by exact rfl) (hdt : T.at t = some dd := by exact rfl) (hk : dd.k = .strct fs := by exact rfl) (hv : evParts env parts = some (q, vs) := by exact rfl) (hq : pc = true → q = true := by exact fun _ => rfl) (hin : fs.all (fun x => Nat.blt 0 x.2) = true := by exact rfl) (hb : buildCells fs dd.zero (vs.map fun x => (x.1, vcells x.2)) = some cs := by exact rfl) : WG draw P ops Q (o :: rest) n env w0 R E := WG.y hg hd hdn (Yl.build hT ho hdt hk hv hq hin hb) h
theorem yI {P : Program} {T : Tab} {n : Nat} {env : Env} {w0 : World} {R : Ro} {E : List Ent} {o : Oper} {pc : Bool} {p : Bool} {q : Bool} {draw : Bool} {ops : List Oper} {rest : List Oper} {Q : Exit → Act → World → Prop} {t e : TypeId} {x y : Operand} {a : Option Addr} {l c : Nat} {i : Nat} {dd d2 : TD} {d : Nat} (h : WG draw P ops Q rest n ((d, pc, .pointer (some (eaddr a d2.size i))) :: env) w0 R E) (hT : TabOk P T := by exact tab_ok) (hg : gpc ops env o = some pc := by exact rfl) (hd : o.dst = some d := by exact rfl) (hdn : d < n := by decide) (ho : o.op = .indexAddr t x y := by exact rfl) (hdt : T.at t = some dd := by exact rfl) (hk : dd.k = .slice e := by exact rfl) (hd2 : T.at e = some d2 := by exact rfl) (hx : ev env x = some (p, .slice a l c) := by exact rfl) (hy : ev env y = some (q, .int .i64 (i : Int)) := by exact rfl) (hpq : pc = true → (p && q) = true := by exact fun _ => rfl) (hii : pc = true → i < l := by intro _; (try dsimp only) <;> omega) (hh : pc = true → HasMem R E a l := by exact qH) : WG draw P ops Q (o :: rest) n env w0 R E := WG.y hg hd hdn (Yl.indexN hT ho hdt hk hd2 hx hy hpq hii hh) h
theorem yX {P : Program} {T : Tab} {n : Nat} {env : Env} {w0 : World} {R : Ro} {E : List Ent} {o : Oper} {pc : Bool} {p : Bool} {q : Bool} {draw : Bool} {ops : List Oper} {rest : List Oper} {Q : Exit → Act → World → Prop} {t e : TypeId} {x y : Operand} {a : Option Addr} {l c : Nat} {i : Int} {dd d2 : TD} {d : Nat} (h : WG draw P ops Q rest n ((d, pc, .pointer (some (eaddr a d2.size i.toNat))) :: env) w0 R E) (hT : TabOk P T := by exact tab_ok) (hg : gpc ops env o = some pc := by exact rfl) (hd : o.dst = some d := by exact rfl) (hdn : d < n := by decide) (ho : o.op = .indexAddr t x y := by exact rfl) (hdt : T.at t = some dd := by exact rfl) (hk : dd.k = .slice e := by exact rfl) (hd2 : T.at e = some d2 := by exact rfl) (hx : ev env x = some (p, .slice a l c) := by exact rfl) (hy : ev env y = some (q, .int .i64 i) := by exact rfl) (hpq : pc = true → (p && q) = true := by exact fun _ => rfl) (hii : pc = true → 0 ≤ i ∧ i < l := by intro _; constructor <;> (try dsimp only) <;> omega) (hh : pc = true → HasMem R E a l := by exact qH) : WG draw P ops Q (o :: rest) n env w0 R E := WG.y hg hd hdn (Yl.index hT ho hdt hk hd2 hx hy hpq hii hh) h
theorem gI {P : Program} {T : Tab} {n : Nat} {env : Env} {w0 : World} {R : Ro} {E : List Ent} {o : Oper} {pc : Bool} {p : Bool} {q : Bool} {draw : Bool} {ops : List Oper} {rest : List Oper} {Q : Exit → Act → World → Prop} {t e : TypeId} {x y : Operand} {a : Option Addr} {l c : Nat} {i : Nat} {dd d2 : TD} {d : Nat} (h : WG draw P ops Q rest n ((d, pc, .pointer (some (eaddr a d2.size i))) :: env) w0 R E) (hT : TabOk P T := by exact tab_ok) (hg : gpc ops env o = some pc := by exact rfl) (hd : o.dst = some d := by exact rfl) (hdn : d < n := by decide) (ho : o.op = .indexAddr t x y := by exact rfl) (hdt : T.at t = some dd := by exact rfl) (hk : dd.k = .slice e := by exact rfl) (hd2 : T.at e = some d2 := by exact rfl) (hx : ev env x = some (p, .slice a l c) := by exact rfl) (hy : ev env y = some (q, .int .i64 (i : Int)) := by exact rfl) (hpq : pc = true → (p && q) = true := by first | exact fun _ => rfl | exact fun h => h | (intro h; simp_all)) (hii : pc = true → i < l := by intro hg; (try simp only [zk] at hg); (try dsimp only) <;> omega) (hh : pc = true → HasMem R E a l := by intro hg; (try simp only [zk] at hg); first | exact qI) : WG draw P ops Q (o :: rest) n env w0 R E := WG.y hg hd hdn (Yl.indexN hT ho hdt hk hd2 hx hy hpq hii hh) h
theorem gX {P : Program} {T : Tab} {n : Nat} {env : Env} {w0 : World} {R : Ro} {E : List Ent} {o : Oper} {pc : Bool} {p : Bool} {q : Bool} {draw : Bool} {ops : List Oper} {rest : List Oper} {Q : Exit → Act → World → Prop} {t e : TypeId} {x y : Operand} {a : Option Addr} {l c : Nat} {i : Int} {dd d2 : TD} {d : Nat} (h : WG draw P ops Q rest n ((d, pc, .pointer (some (eaddr a d2.size i.toNat))) :: env) w0 R E) (hT : TabOk P T := by exact tab_ok) (hg : gpc ops env o = some pc := by exact rfl) (hd : o.dst = some d := by exact rfl) (hdn : d < n := by decide) (ho : o.op = .indexAddr t x y := by exact rfl) (hdt : T.at t = some dd := by exact rfl) (hk : dd.k = .slice e := by exact rfl) (hd2 : T.at e = some d2 := by exact rfl) (hx : ev env x = some (p, .slice a l c) := by exact rfl) (hy : ev env y = some (q, .int .i64 i) := by exact rfl) (hpq : pc = true → (p && q) = true := by first | exact fun _ => rfl | exact fun h => h | (intro h; simp_all)) (hii : pc = true → 0 ≤ i ∧ i < l := by intro hg; (try simp only [zk] at hg); constructor <;> (try dsimp only) <;> omega) (hh : pc = true → HasMem R E a l := by intro hg; (try simp only [zk] at hg); first | exact qI) : WG draw P ops Q (o :: rest) n env w0 R E := WG.y hg hd hdn (Yl.index hT ho hdt hk hd2 hx hy hpq hii hh) h
theorem tI {P : Program} {T : Tab} {n : Nat} {env : Env} {w0 : World} {R : Ro} {R0 : Ro} {E : List Ent} {ES : List Ent} {o : Oper} {pc : Bool} {p : Bool} {q : Bool} {ops : List Oper} {Q : Exit → Act → World → Prop} {fuel : Nat} {listed : Array Bool} {t e : TypeId} {x y : Operand} {a : Option Addr} {l c : Nat} {i : Nat} {dd d2 : TD} {d : Nat} (j : Nat) (h : WA P ops Q ES R0 w0 fuel (listed.setIfInBounds j true) n ((d, pc, .pointer (some (eaddr a d2.size i))) :: env) R E) (hT : TabOk P T := by exact tab_ok) (hi : ops.toArray[j]? = some o := by exact rfl) (hs : Region.noSelect ops.toArray = true := by kernel_rfl) (hf : Region.free .any ops.toArray listed j = true := by kernel_rfl) (hr : (Region.ready .any ops.toArray listed).contains j = true := by kernel_rfl) (hg : gpc ops env o = some pc := by exact rfl) (hd : o.dst = some d := by exact rfl) (hdn : d < n := by decide) (ho : o.op = .indexAddr t x y := by exact rfl) (hdt : T.at t = some dd := by exact rfl) (hk : dd.k = .slice e := by exact rfl) (hd2 : T.at e = some d2 := by exact rfl) (hx : ev env x = some (p, .slice a l c) := by exact rfl) (hy : ev env y = some (q, .int .i64 (i : Int)) := by exact rfl) (hpq : pc = true → (p && q) = true := by exact fun _ => rfl) (hii : pc = true → i < l := by intro _; (try dsimp only) <;> omega) (hh : pc = true → HasMem R0 ES a l := by exact qH) (hsub : ES.Sublist E := by (repeat (first | exact List.Sublist.refl _ | exact List.nil_sublist _ | apply List.Sublist.cons_cons | apply List.Sublist.cons)); done) (hR : RLe R0 R := by first | exact RLe.refl _ | assumption) : WA P ops Q ES R0 w0 (fuel + 1) listed n env R E := WA.take j hi hs hf hr hg hd hdn (Yl.indexN hT ho hdt hk hd2 hx hy hpq hii hh) hsub hR h
theorem tX {P : Program} {T : Tab} {n : Nat} {env : Env} {w0 : World} {R : Ro} {R0 : Ro} {E : List Ent} {ES : List Ent} {o : Oper} {pc : Bool} {p : Bool} {q : Bool} {ops : List Oper} {Q : Exit → Act → World → Prop} {fuel : Nat} {listed : Array Bool} {t e : TypeId} {x y : Operand} {a : Option Addr} {l c : Nat} {i : Int} {dd d2 : TD} {d : Nat} (j : Nat) (h : WA P ops Q ES R0 w0 fuel (listed.setIfInBounds j true) n ((d, pc, .pointer (some (eaddr a d2.size i.toNat))) :: env) R E) (hT : TabOk P T := by exact tab_ok) (hi : ops.toArray[j]? = some o := by exact rfl) (hs : Region.noSelect ops.toArray = true := by kernel_rfl) (hf : Region.free .any ops.toArray listed j = true := by kernel_rfl) (hr : (Region.ready .any ops.toArray listed).contains j = true := by kernel_rfl) (hg : gpc ops env o = some pc := by exact rfl) (hd : o.dst = some d := by exact rfl) (hdn : d < n := by decide) (ho : o.op = .indexAddr t x y := by exact rfl) (hdt : T.at t = some dd := by exact rfl) (hk : dd.k = .slice e := by exact rfl) (hd2 : T.at e = some d2 := by exact rfl) (hx : ev env x = some (p, .slice a l c) := by exact rfl) (hy : ev env y = some (q, .int .i64 i) := by exact rfl) (hpq : pc = true → (p && q) = true := by exact fun _ => rfl) (hii : pc = true → 0 ≤ i ∧ i < l := by intro _; constructor <;> (try dsimp only) <;> omega) (hh : pc = true → HasMem R0 ES a l := by exact qH) (hsub : ES.Sublist E := by (repeat (first | exact List.Sublist.refl _ | exact List.nil_sublist _ | apply List.Sublist.cons_cons | apply List.Sublist.cons)); done) (hR : RLe R0 R := by first | exact RLe.refl _ | assumption) : WA P ops Q ES R0 w0 (fuel + 1) listed n env R E := WA.take j hi hs hf hr hg hd hdn (Yl.index hT ho hdt hk hd2 hx hy hpq hii hh) hsub hR h
theorem yU {P : Program} {n : Nat} {env : Env} {w0 : World} {R : Ro} {E : List Ent} {o : Oper} {pc : Bool} {p : Bool} {q : Bool} {draw : Bool} {ops : List Oper} {rest : List Oper} {Q : Exit → Act → World → Prop} {t t2 : TypeId} {x y : Operand} {a b : Int} {d : Nat} (h : WG draw P ops Q rest n ((d, pc, .int .i64 (a * b)) :: env) w0 R E) (hg : gpc ops env o = some pc := by exact rfl) (hd : o.dst = some d := by exact rfl) (hdn : d < n := by decide) (ho : o.op = .binOp .mul t x y t2 := by exact rfl) (hx : ev env x = some (p, .int .i64 a) := by exact rfl) (hy : ev env y = some (q, .int .i64 b) := by exact rfl) (hpq : pc = true → (p && q) = true := by exact fun _ => rfl) (hr : pc = true → InR (a * b) := by intro _; constructor <;> (try dsimp only) <;> omega) : WG draw P ops Q (o :: rest) n env w0 R E := WG.y hg hd hdn (Yl.mul ho hx hy hpq hr) h
theorem yV {P : Program} {n : Nat} {env : Env} {w0 : World} {R : Ro} {E : List Ent} {o : Oper} {pc : Bool} {p : Bool} {q : Bool} {draw : Bool} {ops : List Oper} {rest : List Oper} {Q : Exit → Act → World → Prop} {t t2 : TypeId} {x y : Operand} {a b : Int} {d : Nat} (h : WG draw P ops Q rest n ((d, pc, .int .i64 (a / b)) :: env) w0 R E) (hg : gpc ops env o = some pc := by exact rfl) (hd : o.dst = some d := by exact rfl) (hdn : d < n := by decide) (ho : o.op = .binOp .quo t x y t2 := by exact rfl) (hx : ev env x = some (p, .int .i64 a) := by exact rfl) (hy : ev env y = some (q, .int .i64 b) := by exact rfl) (hpq : pc = true → (p && q) = true := by exact fun _ => rfl) (hr : pc = true → 0 ≤ a ∧ a ≤ 9223372036854775807 := by intro _; constructor <;> (try dsimp only) <;> omega) (hb0 : pc = true → 0 < b := by intro _; omega) : WG draw P ops Q (o :: rest) n env w0 R E := WG.y hg hd hdn (Yl.quo ho hx hy hpq hr hb0) h
theorem zr1 {P : Program} {T : Tab} {n : Nat} {env : Env} {w0 : World} {R : Ro} {E : List Ent} {fn : Func} {Post : Value → Ro → List Ent → Prop} {rs : List ResultVar} {v : Value} (hp : Post (resVal [v]) R E) (hT : TabOk P T := by exact tab_ok) (hr : fn.results = rs.toArray := by exact rfl) (ha : ResAll T env R E rs [v] := by exact ⟨rfl, trivial⟩) (hds : markOf env = none := by rfl) : WE (bodyPost P fn (FnR w0 R Post)) .ret n env w0 R E := WE.retF hT [v] hr ha (RLe.refl _) hp hds
theorem zq1 {P : Program} {T : Tab} {n : Nat} {env : Env} {w0 : World} {R : Ro} {R0 : Ro} {E : List Ent} {fn : Func} {Post : Value → Ro → List Ent → Prop} {rs : List ResultVar} {v : Value} (hR : RLe R0 R) (hp : Post (resVal [v]) R E) (hT : TabOk P T := by exact tab_ok) (hr : fn.results = rs.toArray := by exact rfl) (ha : ResAll T env R E rs [v] := by exact ⟨rfl, trivial⟩) (hds : markOf env = none := by rfl) : WE (bodyPost P fn (FnR w0 R0 Post)) .ret n env w0 R E := WE.retF hT [v] hr ha hR hp hds
theorem zr2 {P : Program} {T : Tab} {n : Nat} {env : Env} {w0 : World} {R : Ro} {E : List Ent} {fn : Func} {Post : Value → Ro → List Ent → Prop} {rs : List ResultVar} {v u : Value} (hp : Post (resVal [v, u]) R E) (hT : TabOk P T := by exact tab_ok) (hr : fn.results = rs.toArray := by exact rfl) (ha : ResAll T env R E rs [v, u] := by exact ⟨rfl, rfl, trivial⟩) (hds : markOf env = none := by rfl) : WE (bodyPost P fn (FnR w0 R Post)) .ret n env w0 R E := WE.retF hT [v, u] hr ha (RLe.refl _) hp hds
theorem zq2 {P : Program} {T : Tab} {n : Nat} {env : Env} {w0 : World} {R : Ro} {R0 : Ro} {E : List Ent} {fn : Func} {Post : Value → Ro → List Ent → Prop} {rs : List ResultVar} {v u : Value} (hR : RLe R0 R) (hp : Post (resVal [v, u]) R E) (hT : TabOk P T := by exact tab_ok) (hr : fn.results = rs.toArray := by exact rfl) (ha : ResAll T env R E rs [v, u] := by exact ⟨rfl, rfl, trivial⟩) (hds : markOf env = none := by rfl) : WE (bodyPost P fn (FnR w0 R0 Post)) .ret n env w0 R E := WE.retF hT [v, u] hr ha hR hp hds
theorem zr3 {P : Program} {T : Tab} {n : Nat} {env : Env} {w0 : World} {R : Ro} {E : List Ent} {fn : Func} {Post : Value → Ro → List Ent → Prop} {rs : List ResultVar} {v : Value} (hp : Post (resVal [v]) R E) (hT : TabOk P T := by exact tab_ok) (hr : fn.results = rs.toArray := by exact rfl) (ha : ResAll T env R E rs [v] := by exact ⟨⟨_, _, _, rfl, rfl, rfl, qB, rfl⟩, trivial⟩) (hds : markOf env = none := by rfl) : WE (bodyPost P fn (FnR w0 R Post)) .ret n env w0 R E := WE.retF hT [v] hr ha (RLe.refl _) hp hds
theorem zq3 {P : Program} {T : Tab} {n : Nat} {env : Env} {w0 : World} {R : Ro} {R0 : Ro} {E : List Ent} {fn : Func} {Post : Value → Ro → List Ent → Prop} {rs : List ResultVar} {v : Value} (hR : RLe R0 R) (hp : Post (resVal [v]) R E) (hT : TabOk P T := by exact tab_ok) (hr : fn.results = rs.toArray := by exact rfl) (ha : ResAll T env R E rs [v] := by exact ⟨⟨_, _, _, rfl, rfl, rfl, qB, rfl⟩, trivial⟩) (hds : markOf env = none := by rfl) : WE (bodyPost P fn (FnR w0 R0 Post)) .ret n env w0 R E := WE.retF hT [v] hr ha hR hp hds
theorem zr4 {P : Program} {T : Tab} {n : Nat} {env : Env} {w0 : World} {R : Ro} {E : List Ent} {fn : Func} {Post : Value → Ro → List Ent → Prop} {rs : List ResultVar} {v u : Value} (hp : Post (resVal [v, u]) R E) (hT : TabOk P T := by exact tab_ok) (hr : fn.results = rs.toArray := by exact rfl) (ha : ResAll T env R E rs [v, u] := by exact ⟨⟨_, _, _, rfl, rfl, rfl, qB, rfl⟩, rfl, trivial⟩) (hds : markOf env = none := by rfl) : WE (bodyPost P fn (FnR w0 R Post)) .ret n env w0 R E := WE.retF hT [v, u] hr ha (RLe.refl _) hp hds
theorem zq4 {P : Program} {T : Tab} {n : Nat} {env : Env} {w0 : World} {R : Ro} {R0 : Ro} {E : List Ent} {fn : Func} {Post : Value → Ro → List Ent → Prop} {rs : List ResultVar} {v u : Value} (hR : RLe R0 R) (hp : Post (resVal [v, u]) R E) (hT : TabOk P T := by exact tab_ok) (hr : fn.results = rs.toArray := by exact rfl) (ha : ResAll T env R E rs [v, u] := by exact ⟨⟨_, _, _, rfl, rfl, rfl, qB, rfl⟩, rfl, trivial⟩) (hds : markOf env = none := by rfl) : WE (bodyPost P fn (FnR w0 R0 Post)) .ret n env w0 R E := WE.retF hT [v, u] hr ha hR hp hds
theorem cD {P : Program} {n : Nat} {env : Env} {w0 : World} {R : Ro} {E : List Ent} {Q : Exit → Act → World → Prop} {x y : Code} {c : Operand} {b : Prop} [Decidable b] (hc : ev env c = some (true, .bool (decide b))) (ht : b → W P x Q n env w0 R E) (hf : ¬ b → W P y Q n env w0 R E) : W P (.cond c x y) Q n env w0 R E := W.condD hc ht hf
theorem cE {P : Program} {n : Nat} {env : Env} {w0 : World} {R : Ro} {E : List Ent} {Q : Exit → Act → World → Prop} {x y : Code} {c : Operand} {a b : Int} (hc : ev env c = some (true, .bool (a == b))) (ht : a = b → W P x Q n env w0 R E) (hf : a ≠ b → W P y Q n env w0 R E) : W P (.cond c x y) Q n env w0 R E := W.condE hc ht hf
theorem cN {P : Program} {n : Nat} {env : Env} {w0 : World} {R : Ro} {E : List Ent} {Q : Exit → Act → World → Prop} {x y : Code} {c : Operand} {a b : Int} (hc : ev env c = some (true, .bool (a != b))) (ht : a ≠ b → W P x Q n env w0 R E) (hf : a = b → W P y Q n env w0 R E) : W P (.cond c x y) Q n env w0 R E := W.condN hc ht hf
theorem cC {P : Program} {n : Nat} {env : Env} {w0 : World} {R : Ro} {E : List Ent} {Q : Exit → Act → World → Prop} {x y : Code} {c : Operand} {b : Bool} (hc : ev env c = some (true, .bool (b))) (ht : b = true → W P x Q n env w0 R E) (hf : b = false → W P y Q n env w0 R E) : W P (.cond c x y) Q n env w0 R E := W.cond hc ht hf
theorem vP {P : Program} {T : Tab} {n : Nat} {env : Env} {w0 : World} {R : Ro} {R0 : Ro} {E : List Ent} {ES : List Ent} {o : Oper} {pc : Bool} {q : Bool} {ops : List Oper} {Q : Exit → Act → World → Prop} {fuel : Nat} {listed : Array Bool} {ES2 : List Ent} {D : List Nat} {v : Value} {d : Nat} (i : Nat) (h : VA P ops Q ES ES2 D R0 w0 fuel (listed.setIfInBounds i true) n ((d, pc, v) :: env) R E) (hT : TabOk P T := by exact tab_ok) (hi : ops.toArray[i]? = some o := by exact rfl) (hs : Region.noSelect ops.toArray = true := by kernel_rfl) (hf : Region.free .any ops.toArray listed i = true := by kernel_rfl) (hr : (Region.ready .any ops.toArray listed).contains i = true := by kernel_rfl) (hDi : D.contains i = false := by kernel_rfl) (hw : waitsD .any ops.toArray D i = true := by kernel_rfl) (hn : noneD D listed = true := by kernel_rfl) (hg : gpc ops env o = some pc := by exact rfl) (hd : o.dst = some d := by exact rfl) (hdn : d < n := by decide) (hv : pureV T env o.op = some (q, v) := by exact rfl) (hq : pc = true → q = true := by exact fun _ => rfl) (hsub : ES.Sublist E := by (repeat (first | exact List.Sublist.refl _ | exact List.nil_sublist _ | apply List.Sublist.cons_cons | apply List.Sublist.cons)); done) (hR : RLe R0 R := by first | exact RLe.refl _ | assumption) (hs2 : ES2.Sublist E := by (repeat (first | exact List.Sublist.refl _ | exact List.nil_sublist _ | apply List.Sublist.cons_cons | apply List.Sublist.cons)); done) : VA P ops Q ES ES2 D R0 w0 (fuel + 1) listed n env R E := VA.take2 i hi hs hf hr hDi hw hn hg hd hdn (pureV_ok hT hv hq) hsub hR hs2 h
theorem vD {P : Program} {T : Tab} {n : Nat} {env : Env} {w0 : World} {R : Ro} {R0 : Ro} {E : List Ent} {ES : List Ent} {o : Oper} {pc : Bool} {p : Bool} {ops : List Oper} {Q : Exit → Act → World → Prop} {fuel : Nat} {listed : Array Bool} {t : TypeId} {x : Operand} {ad : Addr} {cs : List Value} {dd : TD} {ES2 : List Ent} {D : List Nat} {v : Value} {d : Nat} (i : Nat) (hT : TabOk P T := by exact tab_ok) (hi : ops.toArray[i]? = some o := by exact rfl) (hs : Region.noSelect ops.toArray = true := by kernel_rfl) (hf : Region.free .any ops.toArray listed i = true := by kernel_rfl) (hr : (Region.ready .any ops.toArray listed).contains i = true := by kernel_rfl) (hDi : D.contains i = false := by kernel_rfl) (hw : waitsD .any ops.toArray D i = true := by kernel_rfl) (hn : noneD D listed = true := by kernel_rfl) (hg : gpc ops env o = some pc := by exact rfl) (hd : o.dst = some d := by exact rfl) (hdn : d < n := by decide) (ho : o.op = .load t x := by exact rfl) (hdt : T.at t = some dd := by exact rfl) (hx : ev env x = some (p, .pointer (some ad)) := by exact rfl) (hp : pc = true → p = true := by exact fun _ => rfl) (r : Rd R0 ES2 ad cs) (hk : dd.k.known = true := by exact rfl) (hv : loadV dd cs = some v := by exact rfl) (hsub : ES.Sublist E := by (repeat (first | exact List.Sublist.refl _ | exact List.nil_sublist _ | apply List.Sublist.cons_cons | apply List.Sublist.cons)); done) (hR : RLe R0 R := by first | exact RLe.refl _ | assumption) (hs2 : ES2.Sublist E := by (repeat (first | exact List.Sublist.refl _ | exact List.nil_sublist _ | apply List.Sublist.cons_cons | apply List.Sublist.cons)); done) (k : VA P ops Q ES ES2 D R0 w0 fuel (listed.setIfInBounds i true) n ((d, pc, v) :: env) R E) : VA P ops Q ES ES2 D R0 w0 (fuel + 1) listed n env R E := VA.take2 i hi hs hf hr hDi hw hn hg hd hdn (Yl.load1 hT ho hdt hx hp r hk hv) hsub hR hs2 k
theorem sE {n : Nat} {env : Env} {w0 : World} {R : Ro} {E : List Ent} {ES : List Ent} {Q : Exit → Act → World → Prop} {x : Exit} (h : WE Q x n env w0 R E) (hE : E.Sublist ES := by (repeat (first | exact List.Sublist.refl _ | exact List.nil_sublist _ | apply List.Sublist.cons_cons | apply List.Sublist.cons)); done) : WE Q x n env w0 R ES := WE.subE hE h
theorem qB {P : Prop} (h : P := by first | exact Rd.blk 0 rfl | exact Rd.blk 1 rfl | exact Rd.blk 2 rfl | exact Rd.blk 3 rfl | exact Rd.blk 4 rfl | exact Rd.blk 5 rfl | exact Rd.blk 6 rfl | exact Rd.blk 7 rfl | exact Rd.blk 8 rfl | exact Rd.blk 9 rfl | exact Rd.blk 10 rfl | exact Rd.blk 11 rfl | exact Rd.blk 12 rfl) : P := h
end Go.Proofs.YtehaepbflkncdaaGreat
set_option maxRecDepth 4000
set_option linter.unusedSimpArgs false
set_option linter.unusedVariables false
namespace Go.Proofs.YtehaepbflkncdaaGreat
open Go Go.RowKit Go.Proofs.YtehaepbflkncdaaGreat.K Go.Proofs.YtehaepbflkncdaaGreat.M
def encT (l : List UInt8) : List Value := [.string (str l)]
end Go.Proofs.YtehaepbflkncdaaGreat
namespace Go.Proofs.YtehaepbflkncdaaGreat.M
open Go Go.Proofs.YtehaepbflkncdaaGreat.K
section
variable {names : List (List UInt8)} {Ls : List Ln} {f : Fl}
end
theorem routeGo_ok {ls : List Ln} {cl : Int} : ∀ (r met : List Int), (∀ l ∈ r, (0 ≤ l ∧ l < ls.length) ∧ l ∉ met ∧ 0 ≤ cl ∧ cl < (nth ls l.toNat).n) → r.Nodup → routeGo ls cl met r = 0
 | [], _, _, _ => rfl
 | x :: r, met, h, hd => by
  obtain ⟨h1, h2, h3⟩ := h x (by simp)
  rw [routeGo, if_neg (by omega), if_neg h2, if_neg (by omega)]
  refine routeGo_ok r _ (fun l hl => ?_) (List.nodup_cons.1 hd).2
  obtain ⟨g1, g2, g3⟩ := h l (by simp [hl])
  refine ⟨g1, fun hm => ?_, g3⟩
  rcases List.mem_append.1 hm with hm | hm
  ·exact g2 hm
  ·rw [List.mem_singleton.1 hm] at hl; exact (List.nodup_cons.1 hd).1 hl
theorem DrawF.flE {k m : Nat} {f : Fl} {Ls : List Ln} {met : List (List UInt8)} (h : DrawF k m f) (hm : Ls.length = m) (hk : ∀ L ∈ Ls, L.n = (k : Int)) (hw : wordB f.name = true) (hn : f.name ∉ met) : flE met Ls f = 0 ∧ FlRight Ls f := by
 have hl := h.len
 have hs := h.sizes
 have hc := h.cls
 obtain ⟨v1, v2, v3, _⟩ := stair_valid h.cv
 have hf : frE met f.name = 0 := by unfold frE; rw [if_neg (by rw [hw]; decide), if_neg hn]
 have hr : routeE Ls f = 0 := by
  unfold routeE
  rw [if_neg (by omega), if_neg (by omega)]
  refine routeGo_ok _ _ (fun l hl => ?_) h.nodup
  have hlr := h.route l hl
  have hll : l.toNat < Ls.length := by omega
  exact ⟨by omega, by simp, hc.1, by rw [hk _ (nth_mem hll)]; exact hc.2⟩
 have ht : trafE f = 0 := by unfold trafE; rw [if_neg (by omega), if_neg (by rw [v1]; decide), if_neg (fun hh => hh v2), if_neg (by rw [v3]; decide)]
 have he : M.flE met Ls f = 0 := by unfold M.flE; rw [if_neg (fun hh => hh hf), if_neg (fun hh => hh hr), ht]
 exact ⟨he, (flE_zero he).1⟩
structure DrawN (k : Nat) (ms : List LnM) (fs : List FlM) : Prop where
  hk : k = 1 ∨ k = 2
  hm : 1 ≤ ms.length ∧ ms.length ≤ 4
  hf4 : fs.length ≤ 4
  hl : ∀ m ∈ ms, DrawP k m.L
  hf : ∀ x ∈ fs, DrawF k ms.length x.f
  hn : fs.map FlM.nm = nf5.take fs.length
def nmsN (ms : List LnM) : List (List UInt8) := nm4.take ms.length
theorem nf5_word : ∀ x ∈ nf5, wordB x = true := by
 intro x hx
 simp only [nf5, List.mem_cons, List.not_mem_nil, or_false] at hx
 rcases hx with rfl | rfl | rfl | rfl | rfl <;> kernel_rfl
theorem chkFs_ok {ls : List Ln} : ∀ (Fs : List Fl) (met : List (List UInt8)), (∀ f ∈ Fs, ∀ met', f.name ∉ met' → flE met' ls f = 0) → (met ++ Fs.map (·.name)).Nodup → chkFs ls met Fs = 0
 | [], _, _, _ => rfl
 | f :: r, met, h, hd => by
  have hn : f.name ∉ met := fun hm => by
   rw [List.nodup_append] at hd
   exact hd.2.2 _ hm _ (by simp) rfl
  have h0 := h f (by simp) met hn
  rw [chkFs, if_neg (fun e => e h0)]
  exact chkFs_ok r _ (fun g hg => h g (by simp [hg])) (by rw [List.append_assoc]; exact hd)
section
variable {k : Nat} {ms : List LnM} {fs : List FlM}
theorem DrawN.facts (h : DrawN k ms fs) : (nmsN ms).length = ms.length ∧ (ms.map (·.L)).length = ms.length ∧ (fs.map (·.f)).length = fs.length ∧ (∀ x ∈ nmsN ms, wordB x = true ∧ x.length ≤ 1) ∧ (nmsN ms).Nodup ∧ (∀ L ∈ ms.map (·.L), L.n = (k : Int) ∧ DrawP k L) ∧ (∀ f ∈ fs.map (·.f), DrawF k ms.length f ∧ wordB f.name = true) ∧ ((fs.map (·.f)).map (·.name)).Nodup := by
 have hm := h.hm
 have e : (fs.map (·.f)).map (·.name) = nf5.take fs.length := by rw [List.map_map]; exact h.hn
 refine ⟨by unfold nmsN; rw [List.length_take]; show min _ 4 = _; omega, List.length_map .., List.length_map .., fun x hx => ⟨(nm4_len hx).2, (nm4_len hx).1⟩, (show nm4.Nodup by decide).sublist (List.take_sublist _ _), fun L hL => ?_, fun f hf => ?_, by rw [e]; exact (show nf5.Nodup by decide).sublist (List.take_sublist _ _)⟩
 ·obtain ⟨m, hm, rfl⟩ := List.mem_map.1 hL
  exact ⟨(h.hl m hm).n, h.hl m hm⟩
 ·obtain ⟨x, hx, rfl⟩ := List.mem_map.1 hf
  refine ⟨h.hf x hx, nf5_word _ (List.mem_of_mem_take (i := fs.length) ?_)⟩
  rw [← e]
  exact List.mem_map_of_mem (List.mem_map_of_mem hx)
theorem DrawN.right (h : DrawN k ms fs) : ∀ f ∈ fs.map (·.f), FlRight (ms.map (·.L)) f ∧ (∀ met, f.name ∉ met → flE met (ms.map (·.L)) f = 0) := fun f hf => by
 obtain ⟨_, h2, _, _, _, h6, h7, _⟩ := h.facts
 obtain ⟨g1, g2⟩ := h7 f hf
 exact ⟨(g1.flE (met := []) h2 (fun L hL => (h6 L hL).1) g2 (by simp)).2, fun met hn => (g1.flE h2 (fun L hL => (h6 L hL).1) g2 hn).1⟩
theorem DrawN.chkL (h : DrawN k ms fs) : chkLs [] ((nmsN ms).zip (ms.map (·.L))) = 0 := by
 obtain ⟨h1, h2, _, h4, h5, h6, _, _⟩ := h.facts
 have hz : ∀ x ∈ (nmsN ms).zip (ms.map (·.L)), x.1 ∈ nmsN ms ∧ DrawP k x.2 := fun x hx => by
  have h1 := List.of_mem_zip (a := x.1) (b := x.2) hx
  exact ⟨h1.1, (h6 _ h1.2).2⟩
 refine chkLs_ok _ _ (fun x hx => ⟨(h4 _ (hz x hx).1).1, ((hz x hx).2.chk h.hk).1⟩) ?_
 rw [List.nil_append, List.map_fst_zip (by omega)]
 exact h5
theorem DrawN.chk (h : DrawN k ms fs) : chkNet (nmsN ms) (ms.map (·.L)) (fs.map (·.f)) = 0 := by
 obtain ⟨h1, h2, h3, _, _, _, _, h8⟩ := h.facts
 have hm := h.hm
 have hf := h.hf4
 unfold chkNet
 rw [h2, h3, h1, if_neg (by omega), if_neg (fun hh => hh rfl), if_neg (fun hh => hh h.chkL)]
 exact chkFs_ok _ _ (fun f hf met hn => (h.right f hf).2 met hn) h8
end
theorem FnAt.at {P : Program} {f : FuncId} {vs : List Value} {w0 : World} {R : Ro} {e : Ent} {Post : Value → Ro → Ent → List Ent → Prop} {E : List Ent} (k : Nat) (hE : E[k]? = some e) (h : FnAt P f vs w0 R e Post) : K.Fn P f vs w0 R E (fun v R' E' => ∃ e' N, E' = N ++ E.set k e' ∧ Post v R' e' N) := by
 intro w hm
 refine (h (E.eraseIdx k) w (hm.perm (perm_get hE))).mono ?_
 rintro e0 w' ⟨v, R', E', rfl, hR, hm', e', N, rfl, hp⟩
 exact ⟨v, R', _, rfl, hR, hm'.perm ((perm_set e' hE).append_left N), e', N, rfl, hp⟩
theorem BI.sub {fs : List FlM} {i : Nat} {ps qs : List Pkt} (h : BI fs i ps) (hs : qs.Sublist ps) (hp : ∀ p ∈ ps, 0 ≤ p.size) : BI fs i qs :=
 ⟨fun p hm => h.each p (hs.subset hm), h.sorted.sublist hs, fun k hk => (h.keep k hk).sub hs hp⟩
def SzF (fs : List FlM) : Prop := fs.length ≤ 8 ∧ ∀ m ∈ fs, 1 ≤ m.f.lo ∧ m.f.lo ≤ m.f.hi ∧ m.f.hi ≤ 1500
theorem BI.good {fs : List FlM} {ps : List Pkt} (hz : SzF fs) (h : BI fs fs.length ps) (hl : ps.length ≤ 60) : GoodP fs ps ∧ M.Ok ps ∧ (∀ p ∈ ps, 0 ≤ p.size) ∧ ∃ en : Nat, endN ps = en ∧ en ≤ 2001 := by
 have hb : ∀ p ∈ ps, 1 ≤ (nth fs p.flow.toNat).f.lo ∧ (nth fs p.flow.toNat).f.lo ≤ p.size ∧ p.size ≤ (nth fs p.flow.toNat).f.hi ∧ p.size ≤ 1500 := fun p hp => by
  obtain ⟨h1, h2, h3⟩ := h.each p hp
  have := hz.2 _ (nth_mem (xs := fs) (k := p.flow.toNat) (by omega))
  omega
 have he := endN_bound (B := 380) (by decide) (fun p hp => (h.each p hp).2.1)
 refine ⟨⟨hl, fun p hp => ?_, h.sorted⟩, ⟨hl, fun p hp => ?_, h.sorted⟩, fun p hp => by have := hb p hp; omega, (endN ps).toNat, by omega, by omega⟩
 ·have h1 := h.each p hp
  have h2 := hb p hp
  exact ⟨h1.1, h1.2.1, h2.2.1, h2.2.2.1⟩
 ·have h1 := h.each p hp
  have h2 := hb p hp
  have h3 := hz.1
  unfold BadP
  omega
theorem keep_true {fs : List FlM} {ps : List Pkt} {b : Bool} (h : BI fs fs.length ps) (hb : b = false → ∃ i s t : Nat, i < fs.length ∧ s < t ∧ cvF (nth fs i).f.cv (t - s) < winP i s t ps) : b = true := by
 cases b with
 | true => rfl
 | false =>
  obtain ⟨i, s, t, h1, h2, h3⟩ := hb rfl
  have := h.keep i h1 s t h2
  omega
def bst (n q : Nat) (hi : Int) : List Pkt := List.replicate n ⟨(q : Int), 7, hi⟩
theorem bst_snoc (n q : Nat) (hi : Int) : bst (n + 1) q hi = bst n q hi ++ [⟨(q : Int), 7, hi⟩] := by unfold bst; rw [List.replicate_succ']
theorem bst_len (n q : Nat) (hi : Int) : (bst n q hi).length = n := List.length_replicate ..
theorem bst_win {n q : Nat} {hi t : Int} : pbytes (q : Int) t (bst n q hi) = if 7 < t then (n : Int) * hi else 0 := by
 induction n with
 | zero => unfold bst; simp [pbytes]
 | succ n ih =>
  rw [bst_snoc, pbytes_app, ih]
  simp only [pbytes]
  by_cases h : 7 < t
  ·rw [if_pos h, if_pos h, if_pos (show hit (q : Int) t ⟨(q : Int), 7, hi⟩ by unfold hit; simp; omega), show ((n + 1 : Nat) : Int) = (n : Int) + 1 from rfl, Int.add_mul]; omega
  ·rw [if_neg h, if_neg h, if_neg (show ¬ hit (q : Int) t ⟨(q : Int), 7, hi⟩ by unfold hit; simp; omega)]; rfl
theorem bst_good {fs : List FlM} {n q : Nat} (hz : SzF fs) (hq : q < fs.length) (hn : 1 ≤ n ∧ n ≤ 60) : GoodP fs (bst n q (nth fs q).f.hi) ∧ M.Ok (bst n q (nth fs q).f.hi) ∧ endN (bst n q (nth fs q).f.hi) = (8 : Nat) := by
 have hs := hz.2 _ (nth_mem hq)
 have h8 := hz.1
 have hall : ∀ p ∈ bst n q (nth fs q).f.hi, p = ⟨(q : Int), 7, (nth fs q).f.hi⟩ := fun p hp => (List.mem_replicate.1 hp).2
 have hso : (bst n q (nth fs q).f.hi).Pairwise fun a b => a.time ≤ b.time := List.pairwise_replicate.2 (.inr (Int.le_refl _))
 refine ⟨⟨by rw [bst_len]; exact hn.2, fun p hp => ?_, hso⟩, ⟨by rw [bst_len]; exact hn.2, fun p hp => ?_, hso⟩, ?_⟩
 ·rw [hall p hp]
  refine ⟨⟨by show 0 ≤ (q : Int); omega, by show (q : Int) < _; omega⟩, (show (0 : Int) ≤ 7 ∧ (7 : Int) ≤ 380 by decide), ?_⟩
  show (nth fs ((q : Int)).toNat).f.lo ≤ _ ∧ _ ≤ (nth fs ((q : Int)).toNat).f.hi
  rw [show ((q : Int)).toNat = q by omega]
  exact ⟨hs.2.1, Int.le_refl _⟩
 ·rw [hall p hp]; unfold BadP; simp; omega
 ·unfold endN
  rw [bst_len, if_neg (by omega)]
  have := hall _ (nth_mem (xs := bst n q (nth fs q).f.hi) (k := n - 1) (by rw [bst_len]; omega))
  rw [this]; rfl
theorem keep_false {fs : List FlM} {n q : Nat} {b : Bool} (hz : SzF fs) (hq : q < fs.length) (hn : 1 ≤ n) (hw : cvF (nth fs q).f.cv 1 < (n : Int) * (nth fs q).f.hi) (hb : b = true → ∀ i t s : Nat, i < fs.length → s < t → t ≤ 8 → pbytes i (t : Int) (bst n q (nth fs q).f.hi) ≠ pbytes i ((t - 1 : Nat) : Int) (bst n q (nth fs q).f.hi) → winP i s t (bst n q (nth fs q).f.hi) ≤ cvF (nth fs i).f.cv (t - s)) : b = false := by
 cases b with
 | false => rfl
 | true =>
  have hs := hz.2 _ (nth_mem hq)
  have h1 : 0 < (n : Int) * (nth fs q).f.hi := Int.mul_pos (by omega) (by omega)
  have e8 : pbytes (q : Int) ((8 : Nat) : Int) (bst n q (nth fs q).f.hi) = (n : Int) * (nth fs q).f.hi := by rw [bst_win, if_pos (by decide)]
  have e7 : pbytes (q : Int) ((7 : Nat) : Int) (bst n q (nth fs q).f.hi) = 0 := by rw [bst_win, if_neg (by decide)]
  have := hb rfl q 8 7 hq (by decide) (by decide) (by rw [e8, show 8 - 1 = 7 from rfl, e7]; omega)
  unfold winP at this
  rw [e8, e7] at this
  have h2 : cvF (nth fs q).f.cv (8 - 7) = cvF (nth fs q).f.cv 1 := rfl
  omega
theorem DrawN.szf {k : Nat} {ms : List LnM} {fs : List FlM} (h : DrawN k ms fs) : SzF fs ∧ ∀ m ∈ fs, validB m.f.cv = true ∧ finB m.f.cv = true ∧ 1 ≤ m.f.hi ∧ m.f.hi ≤ 1500 :=
 ⟨⟨by have := h.hf4; omega, fun m hm => by have := (h.hf m hm).sizes; omega⟩, fun m hm => by
  have h1 := (h.hf m hm).sizes
  have h2 := stair_valid (h.hf m hm).cv
  exact ⟨h2.1, h2.2.2.1, by omega, by omega⟩⟩
theorem stair_one {c : Cv} (h : StairP c) : (1 ≤ c.per ∧ c.per ≤ c.vals.length) ∧ 1 < c.vals.length ∧ nth c.vals 1 = cvF c 1 ∧ 4 ≤ cvF c 1 ∧ cvF c 1 ≤ 16 := by
 have hv := stair_valid h
 obtain ⟨b, p, q, rfl, hb, hp, hq⟩ := h.ex
 have hl : (stairC b p q).vals.length = p + 1 := by show (0 :: List.replicate p b).length = _; rw [List.length_cons, List.length_replicate]
 have h1 : nth (stairC b p q).vals 1 = b := stair_nth (by omega) (by omega)
 have h2 : cvF (stairC b p q) 1 = nth (stairC b p q).vals 1 := by
  rcases valid_cases hv.1 with ⟨S, P, hcc, hcl, _, _, _⟩ | ⟨n, _, _, _, _, _, _, hfb⟩
  ·have : (stairC b p q).vals = fvals (cvF (stairC b p q)) (S + P) := congrArg Cv.vals hcc
   rw [this, fvals_nth _ (by omega)]
  ·rw [hfb] at hv; exact absurd hv.2.2.1 (by decide)
 refine ⟨⟨by show 1 ≤ (p : Int); omega, by rw [hl]; show (p : Int) ≤ _; omega⟩, by omega, h2.symm, by rw [h2, h1]; omega, by rw [h2, h1]; omega⟩
end Go.Proofs.YtehaepbflkncdaaGreat.M
set_option maxRecDepth 4000
set_option linter.unusedSimpArgs false
set_option linter.unusedVariables false
namespace Go.Proofs.YtehaepbflkncdaaGreat
open Go Go.RowKit Go.Proofs.YtehaepbflkncdaaGreat.K Go.Proofs.YtehaepbflkncdaaGreat.M

theorem tmod_gt (x : Int) {n : Int} (h : 0 < n) : -n < x.tmod n := by
 rcases Int.le_total 0 x with h0 | h0
 ·have := Int.tmod_nonneg n h0; omega
 ·have h1 := Int.neg_tmod (a := x) (b := n)
  have h2 := Int.tmod_lt_of_pos (-x) h
  omega
theorem mod_pos {x n : Int} (h : 1 ≤ n) (hc : ¬ x.tmod n < 0) : x.tmod n = x % n := by
 rw [Int.tmod_eq_emod] at hc ⊢
 split at hc
 ·rename_i h1; rw [if_pos h1]; omega
 ·rename_i h1
  rw [if_neg h1]
  have := Int.emod_lt_of_pos x (show 0 < n by omega)
  have h2 : (n.natAbs : Int) = n := by omega
  omega
theorem mod_neg {x n : Int} (h : 1 ≤ n) (hc : x.tmod n < 0) : x.tmod n + n = x % n := by
 rw [Int.tmod_eq_emod] at hc ⊢
 split at hc
 ·rename_i h1
  have := Int.emod_nonneg x (show n ≠ 0 by omega)
  omega
 ·rename_i h1; rw [if_neg h1]
  have h2 : (n.natAbs : Int) = n := by omega
  omega
theorem src_end {b : Nat} {a : Option Addr} {cp : Nat} {xs : List Int} {c : Nat} (h : xs.length ≤ c) : srcE b a cp xs c = srcE b a cp xs (c + 1) := by
 unfold srcE
 rw [show min c xs.length = min (c + 1) xs.length by omega]
theorem src_next {b : Nat} {a : Option Addr} {cp : Nat} {xs : List Int} {c : Nat} (h : c < xs.length) : Ent.blk b [.slice a xs.length cp, .int .i64 (((min c xs.length : Nat) : Int) + 1)] = srcE b a cp xs (c + 1) := by
 unfold srcE
 rw [show ((min c xs.length : Nat) : Int) + 1 = ((min (c + 1) xs.length : Nat) : Int) by omega]
theorem Mod_V {R : Ro} {x n : Int} (hn : InR n) : FnV Tryz.prog 40 [.int .i64 x, .int .i64 n] R (.int .i64 (mod x n)) := by
 refine Fn.toV (fun w0 E => ?_)
 refine fE 16 Tryz.func40 ?_
 refine zQ (zG (zR 1 rfl (zN (zU (zQ (zQ (zG (zR 2 rfl (zN (zU ?_))))))))))
 refine cD rfl ?_ ?_ <;> intro hc0
 ·try dsimp only at hc0
  refine zQ (zG (zR 1 rfl (zN (zU (zT (wt ?_))))))
  refine zr1 ?_
  exact ⟨by unfold mod; rw [if_pos hc0]; rfl, rfl⟩
 ·try dsimp only at hc0
  refine zK (zU (zQ (zG (zR 2 rfl ?_))))
  refine WG.y rfl rfl qD (Yl.tmod rfl rfl rfl (fun _ => rfl) (by intro _; omega)) ?_
  refine zR 1 rfl (zN (zU (zQ (zQ (zG (zR 2 rfl (zN (zU ?_))))))))
  refine cD rfl ?_ ?_ <;> intro hc1
  ·try dsimp only at hc1
   refine zG (zR 2 rfl ?_)
   refine WG.y rfl rfl qD (Yl.add rfl rfl rfl (fun _ => rfl) (by intro _; have h9 := tmod_gt x (show (0 : Int) < n by omega); constructor <;> omega)) ?_
   refine zR 1 rfl (zN (zU (zQ (zG (zR 2 rfl (zN (zU (zT ?_))))))))
   refine zr1 ?_
   refine ⟨congrArg (Value.int .i64) ?_, rfl⟩
   unfold mod; rw [if_neg hc0]; exact mod_neg (by omega) hc1
  ·try dsimp only at hc1
   refine zK (zU (zQ (zG (zR 2 rfl (zN (zU (zT ?_)))))))
   refine zr1 ?_
   refine ⟨congrArg (Value.int .i64) ?_, rfl⟩
   unfold mod; rw [if_neg hc0]; exact mod_pos (by omega) hc1
theorem Raw_C {R : Ro} {b : Nat} {a : Option Addr} {cp : Nat} {xs : List Int} {c : Nat} (w0 : World) (ha : RS R 1 encI a xs) : FnAt Tryz.prog 56 [.pointer (some ⟨b, 0, none⟩)] w0 R (srcE b a cp xs c) (RdPost (.int .i64 (nth xs c)) R (srcE b a cp xs (c + 1))) := by
 intro F
 have hla := ha.len
 refine fE 31 Tryz.func56 ?_
 refine zQ (zG (zR 1 rfl (zN (zU (zQ (zQ ?_))))))
 refine W.regionQ _ mixed qK ?_
 refine zR 3 rfl ?_
 refine yD (r := by apply Rd.add; (first | exact Rd.blk 0 rfl | exact Rd.blk 1 rfl | exact Rd.blk 2 rfl | exact Rd.blk 3 rfl | exact Rd.blk 4 rfl | exact Rd.blk 5 rfl | exact Rd.blk 6 rfl | exact Rd.blk 7 rfl | (apply RS.rdD; assumption; ((try dsimp only) <;> omega)) | exact Rd.slD 0 rfl qX | exact Rd.slD 1 rfl qX | exact Rd.slD 2 rfl qX | exact Rd.slD 3 rfl qX | exact Rd.slD 4 rfl qX | exact Rd.slD 5 rfl qX | exact Rd.slD 6 rfl qX | exact Rd.slD 7 rfl qX)) (k := ?_)
 refine zR 3 rfl ?_
 refine yD (r := by apply Rd.add; (first | exact Rd.blk 0 rfl | exact Rd.blk 1 rfl | exact Rd.blk 2 rfl | exact Rd.blk 3 rfl | exact Rd.blk 4 rfl | exact Rd.blk 5 rfl | exact Rd.blk 6 rfl | exact Rd.blk 7 rfl | (apply RS.rdD; assumption; ((try dsimp only) <;> omega)) | exact Rd.slD 0 rfl qX | exact Rd.slD 1 rfl qX | exact Rd.slD 2 rfl qX | exact Rd.slD 3 rfl qX | exact Rd.slD 4 rfl qX | exact Rd.slD 5 rfl qX | exact Rd.slD 6 rfl qX | exact Rd.slD 7 rfl qX)) (k := ?_)
 refine zR 2 rfl (zN (zU ?_))
 refine cD rfl ?_ ?_ <;> intro hc0
 ·try dsimp only at hc0
  refine zQ (zG (zR 1 rfl (zN (zU (zT (wt ?_))))))
  refine zr1 ?_
  exact ⟨_, [], rfl, by rw [nth_out (by omega)]; rfl, rfl, src_end (by omega), rfl⟩
 ·try dsimp only at hc0
  refine zK (zU (zQ (zG (zR 3 rfl ?_))))
  refine yD (r := by apply Rd.add; (first | exact Rd.blk 0 rfl | exact Rd.blk 1 rfl | exact Rd.blk 2 rfl | exact Rd.blk 3 rfl | exact Rd.blk 4 rfl | exact Rd.blk 5 rfl | exact Rd.blk 6 rfl | exact Rd.blk 7 rfl | (apply RS.rdD; assumption; ((try dsimp only) <;> omega)) | exact Rd.slD 0 rfl qX | exact Rd.slD 1 rfl qX | exact Rd.slD 2 rfl qX | exact Rd.slD 3 rfl qX | exact Rd.slD 4 rfl qX | exact Rd.slD 5 rfl qX | exact Rd.slD 6 rfl qX | exact Rd.slD 7 rfl qX)) (k := ?_)
  refine yA ?_
  refine zR 2 rfl ?_
  first | refine WL.efN rfl rfl (Ef.store 0 tab_ok rfl rfl rfl rfl rfl rfl rfl rfl ?_) | refine WL.efN rfl rfl (Ef.store 1 tab_ok rfl rfl rfl rfl rfl rfl rfl rfl ?_) | refine WL.efN rfl rfl (Ef.store 2 tab_ok rfl rfl rfl rfl rfl rfl rfl rfl ?_) | refine WL.efN rfl rfl (Ef.store 3 tab_ok rfl rfl rfl rfl rfl rfl rfl rfl ?_) | refine WL.efN rfl rfl (Ef.store 4 tab_ok rfl rfl rfl rfl rfl rfl rfl rfl ?_) | refine WL.efN rfl rfl (Ef.store 5 tab_ok rfl rfl rfl rfl rfl rfl rfl rfl ?_) | refine WL.efN rfl rfl (Ef.store 6 tab_ok rfl rfl rfl rfl rfl rfl rfl rfl ?_) | refine WL.efN rfl rfl (Ef.store 7 tab_ok rfl rfl rfl rfl rfl rfl rfl rfl ?_)
  refine zN (zU (zQ ?_))
  refine W.regionQ _ mixed qK ?_
  refine zR 3 rfl ?_
  refine yD (r := by apply Rd.add; (first | exact Rd.blk 0 rfl | exact Rd.blk 1 rfl | exact Rd.blk 2 rfl | exact Rd.blk 3 rfl | exact Rd.blk 4 rfl | exact Rd.blk 5 rfl | exact Rd.blk 6 rfl | exact Rd.blk 7 rfl | (apply RS.rdD; assumption; ((try dsimp only) <;> omega)) | exact Rd.slD 0 rfl qX | exact Rd.slD 1 rfl qX | exact Rd.slD 2 rfl qX | exact Rd.slD 3 rfl qX | exact Rd.slD 4 rfl qX | exact Rd.slD 5 rfl qX | exact Rd.slD 6 rfl qX | exact Rd.slD 7 rfl qX)) (k := ?_)
  refine zR 3 rfl ?_
  refine yD (r := by apply Rd.add; (first | exact Rd.blk 0 rfl | exact Rd.blk 1 rfl | exact Rd.blk 2 rfl | exact Rd.blk 3 rfl | exact Rd.blk 4 rfl | exact Rd.blk 5 rfl | exact Rd.blk 6 rfl | exact Rd.blk 7 rfl | (apply RS.rdD; assumption; ((try dsimp only) <;> omega)) | exact Rd.slD 0 rfl qX | exact Rd.slD 1 rfl qX | exact Rd.slD 2 rfl qX | exact Rd.slD 3 rfl qX | exact Rd.slD 4 rfl qX | exact Rd.slD 5 rfl qX | exact Rd.slD 6 rfl qX | exact Rd.slD 7 rfl qX)) (k := ?_)
  refine yS ?_
  refine yX ?_
  refine yD (r := by (first | (apply RS.rdD; assumption; ((try dsimp only) <;> omega)) | exact Rd.slD 0 rfl qX | exact Rd.slD 1 rfl qX | exact Rd.slD 2 rfl qX | exact Rd.slD 3 rfl qX | exact Rd.slD 4 rfl qX | exact Rd.slD 5 rfl qX | exact Rd.slD 6 rfl qX | exact Rd.slD 7 rfl qX)) (k := ?_)
  refine zR 1 rfl (zN (zU (zT ?_)))
  refine zr1 ?_
  exact ⟨_, [], rfl, congrArg (fun i => Value.int .i64 (nth xs i)) (show _ = c by omega), rfl, src_next qO, rfl⟩
theorem N_C {R : Ro} {b : Nat} {a : Option Addr} {cp : Nat} {xs : List Int} {c : Nat} (w0 : World) {n : Int} (ha : RS R 1 encI a xs) (hn : InR n) : FnAt Tryz.prog 29 [.pointer (some ⟨b, 0, none⟩), .int .i64 n] w0 R (srcE b a cp xs c) (RdPost (.int .i64 (mod (nth xs c) n)) R (srcE b a cp xs (c + 1))) := by
 intro F
 refine fE 9 Tryz.func29 ?_
 refine zQ (zG (zR 1 rfl (zN (zU (zQ (zG (zR 1 rfl ?_)))))))
 refine WL.callAt 0 en56 rfl rfl qD (CallOp.mkT rfl rfl rfl rfl) rfl (Raw_C w0 ha _) ?_
 rintro _ _ _ _ - ⟨rfl, rfl, rfl, rfl⟩
 refine zR 1 rfl ?_
 refine WG.callV en40 rfl rfl qD (CallOp.mk' rfl rfl rfl rfl) (fun _ => rfl) (fun hg => Mod_V hn) ?_
 refine zR 1 rfl (zN (zU (zT ?_)))
 refine zr1 ?_
 exact ⟨_, [], rfl, rfl, rfl, rfl, rfl⟩
theorem Pick_C {R : Ro} {b : Nat} {a : Option Addr} {cp : Nat} {xs : List Int} {c : Nat} (w0 : World) {a2 : Option Addr} {c2 : Nat} {ys : List Int} {j : Nat} {F : List Ent} (ha : RS R 1 encI a xs) (hy : F[j]? = some (.sl 3 1 a2 c2 (ys.map encI))) (hne : 0 < ys.length) (hl : ys.length ≤ 1000000) :
  K.Fn Tryz.prog 39 [.pointer (some ⟨b, 0, none⟩), .slice a2 ys.length c2] w0 R (srcE b a cp xs c :: F) (fun v R' E' => ∃ e' N, E' = N ++ e' :: F ∧ RdPost (.int .i64 (nth ys (mod (nth xs c) ys.length).toNat)) R (srcE b a cp xs (c + 1)) v R' e' N) := by
 have hr := mod_range (nth xs c) (show (1 : Int) ≤ ys.length by omega)
 refine fE 12 Tryz.func39 ?_
 refine zQ (zG (zR 1 rfl (zN (zU (zQ (zG (zR 4 rfl ?_)))))))
 refine WL.callAt 0 en29 rfl rfl qD (CallOp.mkT rfl rfl rfl rfl) rfl (N_C w0 ha (by constructor <;> omega) _) ?_
 rintro _ _ _ _ - ⟨rfl, rfl, rfl, rfl⟩
 refine WG.y rfl rfl qD (Yl.index tab_ok rfl rfl rfl rfl rfl rfl (fun _ => rfl) qA (by intro _; first | exact HasMem.ownD (j + 1) hy | exact qI)) ?_
 refine yD (r := by (first | exact Rd.slD (j + 1) hy qO | (apply RS.rdD; assumption; ((try dsimp only) <;> omega)) | exact Rd.slD 0 rfl qX | exact Rd.slD 1 rfl qX | exact Rd.slD 2 rfl qX | exact Rd.slD 3 rfl qX | exact Rd.slD 4 rfl qX | exact Rd.slD 5 rfl qX | exact Rd.slD 6 rfl qX | exact Rd.slD 7 rfl qX)) (k := ?_)
 refine zR 1 rfl (zN (zU (zT ?_)))
 refine zr1 ?_
 exact ⟨_, [], rfl, rfl, rfl, rfl, rfl⟩
theorem New_C {R : Ro} {a : Option Addr} {cp : Nat} {l : List Int} (w0 : World) (E : List Ent) (hc : l.length ≤ cp) :
  K.Fn Tryz.prog 6 [.slice a l.length cp] w0 R E (fun v R' E' => ∃ b, v = .pointer (some ⟨b, 0, none⟩) ∧ R = R' ∧ E' = srcE b a cp (l.take 2000) 0 :: E) := by
 refine fE 10 Tryz.func6 ?_
 refine zQ (zG (zR 1 rfl (zN (zU (zQ (zG (zR 4 rfl ?_)))))))
 refine WG.y rfl rfl qD (Yl.sliceH tab_ok rfl rfl rfl rfl rfl (fun _ => rfl) (by intro _; split <;> constructor <;> omega) rfl) ?_
 refine yW [(0, .tmp 7)] ?_
 refine zO fun b9 => ?_
 refine zR 1 rfl (zN (zU (zT ?_)))
 refine zr1 ?_
 refine ⟨_, rfl, rfl, ?_⟩
 unfold srcE
 rw [List.length_take, Nat.min_comm 0, Nat.min_zero]
 have e1 : ((if (2000 : Int) < (l.length : Int) then 2000 else (l.length : Int))).toNat = min 2000 l.length := by split <;> omega
 exact congrArg (fun n => Ent.blk _ [Value.slice a n cp, .int .i64 0] :: E) e1

theorem Validate_V {R : Ro} {a : Option Addr} {c : Nat} {ps : List Pkt} (ha : RS R 3 encP a ps) : FnV Tryz.prog 106 [.slice a ps.length c] R (.int .i64 (validate ps)) := by
 have hla := ha.len
 refine Fn.toV (fun w0 E => ?_)
 refine fE 50 Tryz.func106 ?_
 refine zQ (zG (zR 1 rfl (zN (zU (zQ (zQ (zG (zR 3 rfl (zN (zU ?_))))))))))
 refine cD rfl ?_ ?_ <;> intro hc0
 ·try dsimp only at hc0
  refine zQ (zG (zR 1 rfl (zN (zU (zT (wt ?_))))))
  refine sE (E := E) ?_
  refine zr1 ?_
  exact ⟨by unfold validate; rw [if_pos (show 60 < ps.length by omega)]; rfl, rfl⟩
 ·try dsimp only at hc0
  refine zK (zU (zQ (zG (zR 1 rfl (zN (zU (zQ (zQ (zG (zR 3 rfl (zN (zU (zB ?_)))))))))))))
  refine W.loop (β := Nat × Int) (fun (k, last) => k ≤ ps.length ∧ valGo last (ps.drop k) = valGo 0 ps) (fun (k, last) => [(0, true, .slice a ps.length c), (3, true, .int .i64 last), (9, true, .slice a ps.length c), (10, true, .int .i64 ps.length), (11, true, .int .i64 (k : Int))]) (fun _ => R) (fun _ => E) (fun (k, last) => ps.length - k) ((0, 0)) (⟨Nat.zero_le _, rfl⟩) ⟨rfl, rfl, rfl, rfl, rfl, rfl⟩ (RLe.refl _) qS ?_
  intro st hst
  obtain ⟨k, last⟩ := st
  obtain ⟨hk, hv⟩ := hst
  dsimp only
  refine zQ (zG (zR 1 rfl (zN (zU (zQ ?_)))))
  refine cD rfl ?_ ?_ <;> intro hc1
  ·try dsimp only at hc1
   have hd := drop_nth (xs := ps) (k := k) (by omega)
   rw [hd, valGo] at hv
   refine zK (zU (zQ (zB (zQ (zG ?_)))))
   refine yI ?_
   refine yD (r := by (first | (apply RS.rdD; assumption; ((try dsimp only) <;> omega)) | exact Rd.slD 0 rfl qX | exact Rd.slD 1 rfl qX | exact Rd.slD 2 rfl qX | exact Rd.slD 3 rfl qX | exact Rd.slD 4 rfl qX | exact Rd.slD 5 rfl qX | exact Rd.slD 6 rfl qX | exact Rd.slD 7 rfl qX)) (k := ?_)
   refine zA fun b5 => ?_
   first | refine WL.efN rfl rfl (Ef.store0 0 tab_ok rfl rfl rfl rfl rfl rfl rfl rfl ?_) | refine WL.efN rfl rfl (Ef.store0 1 tab_ok rfl rfl rfl rfl rfl rfl rfl rfl ?_) | refine WL.efN rfl rfl (Ef.store0 2 tab_ok rfl rfl rfl rfl rfl rfl rfl rfl ?_) | refine WL.efN rfl rfl (Ef.store0 3 tab_ok rfl rfl rfl rfl rfl rfl rfl rfl ?_) | refine WL.efN rfl rfl (Ef.store0 4 tab_ok rfl rfl rfl rfl rfl rfl rfl rfl ?_) | refine WL.efN rfl rfl (Ef.store0 5 tab_ok rfl rfl rfl rfl rfl rfl rfl rfl ?_) | refine WL.efN rfl rfl (Ef.store0 6 tab_ok rfl rfl rfl rfl rfl rfl rfl rfl ?_) | refine WL.efN rfl rfl (Ef.store0 7 tab_ok rfl rfl rfl rfl rfl rfl rfl rfl ?_)
   refine zN (zU (zQ (zQ (zG (zR 1 rfl ?_)))))
   refine yD (r := by apply Rd.add; (first | exact Rd.blk 0 rfl | exact Rd.blk 1 rfl | exact Rd.blk 2 rfl | exact Rd.blk 3 rfl | exact Rd.blk 4 rfl | exact Rd.blk 5 rfl | exact Rd.blk 6 rfl | exact Rd.blk 7 rfl)) (k := ?_)
   refine zR 2 rfl ?_
   refine yP ?_
   refine yJ (r := by apply Rd.addC; (first | exact Rd.blkC 0 rfl | exact Rd.blkC 1 rfl | exact Rd.blkC 2 rfl | exact Rd.blkC 3 rfl | exact Rd.blkC 4 rfl | exact Rd.blkC 5 rfl | exact Rd.blkC 6 rfl | exact Rd.blkC 7 rfl)) (k := ?_)
   refine yP ?_
   refine yO ?_
   refine zR 1 rfl ?_
   refine yP ?_
   refine yJ (r := by apply Rd.addC; (first | exact Rd.blkC 0 rfl | exact Rd.blkC 1 rfl | exact Rd.blkC 2 rfl | exact Rd.blkC 3 rfl | exact Rd.blkC 4 rfl | exact Rd.blkC 5 rfl | exact Rd.blkC 6 rfl | exact Rd.blkC 7 rfl)) (k := ?_)
   refine yP ?_
   refine yO ?_
   refine zR 1 rfl ?_
   refine yP ?_
   refine yJ (r := by apply Rd.addC; (first | exact Rd.blkC 0 rfl | exact Rd.blkC 1 rfl | exact Rd.blkC 2 rfl | exact Rd.blkC 3 rfl | exact Rd.blkC 4 rfl | exact Rd.blkC 5 rfl | exact Rd.blkC 6 rfl | exact Rd.blkC 7 rfl)) (k := ?_)
   refine yP ?_
   refine yO ?_
   refine zR 1 rfl ?_
   refine yP ?_
   refine yJ (r := by apply Rd.addC; (first | exact Rd.blkC 0 rfl | exact Rd.blkC 1 rfl | exact Rd.blkC 2 rfl | exact Rd.blkC 3 rfl | exact Rd.blkC 4 rfl | exact Rd.blkC 5 rfl | exact Rd.blkC 6 rfl | exact Rd.blkC 7 rfl)) (k := ?_)
   refine yP ?_
   refine yO ?_
   refine zR 1 rfl ?_
   refine yP ?_
   refine yJ (r := by apply Rd.addC; (first | exact Rd.blkC 0 rfl | exact Rd.blkC 1 rfl | exact Rd.blkC 2 rfl | exact Rd.blkC 3 rfl | exact Rd.blkC 4 rfl | exact Rd.blkC 5 rfl | exact Rd.blkC 6 rfl | exact Rd.blkC 7 rfl)) (k := ?_)
   refine yP ?_
   refine yO ?_
   refine zN (zU ?_)
   refine cC rfl ?_ ?_ <;> intro hc2
   ·try simp only [zk] at hc2
    rw [if_pos (show BadP (nth ps k) by unfold BadP; omega)] at hv
    refine zQ (zG (zR 1 rfl (zN (zU (zT (wt (wb (wt (wt (wb (wt ?_)))))))))))
    refine sE (E := E) ?_
    refine zr1 ?_
    exact ⟨by unfold validate; rw [if_neg (show ¬ 60 < ps.length by omega), ← hv]; rfl, rfl⟩
   ·try simp only [zk] at hc2
    rw [if_neg (show ¬ BadP (nth ps k) by unfold BadP; omega)] at hv
    refine zK (zU (zQ (zQ (zG (zR 1 rfl ?_)))))
    refine yD (r := by apply Rd.add; (first | exact Rd.blk 0 rfl | exact Rd.blk 1 rfl | exact Rd.blk 2 rfl | exact Rd.blk 3 rfl | exact Rd.blk 4 rfl | exact Rd.blk 5 rfl | exact Rd.blk 6 rfl | exact Rd.blk 7 rfl)) (k := ?_)
    refine zR 2 rfl (zN (zU ?_))
    refine cD rfl ?_ ?_ <;> intro hc3
    ·try dsimp only at hc3
     rw [if_pos hc3] at hv
     refine zQ (zG (zR 1 rfl (zN (zU (zT (wt (wb (wt (wt (wb (wt ?_)))))))))))
     refine sE (E := E) ?_
     refine zr1 ?_
     exact ⟨by unfold validate; rw [if_neg (show ¬ 60 < ps.length by omega), ← hv]; rfl, rfl⟩
    ·try dsimp only at hc3
     rw [if_neg hc3] at hv
     refine zK (zU (zG (zR 1 rfl ?_)))
     refine yD (r := by apply Rd.add; (first | exact Rd.blk 0 rfl | exact Rd.blk 1 rfl | exact Rd.blk 2 rfl | exact Rd.blk 3 rfl | exact Rd.blk 4 rfl | exact Rd.blk 5 rfl | exact Rd.blk 6 rfl | exact Rd.blk 7 rfl)) (k := ?_)
     refine zR 1 rfl (zN (zL (zU (zG ?_))))
     refine yA ?_
     refine zR 1 rfl (zN ?_)
     refine WE.again ((k + 1, (nth ps k).time)) (⟨by dsimp only; omega, hv⟩) (by (try dsimp only); omega) ⟨rfl, rfl, rfl, rfl, rfl, rfl⟩ (RLe.refl _) qS
  ·try dsimp only at hc1
   obtain rfl : k = ps.length := by omega
   simp only [List.drop_length, valGo] at hv
   refine zX ?_
   refine wx (wx (zY (zU (zQ (zG (zR 1 rfl (zN (zU (zT ?_)))))))))
   refine sE (E := E) ?_
   refine zr1 ?_
   exact ⟨by unfold validate; rw [if_neg (show ¬ 60 < ps.length by omega), ← hv]; rfl, rfl⟩


theorem hitB {flow : Int} {p : Pkt} (h : (true && (flow == -1 || (p.flow == flow && decide (flow ≥ 0))) == true) = true) : hitF flow p := by
 simp at h; unfold hitF; omega
theorem hitN {flow : Int} {p : Pkt} (h : (true && (flow == -1 || (p.flow == flow && decide (flow ≥ 0))) == true) = false) : ¬ hitF flow p := by
 simp at h; unfold hitF; omega
theorem Of_C {R : Ro} {a : Option Addr} {l c : Nat} {flow : Int} (w0 : World) (E : List Ent) :
  K.Fn Tryz.prog 132 [.slice a l c, .int .i64 flow] w0 R E (fun v R' E' => ∃ b2 b3, v = .func (.func 178) #[] #[.pointer (some ⟨b2, 0, none⟩), .pointer (some ⟨b3, 0, none⟩)] ∧ R = R' ∧ E' = .blk b3 [.int .i64 flow] :: .blk b2 [.slice a l c] :: E) := by
 refine fE 6 Tryz.func132 ?_
 refine zQ (zG ?_)
 refine zO fun b2 => ?_
 refine zO fun b3 => ?_
 refine zR 1 rfl (zN (zU (zQ (zG (zR 2 rfl (zN (zU (zT ?_))))))))
 refine zr1 ?_
 exact ⟨_, _, rfl, rfl, rfl⟩
theorem Of_It {R : Ro} {a : Option Addr} {c b2 b3 : Nat} {flow : Int} {ps : List Pkt} (hp : RS R 3 encP a ps) :
  Iter Tryz.prog 178 [.pointer (some ⟨b2, 0, none⟩), .pointer (some ⟨b3, 0, none⟩)] encIP (fun xs => xs = ofGo flow 0 ps) R [.blk b3 [.int .i64 flow], .blk b2 [.slice a ps.length c]] := by
 intro w0 lp EJ hY F
 have hla := hp.len
 refine fE 33 Tryz.func178 ?_
 refine W.perm (E' := .blk b3 [.int .i64 flow] :: .blk b2 [.slice a ps.length c] :: (EJ [] ++ F)) (List.perm_append_comm_assoc _ [_, _] _) ?_
 refine zQ (zG ?_)
 refine yD (r := by (first | exact Rd.blk 0 rfl | exact Rd.blk 1 rfl | exact Rd.blk 2 rfl | exact Rd.blk 3 rfl | (apply RS.rdD; assumption; ((try dsimp only) <;> omega)) | exact Rd.slD 0 rfl qX | exact Rd.slD 1 rfl qX | exact Rd.slD 2 rfl qX | exact Rd.slD 3 rfl qX)) (k := ?_)
 refine zR 2 rfl (zN (zU (zB ?_)))
 refine W.loop (β := Nat × List (Nat × Pkt)) (fun (k, pre) => k ≤ ps.length ∧ pre ++ ofGo flow k (ps.drop k) = ofGo flow 0 ps) (fun (k, pre) => [(0, true, .func (.yield lp) #[] #[]), (1, true, .pointer (some ⟨b2, 0, none⟩)), (2, true, .pointer (some ⟨b3, 0, none⟩)), (6, true, .slice a ps.length c), (7, true, .int .i64 ps.length), (8, true, .int .i64 (k : Int))]) (fun _ => R) (fun (k, pre) => .blk b3 [.int .i64 flow] :: .blk b2 [.slice a ps.length c] :: (EJ pre ++ F)) (fun (k, pre) => ps.length - k) ((0, [])) (⟨Nat.zero_le _, rfl⟩) ⟨rfl, rfl, rfl, rfl, rfl, rfl, rfl⟩ (RLe.refl _) qS ?_
 intro st hst
 obtain ⟨k, pre⟩ := st
 obtain ⟨hk, hpre⟩ := hst
 dsimp only at hk hpre ⊢
 refine zQ (zG (zR 1 rfl (zN (zU (zQ ?_)))))
 refine cD rfl ?_ ?_ <;> intro hc0
 ·try dsimp only at hc0
  have hd := drop_nth (xs := ps) (k := k) (by omega)
  rw [hd, ofGo] at hpre
  refine zK (zU (zQ (zB (zQ (zG (zR 1 rfl ?_))))))
  refine yI ?_
  refine yD (r := by (first | (apply RS.rdD; assumption; ((try dsimp only) <;> omega)) | exact Rd.slD 0 rfl qX | exact Rd.slD 1 rfl qX | exact Rd.slD 2 rfl qX | exact Rd.slD 3 rfl qX)) (k := ?_)
  refine zA fun b5 => ?_
  refine zR 1 rfl ?_
  first | refine WL.efN rfl rfl (Ef.store0 0 tab_ok rfl rfl rfl rfl rfl rfl rfl rfl ?_) | refine WL.efN rfl rfl (Ef.store0 1 tab_ok rfl rfl rfl rfl rfl rfl rfl rfl ?_) | refine WL.efN rfl rfl (Ef.store0 2 tab_ok rfl rfl rfl rfl rfl rfl rfl rfl ?_) | refine WL.efN rfl rfl (Ef.store0 3 tab_ok rfl rfl rfl rfl rfl rfl rfl rfl ?_)
  refine zN (zU (zQ ?_))
  refine W.regionY _ ?_
  refine' WQ.yv rfl rfl qD rfl (Yl.load1 tab_ok rfl rfl rfl (fun _ => rfl) ?r3 rfl ?h3) ?_
  case r3 => (first | exact Rd.blk 0 rfl | exact Rd.blk 1 rfl | exact Rd.blk 2 rfl | exact Rd.blk 3 rfl | (apply RS.rdD; assumption; ((try dsimp only) <;> omega)) | exact Rd.slD 0 rfl qX | exact Rd.slD 1 rfl qX | exact Rd.slD 2 rfl qX | exact Rd.slD 3 rfl qX)
  case h3 => rfl
  refine WQ.yv rfl rfl qD rfl (pureV_ok tab_ok rfl (fun _ => rfl)) ?_
  refine WQ.yv rfl rfl qD rfl (pureV_ok tab_ok rfl (fun _ => rfl)) ?_
  refine WQ.yv rfl rfl qD rfl (pureV_ok tab_ok rfl qE) ?_
  refine' WQ.yv rfl rfl qD rfl (Yl.loadG tab_ok rfl rfl rfl qE ?r4 rfl ?h4 ?g4) ?_
  case r4 => apply Rd.addC; (first | exact Rd.blkC 0 rfl | exact Rd.blkC 1 rfl | exact Rd.blkC 2 rfl | exact Rd.blkC 3 rfl)
  case h4 => rfl
  case g4 => first | exact fun _ => trivial | (intro hg; (try simp only [zk] at hg); (try dsimp only); omega)
  refine' WQ.yv rfl rfl qD rfl (Yl.loadG tab_ok rfl rfl rfl qE ?r5 rfl ?h5 ?g5) ?_
  case r5 => (first | exact Rd.blkC 0 rfl | exact Rd.blkC 1 rfl | exact Rd.blkC 2 rfl | exact Rd.blkC 3 rfl | (apply RS.rdC; assumption) | exact Rd.slC 0 rfl | exact Rd.slC 1 rfl | exact Rd.slC 2 rfl | exact Rd.slC 3 rfl)
  case h5 => rfl
  case g5 => first | exact fun _ => trivial | (intro hg; (try simp only [zk] at hg); (try dsimp only); omega)
  refine WQ.yv rfl rfl qD rfl (pureV_ok tab_ok rfl qE) ?_
  refine WQ.yv rfl rfl qD rfl (pureV_ok tab_ok rfl qE) ?_
  refine' WQ.yv rfl rfl qD rfl (Yl.loadG tab_ok rfl rfl rfl qE ?r6 rfl ?h6 ?g6) ?_
  case r6 => (first | exact Rd.blkC 0 rfl | exact Rd.blkC 1 rfl | exact Rd.blkC 2 rfl | exact Rd.blkC 3 rfl | (apply RS.rdC; assumption) | exact Rd.slC 0 rfl | exact Rd.slC 1 rfl | exact Rd.slC 2 rfl | exact Rd.slC 3 rfl)
  case h6 => rfl
  case g6 => first | exact fun _ => trivial | (intro hg; (try simp only [zk] at hg); (try dsimp only); omega)
  refine WQ.yv rfl rfl qD rfl (pureV_ok tab_ok rfl qE) ?_
  refine WQ.yv rfl rfl (by decide) rfl (Yl.pand rfl rfl rfl qE (by intro h1 h2; simp_all <;> omega)) ?_
  refine WQ.yv rfl rfl (by decide) rfl (Yl.por rfl rfl rfl (fun _ => rfl) (by intro h1 h2; simp_all <;> omega)) ?_
  refine WQ.yv rfl rfl qD rfl (pureV_ok tab_ok rfl (fun _ => rfl)) ?_
  refine WQ.yv rfl rfl qD rfl (pureV_ok tab_ok rfl qE) ?_
  refine WQ.yv rfl rfl qD rfl (pureV_ok tab_ok rfl qE) ?_
  refine' WQ.yv rfl rfl qD rfl (Yl.loadG tab_ok rfl rfl rfl qE ?r7 rfl ?h7 ?g7) ?_
  case r7 => (first | exact Rd.blkC 0 rfl | exact Rd.blkC 1 rfl | exact Rd.blkC 2 rfl | exact Rd.blkC 3 rfl)
  case h7 => rfl
  case g7 => first | exact fun _ => trivial | (intro hg; (try simp only [zk] at hg); (try dsimp only); omega)
  refine WQ.yield (vs := encIP (k, nth ps k)) (E1 := EJ pre ++ (.blk b5 (encP (nth ps k)) :: .blk b3 [.int .i64 flow] :: .blk b2 [.slice a ps.length c] :: F)) (E2 := EJ (pre ++ [(k, nth ps k)]) ++ (.blk b5 (encP (nth ps k)) :: .blk b3 [.int .i64 flow] :: .blk b2 [.slice a ps.length c] :: F)) rfl rfl (by decide) (CallY.mk' rfl rfl rfl) qE rfl (List.perm_append_comm_assoc [_, _, _] _ _) (fun hpc => hY pre _ _ ⟨ofGo flow (k + 1) (ps.drop (k + 1)), by rw [if_pos (hitB hpc)] at hpre; exact hpre⟩) (fun hpc => ?_) (fun hpc => ?_)
  ·
   refine WQ.yv rfl rfl qD rfl (pureV_ok tab_ok rfl qE) ?_
   refine WQ.yv rfl rfl (by decide) rfl (Yl.pand rfl rfl rfl (fun _ => rfl) (by intro h1 h2; simp_all <;> omega)) ?_
   refine WQ.nil ?_
   refine zU ?_
   refine cC rfl ?_ ?_ <;> intro hc1
   ·try simp only [zk] at hc1
    simp_all
   ·try simp only [zk] at hc1
    refine zK (zL (zU (zG ?_)))
    refine yA ?_
    refine zR 1 rfl (zN ?_)
    rw [if_pos (hitB hpc)] at hpre
    refine WE.againP (k + 1, pre ++ [(k, nth ps k)]) ⟨by dsimp only; omega, by dsimp only; rw [← hpre]; simp⟩ (by dsimp only; omega) ⟨rfl, rfl, rfl, rfl, rfl, rfl, rfl⟩ (RLe.refl _) ⟨_, List.perm_append_comm_assoc _ [_, _, _] _, List.Sublist.cons _ (List.Sublist.refl _)⟩
  ·
   refine WQ.yv rfl rfl qD rfl (pureV_ok tab_ok rfl qE) ?_
   refine WQ.yv rfl rfl (by decide) rfl (Yl.pand rfl rfl rfl (fun _ => rfl) (by intro h1 h2; simp_all <;> omega)) ?_
   refine WQ.nil ?_
   refine zU ?_
   refine cC rfl ?_ ?_ <;> intro hc2
   ·try simp only [zk] at hc2
    simp_all
   ·try simp only [zk] at hc2
    refine zK (zL (zU (zG ?_)))
    refine yA ?_
    refine zR 1 rfl (zN ?_)
    rw [if_neg (hitN hpc)] at hpre
    refine WE.again (k + 1, pre) ⟨by dsimp only; omega, hpre⟩ (by dsimp only; omega) ⟨rfl, rfl, rfl, rfl, rfl, rfl, rfl⟩ (RLe.refl _) (List.Sublist.cons _ (List.Sublist.refl _))
 ·try dsimp only at hc0
  obtain rfl : k = ps.length := by omega
  rw [List.drop_length, ofGo, List.append_nil] at hpre
  refine zX ?_
  refine wx (wx (zY ?_))
  refine WE.endF tab_ok [] rfl trivial (RLe.refl _) ?_
  exact ⟨rfl, _, hpre, List.Sublist.cons _ (List.Sublist.cons _ (List.Sublist.refl _))⟩
theorem Bytes_V {R : Ro} {a : Option Addr} {c : Nat} {ps : List Pkt} (hp : RS R 3 encP a ps) {flow t : Int} (hs : ∀ p ∈ ps, 0 ≤ p.size ∧ p.size ≤ 1000000) (hl : ps.length ≤ 1000000) :
  FnV Tryz.prog 108 [.slice a ps.length c, .int .i64 flow, .int .i64 t] R (.int .i64 (pbytes flow t ps)) := by
 refine Fn.toV (fun w0 E => ?_)
 refine Fn.enterM (n := 24) Tryz.func108 rfl rfl (Nat.le_of_ble_eq_true rfl) rfl ?_
 refine zQ (zG ?_)
 refine zO fun b5 => ?_
 refine zR 1 rfl (zN (zU (zQ (zG ?_))))
 refine zA fun b7 => ?_
 first | refine WL.efN rfl rfl (Ef.store0 0 tab_ok rfl rfl rfl rfl rfl rfl rfl rfl ?_) | refine WL.efN rfl rfl (Ef.store0 1 tab_ok rfl rfl rfl rfl rfl rfl rfl rfl ?_) | refine WL.efN rfl rfl (Ef.store0 2 tab_ok rfl rfl rfl rfl rfl rfl rfl rfl ?_) | refine WL.efN rfl rfl (Ef.store0 3 tab_ok rfl rfl rfl rfl rfl rfl rfl rfl ?_)
 refine zN (zU (zQ (zQ (zG (zR 2 rfl ?_)))))
 refine WL.call en132 rfl rfl qD (CallOp.mkT rfl rfl rfl rfl) (Of_C _ _) ?_
 rintro _ _ _ - ⟨b2, b3, rfl, rfl, rfl⟩
 refine zN (zU (zB ?_))
 refine W.rangeFunc (α := Nat × Pkt) (β := Nat) (encs := encIP) (S := fun xs => xs = ofGo flow 0 ps) (EB := [.blk b3 [.int .i64 flow], .blk b2 [.slice a ps.length c]]) (Rest := E) (ps := [13, 14]) (fun xs => [.blk b7 [.int .i64 (sumT t xs)], .blk b5 [.int .i64 t]]) (fun _ _ _ => True)
  (fun _ _ b9 => [(5, true, .pointer (some ⟨b5, 0, none⟩)), (7, true, .pointer (some ⟨b7, 0, none⟩)), (9, true, .pointer (some ⟨b9, 0, none⟩))]) (fun pre x b9 => .blk b9 (encP x.2) :: [.blk b7 [.int .i64 (sumT t pre)], .blk b5 [.int .i64 t]]) rfl en178 (Of_It hp) (fun _ => rfl) (by decide) rfl (List.perm_append_comm_assoc [_, _] [_, _] _) ?_ ?_ ?_
 ·
  intro l pre x ys F hS
  refine WR.region _ ?_
  refine WQ.ef rfl rfl qD rfl (Ef.alloc tab_ok rfl rfl (fun b9 => ?_))
  first | refine WQ.efN rfl rfl rfl (Ef.store0 0 tab_ok rfl rfl rfl rfl rfl rfl rfl rfl ?_) | refine WQ.efN rfl rfl rfl (Ef.store0 1 tab_ok rfl rfl rfl rfl rfl rfl rfl rfl ?_) | refine WQ.efN rfl rfl rfl (Ef.store0 2 tab_ok rfl rfl rfl rfl rfl rfl rfl rfl ?_) | refine WQ.efN rfl rfl rfl (Ef.store0 3 tab_ok rfl rfl rfl rfl rfl rfl rfl rfl ?_)
  refine WQ.nil ?_
  exact WE.asg (E1 := fun b9 => _ ++ F) b9 trivial ⟨rfl, rfl, rfl, rfl⟩ (List.Sublist.refl _)
 ·
  intro l pre x ys b9 F hS hi
  have hb := sumT_bound t pre (fun y hy => hs _ (ofGo_mem flow 0 ps y (by rw [← hS]; simp [hy])))
  have hx := hs _ (ofGo_mem flow 0 ps x (by rw [← hS]; simp))
  have hlen : pre.length ≤ ps.length := by
   have := ofGo_length flow 0 ps
   rw [← hS] at this; simp at this; omega
  have hsn : sumT t (pre ++ [x]) = sumT t pre + (if x.2.time < t then x.2.size else 0) := by rw [sumT_append]; simp [sumT]
  refine WR.block ?_
  refine WR.seq ?_
  refine WR.region _ ?_
  refine WQ.yv rfl rfl qD rfl (pureV_ok tab_ok rfl (fun _ => rfl)) ?_
  refine' WQ.yv rfl rfl qD rfl (Yl.load1 tab_ok rfl rfl rfl (fun _ => rfl) ?r1 rfl ?h1) ?_
  case r1 => apply Rd.add; (first | exact Rd.blk 0 rfl | exact Rd.blk 1 rfl | exact Rd.blk 2 rfl | exact Rd.blk 3 rfl)
  case h1 => rfl
  refine' WQ.yv rfl rfl qD rfl (Yl.load1 tab_ok rfl rfl rfl (fun _ => rfl) ?r2 rfl ?h2) ?_
  case r2 => (first | exact Rd.blk 0 rfl | exact Rd.blk 1 rfl | exact Rd.blk 2 rfl | exact Rd.blk 3 rfl)
  case h2 => rfl
  refine WQ.yv rfl rfl qD rfl (pureV_ok tab_ok rfl (fun _ => rfl)) ?_
  refine WQ.nil ?_
  refine WE.nxtR ?_
  refine WR.condD rfl (fun hc0 => ?_) (fun hc0 => ?_)
  ·try dsimp only at hc0
   refine WR.region _ ?_
   refine' WQ.yv rfl rfl qD rfl (Yl.load1 tab_ok rfl rfl rfl (fun _ => rfl) ?r3 rfl ?h3) ?_
   case r3 => (first | exact Rd.blk 0 rfl | exact Rd.blk 1 rfl | exact Rd.blk 2 rfl | exact Rd.blk 3 rfl)
   case h3 => rfl
   refine WQ.yv rfl rfl qD rfl (pureV_ok tab_ok rfl (fun _ => rfl)) ?_
   refine' WQ.yv rfl rfl qD rfl (Yl.load1 tab_ok rfl rfl rfl (fun _ => rfl) ?r4 rfl ?h4) ?_
   case r4 => apply Rd.add; (first | exact Rd.blk 0 rfl | exact Rd.blk 1 rfl | exact Rd.blk 2 rfl | exact Rd.blk 3 rfl)
   case h4 => rfl
   refine WQ.yv rfl rfl qD rfl (Yl.add rfl rfl rfl (fun _ => rfl) qA) ?_
   first | refine WQ.efN rfl rfl rfl (Ef.store0 0 tab_ok rfl rfl rfl rfl rfl rfl rfl rfl ?_) | refine WQ.efN rfl rfl rfl (Ef.store0 1 tab_ok rfl rfl rfl rfl rfl rfl rfl rfl ?_) | refine WQ.efN rfl rfl rfl (Ef.store0 2 tab_ok rfl rfl rfl rfl rfl rfl rfl rfl ?_) | refine WQ.efN rfl rfl rfl (Ef.store0 3 tab_ok rfl rfl rfl rfl rfl rfl rfl rfl ?_)
   refine WQ.nil ?_
   refine zL ?_
   refine WE.rend ⟨_, List.Perm.refl _, ?_⟩
   rw [hsn, if_pos hc0]
   exact List.Sublist.cons _ (List.Sublist.refl _)
  ·try dsimp only at hc0
   refine WR.skip ?_
   refine zL ?_
   refine WE.rend ⟨_, List.Perm.refl _, ?_⟩
   rw [hsn, if_neg hc0, Int.add_zero]
   exact List.Sublist.cons _ (List.Sublist.refl _)
 ·
  rintro D xs rfl
  rw [sumT_ofGo]
  refine zL (zU (zQ (zG ?_)))
  refine yD (r := by (first | exact Rd.blk 0 rfl | exact Rd.blk 1 rfl | exact Rd.blk 2 rfl | exact Rd.blk 3 rfl)) (k := ?_)
  refine zR 1 rfl (zN (zU (zT ?_)))
  refine WE.subE (E' := .obj D (.deferred (some [])) :: E) qS ?_
  refine WE.retFM tab_ok 0 [_] rfl rfl rfl ⟨rfl, trivial⟩ (RLe.refl _) ?_
  exact ⟨rfl, rfl⟩




theorem Range_C {R : Ro} {b : Nat} {a : Option Addr} {cp : Nat} {xs : List Int} {c : Nat} (w0 : World) {lo hi : Int} (ha : K.RS R 1 encI a xs) (hlo : -1000000 ≤ lo ∧ lo ≤ hi) (hhi : hi ≤ 1000000) : FnAt Tryz.prog 19 [.pointer (some ⟨b, 0, none⟩), .int .i64 lo, .int .i64 hi] w0 R (srcE b a cp xs c) (RdPost (.int .i64 (lo + mod (nth xs c) (hi - lo + 1))) R (srcE b a cp xs (c + 1))) := by
 intro F
 have hmr := mod_range (nth xs c) (show (1 : Int) ≤ hi - lo + 1 by omega)
 refine fE 15 Tryz.func19 ?_
 refine zQ (zG (zR 1 rfl (zN (zU (zQ (zG (zR 4 rfl ?_)))))))
 refine yS ?_
 refine yA ?_
 refine WL.callAt 0 en29 rfl rfl qD (CallOp.mkT rfl rfl rfl rfl) rfl (N_C w0 ha (by constructor <;> omega) _) ?_
 rintro _ _ _ _ - ⟨rfl, rfl, rfl, rfl⟩
 refine yA ?_
 refine zR 1 rfl (zN (zU (zT ?_)))
 refine zr1 ?_
 exact ⟨_, [], rfl, rfl, rfl, rfl, rfl⟩

set_option maxHeartbeats 4000000 in
theorem Port2_C {R : Ro} {b : Nat} {a : Option Addr} {cp : Nat} {xs : List Int} {c : Nat} (w0 : World) (ha : K.RS R 1 encI a xs) : FnAt Tryz.prog 20 [.pointer (some ⟨b, 0, none⟩), .int .i64 2] w0 R (srcE b a cp xs c) (fun v R' e' N => ∃ (L : Ln) (aw at_ : Option Addr) (cw ct cn : Nat), v = .agg #[.int .i64 L.kind, .int .i64 L.cap, .int .i64 L.n, .slice aw L.w.length cw, .slice at_ L.tb.length ct] ∧ K.RS R' 1 encI aw L.w ∧ K.RS R' 1 encI at_ L.tb ∧ DrawP 2 L ∧ e' = srcE b a cp xs cn ∧ N = []) := by
 intro F
 refine fE 85 Tryz.func20 ?_
 refine zQ (zG ?_)
 refine zA fun b4 => ?_
 refine zN (zU (zQ (zG (zR 1 rfl ?_))))
 refine WL.callAt 1 en19 rfl rfl qD (CallOp.mkT rfl rfl rfl rfl) rfl (Range_C (lo := 4) (hi := 24) w0 ha qO qO _) ?_
 rintro _ _ _ _ - ⟨rfl, rfl, rfl, rfl⟩
 have hm0 := mod_range (nth xs (c)) (show (1 : Int) ≤ 24 - 4 + 1 by omega)
 refine zR 1 rfl ?_
 refine yW [(0, .const (.int .i64 1)), (1, .tmp 11), (2, .tmp 12)] ?_
 refine zA fun b5 => ?_
 first | refine WL.efN rfl rfl (Ef.store0 0 tab_ok rfl rfl rfl rfl rfl rfl rfl rfl ?_) | refine WL.efN rfl rfl (Ef.store0 1 tab_ok rfl rfl rfl rfl rfl rfl rfl rfl ?_) | refine WL.efN rfl rfl (Ef.store0 2 tab_ok rfl rfl rfl rfl rfl rfl rfl rfl ?_) | refine WL.efN rfl rfl (Ef.store0 3 tab_ok rfl rfl rfl rfl rfl rfl rfl rfl ?_) | refine WL.efN rfl rfl (Ef.store0 4 tab_ok rfl rfl rfl rfl rfl rfl rfl rfl ?_) | refine WL.efN rfl rfl (Ef.store0 5 tab_ok rfl rfl rfl rfl rfl rfl rfl rfl ?_)
 refine zN (zU (zQ (zQ (zG (zR 3 rfl ?_)))))
 refine yP ?_
 refine WG.callV (v := .int .i64 0) (vs := [.pointer (some ⟨b, 0, none⟩), .int .i64 3]) en29 rfl rfl qD (CallOp.mk' rfl rfl rfl rfl) (by intro h; cases h) (fun h => by cases h) ?_
 refine yP ?_
 refine yN ?_
 refine zN (zU ?_)
 refine cC rfl ?_ ?_ <;> intro hc0
 ·try simp only [zk] at hc0
  exact absurd hc0.1 qD
 ·try simp only [zk] at hc0
  refine zK (zU (zQ (zQ (zG (zR 1 rfl ?_)))))
  refine WL.callAt 2 en29 rfl rfl qD (CallOp.mkT rfl rfl rfl rfl) rfl (N_C w0 ha (by constructor <;> decide) _) ?_
  rintro _ _ _ _ - ⟨rfl, rfl, rfl, rfl⟩
  have hm1 := mod_range (nth xs (c + 1)) (show (1 : Int) ≤ 4 by decide)
  refine zN (zU (zB (zQ (zG (zR 2 rfl (zN (zU ?_)))))))
  refine cE rfl ?_ ?_ <;> intro hc1
  ·try dsimp only at hc1
   refine zG (zR 1 rfl ?_)
   first | refine WL.efN rfl rfl (Ef.store 0 tab_ok rfl rfl rfl rfl rfl rfl rfl rfl ?_) | refine WL.efN rfl rfl (Ef.store 1 tab_ok rfl rfl rfl rfl rfl rfl rfl rfl ?_) | refine WL.efN rfl rfl (Ef.store 2 tab_ok rfl rfl rfl rfl rfl rfl rfl rfl ?_) | refine WL.efN rfl rfl (Ef.store 3 tab_ok rfl rfl rfl rfl rfl rfl rfl rfl ?_) | refine WL.efN rfl rfl (Ef.store 4 tab_ok rfl rfl rfl rfl rfl rfl rfl rfl ?_) | refine WL.efN rfl rfl (Ef.store 5 tab_ok rfl rfl rfl rfl rfl rfl rfl rfl ?_)
   refine zN (zL (zU (zQ (zG ?_))))
   refine yD (r := by (first | exact Rd.blk 0 rfl | exact Rd.blk 1 rfl | exact Rd.blk 2 rfl | exact Rd.blk 3 rfl | exact Rd.blk 4 rfl | exact Rd.blk 5 rfl)) (k := ?_)
   first | refine WL.efN rfl rfl (Ef.store0 0 tab_ok rfl rfl rfl rfl rfl rfl rfl rfl ?_) | refine WL.efN rfl rfl (Ef.store0 1 tab_ok rfl rfl rfl rfl rfl rfl rfl rfl ?_) | refine WL.efN rfl rfl (Ef.store0 2 tab_ok rfl rfl rfl rfl rfl rfl rfl rfl ?_) | refine WL.efN rfl rfl (Ef.store0 3 tab_ok rfl rfl rfl rfl rfl rfl rfl rfl ?_) | refine WL.efN rfl rfl (Ef.store0 4 tab_ok rfl rfl rfl rfl rfl rfl rfl rfl ?_) | refine WL.efN rfl rfl (Ef.store0 5 tab_ok rfl rfl rfl rfl rfl rfl rfl rfl ?_)
   refine zN (zU (zT ?_))
   refine WE.retFS (E' := srcE b a cp xs (c + 1 + 1) :: F) qS tab_ok [_] rfl ⟨⟨_, _, _, rfl, rfl, rfl, qB, rfl⟩, trivial⟩ (by first | assumption | exact RLe.refl _) ?_
   exact ⟨_, [], rfl, ⟨2, (4 + mod (nth xs c) (24 - 4 + 1)), 2, [], []⟩, none, none, 0, 0, _, rfl, rs_nil, rs_nil, ⟨by dsimp only; omega, rfl, by dsimp only; omega, fun _ => ⟨rfl, rfl⟩, fun h => by dsimp only at h; omega, fun h => by dsimp only at h; omega, fun h => by dsimp only at h; omega, fun h => by dsimp only at h; omega⟩, rfl, rfl⟩
  ·try dsimp only at hc1
   refine zQ (zG (zR 2 rfl (zN (zU ?_))))
   refine cE rfl ?_ ?_ <;> intro hc2
   ·try dsimp only at hc2
    refine zQ (zG (zR 1 rfl ?_))
    first | refine WL.efN rfl rfl (Ef.store 0 tab_ok rfl rfl rfl rfl rfl rfl rfl rfl ?_) | refine WL.efN rfl rfl (Ef.store 1 tab_ok rfl rfl rfl rfl rfl rfl rfl rfl ?_) | refine WL.efN rfl rfl (Ef.store 2 tab_ok rfl rfl rfl rfl rfl rfl rfl rfl ?_) | refine WL.efN rfl rfl (Ef.store 3 tab_ok rfl rfl rfl rfl rfl rfl rfl rfl ?_) | refine WL.efN rfl rfl (Ef.store 4 tab_ok rfl rfl rfl rfl rfl rfl rfl rfl ?_) | refine WL.efN rfl rfl (Ef.store 5 tab_ok rfl rfl rfl rfl rfl rfl rfl rfl ?_)
    refine zN (zU ?_)
    refine W.nil 3 1 qD ?_
    refine zQ (zG (zR 1 rfl (zN (zU (zB ?_)))))
    refine W.loopK (β := Nat × List Int × Nat × Option Addr × Nat) (fun (i, ys, cn, a9, c9) => ys.length = i ∧ i ≤ 2 ∧ ∀ y ∈ ys, 1 ≤ y ∧ y ≤ 3) (fun (i, ys, cn, a9, c9) => [(6, true, .int .i64 (i : Int))]) [0, 1, 4, 5] [_, _, _, _] [] _ rfl (fun (i, ys, cn, a9, c9) => [(0, .sl 3 1 a9 c9 (ys.map encI)), (1, .blk b5 [.int .i64 3, .int .i64 (4 + mod (nth xs c) (24 - 4 + 1)), .int .i64 2, .slice a9 ys.length c9, .slice none 0 0]), (3, srcE b a cp xs cn)]) (fun (i, ys, cn, a9, c9) => 2 - i) ((0, [], c + 1 + 1, none, 0)) (⟨rfl, Nat.zero_le _, fun y h => (by cases h)⟩) ⟨rfl, rfl, rfl, rfl, rfl, rfl⟩ qS ?_
    intro zz hst
    obtain ⟨i, ys, cn, a9, c9⟩ := zz
    dsimp only [zipE, setAll, List.cons_append, List.nil_append, List.set_cons_zero, List.set_cons_succ] at hst ⊢
    obtain ⟨hy1, hy2, hy3⟩ := hst
    refine zQ (zQ (zG (zR 3 rfl (zN (zU ?_)))))
    refine cD rfl ?_ ?_ <;> intro hc3
    ·try dsimp only at hc3
     refine zK (zU (zQ (zB ?_)))
     refine W.regionD _ (.blk b4 [.int .i64 0, .int .i64 0, .int .i64 0, .slice none 0 0, .slice none 0 0] :: F) (.blk b5 [.int .i64 3, .int .i64 (4 + mod (nth xs c) (24 - 4 + 1)), .int .i64 2, .slice a9 ys.length c9, .slice none 0 0] :: .blk b4 [.int .i64 0, .int .i64 0, .int .i64 0, .slice none 0 0, .slice none 0 0] :: F) [7] mixed ?_
     refine vP 0 ?_
     refine vD 1 (r := by apply Rd.add; (first | exact Rd.blk 0 rfl | exact Rd.blk 1 rfl | exact Rd.blk 2 rfl | exact Rd.blk 3 rfl | exact Rd.blk 4 rfl | exact Rd.blk 5 rfl)) (k := ?_)
     refine vP 2 ?_
     refine VA.one (i := 3) qK ?_
     refine VS.callAt 3 rfl en19 rfl rfl qD (CallOp.mkT rfl rfl rfl rfl) rfl (Range_C (lo := 1) (hi := 3) w0 ha qO qO _) ?_
     rintro _ _ _ _ - ⟨rfl, rfl, rfl, rfl⟩
     refine ⟨RLe.refl _, qS, (fun _ => qS), ?_⟩
     have hm9 := mod_range (nth xs cn) (show (1 : Int) ≤ 3 - 1 + 1 by omega)
     refine VA.one (i := 4) qK ?_
     refine VS.eff rfl rfl rfl qD (Ef.buildSliceD (enc := encI) (parts := [.tmp 65]) [_] tab_ok rfl rfl rfl rfl rfl rfl rfl rfl qD qD (fun a66 => ?_))
     refine ⟨by first | exact RLe.refl _ | assumption, qS, (fun _ => qS), ?_⟩
     refine VA.one (i := 5) qK ?_
     first | refine VS.eff rfl rfl rfl (by decide) (Ef.appendD 1 0 tab_ok rfl rfl rfl rfl rfl rfl rfl rfl rfl rfl rfl (fun _ _ => rfl) (by simp only [List.length_cons, List.length_nil]; omega) (by simp only [List.length_cons, List.length_nil]; omega) (fun a67 c67 ha67 => ?_)) | refine VS.eff rfl rfl rfl (by decide) (Ef.appendD 2 0 tab_ok rfl rfl rfl rfl rfl rfl rfl rfl rfl rfl rfl (fun _ _ => rfl) (by simp only [List.length_cons, List.length_nil]; omega) (by simp only [List.length_cons, List.length_nil]; omega) (fun a67 c67 ha67 => ?_)) | refine VS.eff rfl rfl rfl (by decide) (Ef.appendD 3 0 tab_ok rfl rfl rfl rfl rfl rfl rfl rfl rfl rfl rfl (fun _ _ => rfl) (by simp only [List.length_cons, List.length_nil]; omega) (by simp only [List.length_cons, List.length_nil]; omega) (fun a67 c67 ha67 => ?_)) | refine VS.eff rfl rfl rfl (by decide) (Ef.appendD 4 0 tab_ok rfl rfl rfl rfl rfl rfl rfl rfl rfl rfl rfl (fun _ _ => rfl) (by simp only [List.length_cons, List.length_nil]; omega) (by simp only [List.length_cons, List.length_nil]; omega) (fun a67 c67 ha67 => ?_)) | refine VS.eff rfl rfl rfl (by decide) (Ef.appendD 5 0 tab_ok rfl rfl rfl rfl rfl rfl rfl rfl rfl rfl rfl (fun _ _ => rfl) (by simp only [List.length_cons, List.length_nil]; omega) (by simp only [List.length_cons, List.length_nil]; omega) (fun a67 c67 ha67 => ?_)) | refine VS.eff rfl rfl rfl (by decide) (Ef.appendR 0 tab_ok rfl rfl rfl rfl rfl rfl rfl rfl rfl rfl (by assumption) (fun _ _ => rfl) (by (try dsimp only); omega) (by omega) (fun a67 c67 ha67 => ?_)) | refine VS.eff rfl rfl rfl (by decide) (Ef.appendR 1 tab_ok rfl rfl rfl rfl rfl rfl rfl rfl rfl rfl (by assumption) (fun _ _ => rfl) (by (try dsimp only); omega) (by omega) (fun a67 c67 ha67 => ?_)) | refine VS.eff rfl rfl rfl (by decide) (Ef.appendR 2 tab_ok rfl rfl rfl rfl rfl rfl rfl rfl rfl rfl (by assumption) (fun _ _ => rfl) (by (try dsimp only); omega) (by omega) (fun a67 c67 ha67 => ?_)) | refine VS.eff rfl rfl rfl (by decide) (Ef.appendR 3 tab_ok rfl rfl rfl rfl rfl rfl rfl rfl rfl rfl (by assumption) (fun _ _ => rfl) (by (try dsimp only); omega) (by omega) (fun a67 c67 ha67 => ?_)) | refine VS.eff rfl rfl rfl (by decide) (Ef.appendR 4 tab_ok rfl rfl rfl rfl rfl rfl rfl rfl rfl rfl (by assumption) (fun _ _ => rfl) (by (try dsimp only); omega) (by omega) (fun a67 c67 ha67 => ?_)) | refine VS.eff rfl rfl rfl (by decide) (Ef.appendR 5 tab_ok rfl rfl rfl rfl rfl rfl rfl rfl rfl rfl (by assumption) (fun _ _ => rfl) (by (try dsimp only); omega) (by omega) (fun a67 c67 ha67 => ?_))
     refine ⟨by first | exact RLe.refl _ | assumption, qS, (fun _ => qS), ?_⟩
     refine vP 6 ?_
     refine VA.one (i := 7) qK ?_
     first | refine VS.effN rfl rfl rfl (Ef.store 0 tab_ok rfl rfl rfl rfl rfl rfl rfl rfl ?_) | refine VS.effN rfl rfl rfl (Ef.store 1 tab_ok rfl rfl rfl rfl rfl rfl rfl rfl ?_) | refine VS.effN rfl rfl rfl (Ef.store 2 tab_ok rfl rfl rfl rfl rfl rfl rfl rfl ?_) | refine VS.effN rfl rfl rfl (Ef.store 3 tab_ok rfl rfl rfl rfl rfl rfl rfl rfl ?_) | refine VS.effN rfl rfl rfl (Ef.store 4 tab_ok rfl rfl rfl rfl rfl rfl rfl rfl ?_) | refine VS.effN rfl rfl rfl (Ef.store 5 tab_ok rfl rfl rfl rfl rfl rfl rfl rfl ?_)
     refine ⟨by first | exact RLe.refl _ | assumption, qS, (noD qK), ?_⟩
     refine VA.done qK ?_
     refine zL (zU (zG (zR 1 rfl ?_)))
     refine yA ?_
     refine zR 1 rfl (zN ?_)
     refine WE.again ((i + 1, ys ++ [1 + mod (nth xs cn) (3 - 1 + 1)], cn + 1, a67, c67)) (⟨by simp only [List.length_append, List.length_cons, List.length_nil]; omega, by omega, fun y hy => by rcases List.mem_append.1 hy with h | h; exact hy3 y h; have := List.mem_singleton.1 h; omega⟩) (by (try dsimp only); omega) ⟨rfl, rfl, rfl, rfl, rfl, rfl⟩ (RLe.refl _) qS
    ·try dsimp only at hc3
     refine W.freeze (enc := encI) (xs := ys) 0 rfl ?_
     intro R1 hR1 hwz
     refine zX ?_
     refine wx (wx (zY (zL (zU (zQ (zG ?_))))))
     refine yD (r := by (first | exact Rd.blk 0 rfl | exact Rd.blk 1 rfl | exact Rd.blk 2 rfl | exact Rd.blk 3 rfl | exact Rd.blk 4 rfl | exact Rd.blk 5 rfl)) (k := ?_)
     first | refine WL.efN rfl rfl (Ef.store0 0 tab_ok rfl rfl rfl rfl rfl rfl rfl rfl ?_) | refine WL.efN rfl rfl (Ef.store0 1 tab_ok rfl rfl rfl rfl rfl rfl rfl rfl ?_) | refine WL.efN rfl rfl (Ef.store0 2 tab_ok rfl rfl rfl rfl rfl rfl rfl rfl ?_) | refine WL.efN rfl rfl (Ef.store0 3 tab_ok rfl rfl rfl rfl rfl rfl rfl rfl ?_) | refine WL.efN rfl rfl (Ef.store0 4 tab_ok rfl rfl rfl rfl rfl rfl rfl rfl ?_) | refine WL.efN rfl rfl (Ef.store0 5 tab_ok rfl rfl rfl rfl rfl rfl rfl rfl ?_)
     refine zN (zU (zT ?_))
     refine WE.retFS (E' := srcE b a cp xs (cn) :: F) qS tab_ok [_] rfl ⟨⟨_, _, _, rfl, rfl, rfl, qB, rfl⟩, trivial⟩ (by first | assumption | exact RLe.refl _) ?_
     exact ⟨_, [], rfl, ⟨3, (4 + mod (nth xs c) (24 - 4 + 1)), 2, ys, []⟩, _, none, _, 0, _, rfl, hwz, rs_nil, ⟨by dsimp only; omega, rfl, by dsimp only; omega, fun h => by dsimp only at h; omega, fun h => by dsimp only at h; omega, fun _ => ⟨by dsimp only; omega, hy3, rfl⟩, fun h => by dsimp only at h; omega, fun h => by dsimp only at h; omega⟩, rfl, rfl⟩
   ·try dsimp only at hc2
    refine zQ (zG (zR 2 rfl (zN (zU ?_))))
    refine cE rfl ?_ ?_ <;> intro hc4
    ·try dsimp only at hc4
     refine zQ (zG (zR 1 rfl ?_))
     first | refine WL.efN rfl rfl (Ef.store 0 tab_ok rfl rfl rfl rfl rfl rfl rfl rfl ?_) | refine WL.efN rfl rfl (Ef.store 1 tab_ok rfl rfl rfl rfl rfl rfl rfl rfl ?_) | refine WL.efN rfl rfl (Ef.store 2 tab_ok rfl rfl rfl rfl rfl rfl rfl rfl ?_) | refine WL.efN rfl rfl (Ef.store 3 tab_ok rfl rfl rfl rfl rfl rfl rfl rfl ?_) | refine WL.efN rfl rfl (Ef.store 4 tab_ok rfl rfl rfl rfl rfl rfl rfl rfl ?_) | refine WL.efN rfl rfl (Ef.store 5 tab_ok rfl rfl rfl rfl rfl rfl rfl rfl ?_)
     refine zN (zU ?_)
     refine W.nil 3 1 qD ?_
     refine zQ (zG (zR 1 rfl (zN (zU (zB ?_)))))
     refine W.loopK (β := Nat × List Int × Nat × Option Addr × Nat) (fun (i, ys, cn, a9, c9) => ys.length = i ∧ i ≤ 2 ∧ ∀ y ∈ ys, 8 ≤ y ∧ y ≤ 20) (fun (i, ys, cn, a9, c9) => [(7, true, .int .i64 (i : Int))]) [0, 1, 4, 5] [_, _, _, _] [] _ rfl (fun (i, ys, cn, a9, c9) => [(0, .sl 3 1 a9 c9 (ys.map encI)), (1, .blk b5 [.int .i64 4, .int .i64 (4 + mod (nth xs c) (24 - 4 + 1)), .int .i64 2, .slice a9 ys.length c9, .slice none 0 0]), (3, srcE b a cp xs cn)]) (fun (i, ys, cn, a9, c9) => 2 - i) ((0, [], c + 1 + 1, none, 0)) (⟨rfl, Nat.zero_le _, fun y h => (by cases h)⟩) ⟨rfl, rfl, rfl, rfl, rfl, rfl⟩ qS ?_
     intro zz hst
     obtain ⟨i, ys, cn, a9, c9⟩ := zz
     dsimp only [zipE, setAll, List.cons_append, List.nil_append, List.set_cons_zero, List.set_cons_succ] at hst ⊢
     obtain ⟨hy1, hy2, hy3⟩ := hst
     refine zQ (zQ (zG (zR 3 rfl (zN (zU ?_)))))
     refine cD rfl ?_ ?_ <;> intro hc5
     ·try dsimp only at hc5
      refine zK (zU (zQ (zB ?_)))
      refine W.regionD _ (.blk b4 [.int .i64 0, .int .i64 0, .int .i64 0, .slice none 0 0, .slice none 0 0] :: F) (.blk b5 [.int .i64 4, .int .i64 (4 + mod (nth xs c) (24 - 4 + 1)), .int .i64 2, .slice a9 ys.length c9, .slice none 0 0] :: .blk b4 [.int .i64 0, .int .i64 0, .int .i64 0, .slice none 0 0, .slice none 0 0] :: F) [7] mixed ?_
      refine vP 0 ?_
      refine vD 1 (r := by apply Rd.add; (first | exact Rd.blk 0 rfl | exact Rd.blk 1 rfl | exact Rd.blk 2 rfl | exact Rd.blk 3 rfl | exact Rd.blk 4 rfl | exact Rd.blk 5 rfl)) (k := ?_)
      refine vP 2 ?_
      refine VA.one (i := 3) qK ?_
      refine VS.callAt 3 rfl en19 rfl rfl qD (CallOp.mkT rfl rfl rfl rfl) rfl (Range_C (lo := 8) (hi := 20) w0 ha qO qO _) ?_
      rintro _ _ _ _ - ⟨rfl, rfl, rfl, rfl⟩
      refine ⟨RLe.refl _, qS, (fun _ => qS), ?_⟩
      have hm9 := mod_range (nth xs cn) (show (1 : Int) ≤ 20 - 8 + 1 by omega)
      refine VA.one (i := 4) qK ?_
      refine VS.eff rfl rfl rfl qD (Ef.buildSliceD (enc := encI) (parts := [.tmp 80]) [_] tab_ok rfl rfl rfl rfl rfl rfl rfl rfl qD qD (fun a81 => ?_))
      refine ⟨by first | exact RLe.refl _ | assumption, qS, (fun _ => qS), ?_⟩
      refine VA.one (i := 5) qK ?_
      first | refine VS.eff rfl rfl rfl (by decide) (Ef.appendD 1 0 tab_ok rfl rfl rfl rfl rfl rfl rfl rfl rfl rfl rfl (fun _ _ => rfl) (by simp only [List.length_cons, List.length_nil]; omega) (by simp only [List.length_cons, List.length_nil]; omega) (fun a82 c82 ha82 => ?_)) | refine VS.eff rfl rfl rfl (by decide) (Ef.appendD 2 0 tab_ok rfl rfl rfl rfl rfl rfl rfl rfl rfl rfl rfl (fun _ _ => rfl) (by simp only [List.length_cons, List.length_nil]; omega) (by simp only [List.length_cons, List.length_nil]; omega) (fun a82 c82 ha82 => ?_)) | refine VS.eff rfl rfl rfl (by decide) (Ef.appendD 3 0 tab_ok rfl rfl rfl rfl rfl rfl rfl rfl rfl rfl rfl (fun _ _ => rfl) (by simp only [List.length_cons, List.length_nil]; omega) (by simp only [List.length_cons, List.length_nil]; omega) (fun a82 c82 ha82 => ?_)) | refine VS.eff rfl rfl rfl (by decide) (Ef.appendD 4 0 tab_ok rfl rfl rfl rfl rfl rfl rfl rfl rfl rfl rfl (fun _ _ => rfl) (by simp only [List.length_cons, List.length_nil]; omega) (by simp only [List.length_cons, List.length_nil]; omega) (fun a82 c82 ha82 => ?_)) | refine VS.eff rfl rfl rfl (by decide) (Ef.appendD 5 0 tab_ok rfl rfl rfl rfl rfl rfl rfl rfl rfl rfl rfl (fun _ _ => rfl) (by simp only [List.length_cons, List.length_nil]; omega) (by simp only [List.length_cons, List.length_nil]; omega) (fun a82 c82 ha82 => ?_)) | refine VS.eff rfl rfl rfl (by decide) (Ef.appendR 0 tab_ok rfl rfl rfl rfl rfl rfl rfl rfl rfl rfl (by assumption) (fun _ _ => rfl) (by (try dsimp only); omega) (by omega) (fun a82 c82 ha82 => ?_)) | refine VS.eff rfl rfl rfl (by decide) (Ef.appendR 1 tab_ok rfl rfl rfl rfl rfl rfl rfl rfl rfl rfl (by assumption) (fun _ _ => rfl) (by (try dsimp only); omega) (by omega) (fun a82 c82 ha82 => ?_)) | refine VS.eff rfl rfl rfl (by decide) (Ef.appendR 2 tab_ok rfl rfl rfl rfl rfl rfl rfl rfl rfl rfl (by assumption) (fun _ _ => rfl) (by (try dsimp only); omega) (by omega) (fun a82 c82 ha82 => ?_)) | refine VS.eff rfl rfl rfl (by decide) (Ef.appendR 3 tab_ok rfl rfl rfl rfl rfl rfl rfl rfl rfl rfl (by assumption) (fun _ _ => rfl) (by (try dsimp only); omega) (by omega) (fun a82 c82 ha82 => ?_)) | refine VS.eff rfl rfl rfl (by decide) (Ef.appendR 4 tab_ok rfl rfl rfl rfl rfl rfl rfl rfl rfl rfl (by assumption) (fun _ _ => rfl) (by (try dsimp only); omega) (by omega) (fun a82 c82 ha82 => ?_)) | refine VS.eff rfl rfl rfl (by decide) (Ef.appendR 5 tab_ok rfl rfl rfl rfl rfl rfl rfl rfl rfl rfl (by assumption) (fun _ _ => rfl) (by (try dsimp only); omega) (by omega) (fun a82 c82 ha82 => ?_))
      refine ⟨by first | exact RLe.refl _ | assumption, qS, (fun _ => qS), ?_⟩
      refine vP 6 ?_
      refine VA.one (i := 7) qK ?_
      first | refine VS.effN rfl rfl rfl (Ef.store 0 tab_ok rfl rfl rfl rfl rfl rfl rfl rfl ?_) | refine VS.effN rfl rfl rfl (Ef.store 1 tab_ok rfl rfl rfl rfl rfl rfl rfl rfl ?_) | refine VS.effN rfl rfl rfl (Ef.store 2 tab_ok rfl rfl rfl rfl rfl rfl rfl rfl ?_) | refine VS.effN rfl rfl rfl (Ef.store 3 tab_ok rfl rfl rfl rfl rfl rfl rfl rfl ?_) | refine VS.effN rfl rfl rfl (Ef.store 4 tab_ok rfl rfl rfl rfl rfl rfl rfl rfl ?_) | refine VS.effN rfl rfl rfl (Ef.store 5 tab_ok rfl rfl rfl rfl rfl rfl rfl rfl ?_)
      refine ⟨by first | exact RLe.refl _ | assumption, qS, (noD qK), ?_⟩
      refine VA.done qK ?_
      refine zL (zU (zG (zR 1 rfl ?_)))
      refine yA ?_
      refine zR 1 rfl (zN ?_)
      refine WE.again ((i + 1, ys ++ [8 + mod (nth xs cn) (20 - 8 + 1)], cn + 1, a82, c82)) (⟨by simp only [List.length_append, List.length_cons, List.length_nil]; omega, by omega, fun y hy => by rcases List.mem_append.1 hy with h | h; exact hy3 y h; have := List.mem_singleton.1 h; omega⟩) (by (try dsimp only); omega) ⟨rfl, rfl, rfl, rfl, rfl, rfl⟩ (RLe.refl _) qS
     ·try dsimp only at hc5
      refine W.freeze (enc := encI) (xs := ys) 0 rfl ?_
      intro R1 hR1 hwz
      refine zX ?_
      refine wx (wx (zY (zL (zU (zQ (zG ?_))))))
      refine yD (r := by (first | exact Rd.blk 0 rfl | exact Rd.blk 1 rfl | exact Rd.blk 2 rfl | exact Rd.blk 3 rfl | exact Rd.blk 4 rfl | exact Rd.blk 5 rfl)) (k := ?_)
      first | refine WL.efN rfl rfl (Ef.store0 0 tab_ok rfl rfl rfl rfl rfl rfl rfl rfl ?_) | refine WL.efN rfl rfl (Ef.store0 1 tab_ok rfl rfl rfl rfl rfl rfl rfl rfl ?_) | refine WL.efN rfl rfl (Ef.store0 2 tab_ok rfl rfl rfl rfl rfl rfl rfl rfl ?_) | refine WL.efN rfl rfl (Ef.store0 3 tab_ok rfl rfl rfl rfl rfl rfl rfl rfl ?_) | refine WL.efN rfl rfl (Ef.store0 4 tab_ok rfl rfl rfl rfl rfl rfl rfl rfl ?_) | refine WL.efN rfl rfl (Ef.store0 5 tab_ok rfl rfl rfl rfl rfl rfl rfl rfl ?_)
      refine zN (zU (zT ?_))
      refine WE.retFS (E' := srcE b a cp xs (cn) :: F) qS tab_ok [_] rfl ⟨⟨_, _, _, rfl, rfl, rfl, qB, rfl⟩, trivial⟩ (by first | assumption | exact RLe.refl _) ?_
      exact ⟨_, [], rfl, ⟨4, (4 + mod (nth xs c) (24 - 4 + 1)), 2, ys, []⟩, _, none, _, 0, _, rfl, hwz, rs_nil, ⟨by dsimp only; omega, rfl, by dsimp only; omega, fun h => by dsimp only at h; omega, fun h => by dsimp only at h; omega, fun h => by dsimp only at h; omega, fun _ => ⟨by dsimp only; omega, hy3, rfl⟩, fun h => by dsimp only at h; omega⟩, rfl, rfl⟩
    ·try dsimp only at hc4
     refine zQ (zG (zR 1 rfl ?_))
     first | refine WL.efN rfl rfl (Ef.store 0 tab_ok rfl rfl rfl rfl rfl rfl rfl rfl ?_) | refine WL.efN rfl rfl (Ef.store 1 tab_ok rfl rfl rfl rfl rfl rfl rfl rfl ?_) | refine WL.efN rfl rfl (Ef.store 2 tab_ok rfl rfl rfl rfl rfl rfl rfl rfl ?_) | refine WL.efN rfl rfl (Ef.store 3 tab_ok rfl rfl rfl rfl rfl rfl rfl rfl ?_) | refine WL.efN rfl rfl (Ef.store 4 tab_ok rfl rfl rfl rfl rfl rfl rfl rfl ?_) | refine WL.efN rfl rfl (Ef.store 5 tab_ok rfl rfl rfl rfl rfl rfl rfl rfl ?_)
     refine zN (zU (zQ ?_))
     refine W.nil 3 1 qD ?_
     refine zQ (zG (zR 1 rfl (zN (zU (zB ?_)))))
     refine W.loopK (β := Nat × List Int × Option Addr × Nat) (fun (i, ys, a9, c9) => ys.length = i ∧ i ≤ 2 ∧ ∀ y ∈ ys, -1 ≤ y ∧ y ≤ (2 : Int) - 1) (fun (i, ys, a9, c9) => [(8, true, .int .i64 (i : Int))]) [0, 1, 4, 5] [_, _, _, _] [] _ rfl (fun (i, ys, a9, c9) => [(0, .sl 3 1 a9 c9 (ys.map encI)), (1, .blk b5 [.int .i64 5, .int .i64 (4 + mod (nth xs c) (24 - 4 + 1)), .int .i64 2, .slice none 0 0, .slice a9 ys.length c9])]) (fun (i, ys, a9, c9) => 2 - i) ((0, [], none, 0)) (⟨rfl, Nat.zero_le _, fun y h => (by cases h)⟩) ⟨rfl, rfl, rfl, rfl, rfl, rfl⟩ qS ?_
     intro zz hst
     obtain ⟨i, ys, a9, c9⟩ := zz
     dsimp only [zipE, setAll, List.cons_append, List.nil_append, List.set_cons_zero, List.set_cons_succ] at hst ⊢
     obtain ⟨hy1, hy2, hy3⟩ := hst
     refine zQ (zQ (zG (zR 3 rfl (zN (zU ?_)))))
     refine cD rfl ?_ ?_ <;> intro hc6
     ·try dsimp only at hc6
      refine zK (zU (zQ (zB (zG (zR 1 rfl ?_)))))
      refine yD (r := by apply Rd.add; (first | exact Rd.blk 0 rfl | exact Rd.blk 1 rfl | exact Rd.blk 2 rfl | exact Rd.blk 3 rfl | exact Rd.blk 4 rfl | exact Rd.blk 5 rfl)) (k := ?_)
      refine zR 1 rfl ?_
      refine WL.ef rfl rfl qD (Ef.buildSliceD (enc := encI) (parts := [.tmp 32]) [_] tab_ok rfl rfl rfl rfl rfl rfl rfl rfl qD qD (fun a33 => ?_))
      first | refine WL.ef rfl rfl (by decide) (Ef.appendD 1 0 tab_ok rfl rfl rfl rfl rfl rfl rfl rfl rfl rfl rfl (fun _ _ => rfl) (by simp only [List.length_cons, List.length_nil]; omega) (by simp only [List.length_cons, List.length_nil]; omega) (fun a34 c34 ha34 => ?_)) | refine WL.ef rfl rfl (by decide) (Ef.appendD 2 0 tab_ok rfl rfl rfl rfl rfl rfl rfl rfl rfl rfl rfl (fun _ _ => rfl) (by simp only [List.length_cons, List.length_nil]; omega) (by simp only [List.length_cons, List.length_nil]; omega) (fun a34 c34 ha34 => ?_)) | refine WL.ef rfl rfl (by decide) (Ef.appendD 3 0 tab_ok rfl rfl rfl rfl rfl rfl rfl rfl rfl rfl rfl (fun _ _ => rfl) (by simp only [List.length_cons, List.length_nil]; omega) (by simp only [List.length_cons, List.length_nil]; omega) (fun a34 c34 ha34 => ?_)) | refine WL.ef rfl rfl (by decide) (Ef.appendD 4 0 tab_ok rfl rfl rfl rfl rfl rfl rfl rfl rfl rfl rfl (fun _ _ => rfl) (by simp only [List.length_cons, List.length_nil]; omega) (by simp only [List.length_cons, List.length_nil]; omega) (fun a34 c34 ha34 => ?_)) | refine WL.ef rfl rfl (by decide) (Ef.appendD 5 0 tab_ok rfl rfl rfl rfl rfl rfl rfl rfl rfl rfl rfl (fun _ _ => rfl) (by simp only [List.length_cons, List.length_nil]; omega) (by simp only [List.length_cons, List.length_nil]; omega) (fun a34 c34 ha34 => ?_)) | refine WL.ef rfl rfl (by decide) (Ef.appendR 0 tab_ok rfl rfl rfl rfl rfl rfl rfl rfl rfl rfl (by assumption) (fun _ _ => rfl) (by (try dsimp only); omega) (by omega) (fun a34 c34 ha34 => ?_)) | refine WL.ef rfl rfl (by decide) (Ef.appendR 1 tab_ok rfl rfl rfl rfl rfl rfl rfl rfl rfl rfl (by assumption) (fun _ _ => rfl) (by (try dsimp only); omega) (by omega) (fun a34 c34 ha34 => ?_)) | refine WL.ef rfl rfl (by decide) (Ef.appendR 2 tab_ok rfl rfl rfl rfl rfl rfl rfl rfl rfl rfl (by assumption) (fun _ _ => rfl) (by (try dsimp only); omega) (by omega) (fun a34 c34 ha34 => ?_)) | refine WL.ef rfl rfl (by decide) (Ef.appendR 3 tab_ok rfl rfl rfl rfl rfl rfl rfl rfl rfl rfl (by assumption) (fun _ _ => rfl) (by (try dsimp only); omega) (by omega) (fun a34 c34 ha34 => ?_)) | refine WL.ef rfl rfl (by decide) (Ef.appendR 4 tab_ok rfl rfl rfl rfl rfl rfl rfl rfl rfl rfl (by assumption) (fun _ _ => rfl) (by (try dsimp only); omega) (by omega) (fun a34 c34 ha34 => ?_)) | refine WL.ef rfl rfl (by decide) (Ef.appendR 5 tab_ok rfl rfl rfl rfl rfl rfl rfl rfl rfl rfl (by assumption) (fun _ _ => rfl) (by (try dsimp only); omega) (by omega) (fun a34 c34 ha34 => ?_))
      refine zR 1 rfl ?_
      first | refine WL.efN rfl rfl (Ef.store 0 tab_ok rfl rfl rfl rfl rfl rfl rfl rfl ?_) | refine WL.efN rfl rfl (Ef.store 1 tab_ok rfl rfl rfl rfl rfl rfl rfl rfl ?_) | refine WL.efN rfl rfl (Ef.store 2 tab_ok rfl rfl rfl rfl rfl rfl rfl rfl ?_) | refine WL.efN rfl rfl (Ef.store 3 tab_ok rfl rfl rfl rfl rfl rfl rfl rfl ?_) | refine WL.efN rfl rfl (Ef.store 4 tab_ok rfl rfl rfl rfl rfl rfl rfl rfl ?_) | refine WL.efN rfl rfl (Ef.store 5 tab_ok rfl rfl rfl rfl rfl rfl rfl rfl ?_)
      refine zN (zL (zU (zG (zR 1 rfl ?_))))
      refine yA ?_
      refine zR 1 rfl (zN ?_)
      refine WE.again ((i + 1, ys ++ [(i : Int)], a34, c34)) (⟨by simp only [List.length_append, List.length_cons, List.length_nil]; omega, by omega, fun y hy => by rcases List.mem_append.1 hy with h | h; exact hy3 y h; have := List.mem_singleton.1 h; omega⟩) (by (try dsimp only); omega) ⟨rfl, rfl, rfl, rfl, rfl, rfl⟩ (RLe.refl _) qS
     ·try dsimp only at hc6
      refine zX ?_
      refine wx (wx (zY (zU (zQ (zG (zR 1 rfl ?_))))))
      refine WL.callAt 3 en29 rfl rfl qD (CallOp.mkT rfl rfl rfl rfl) rfl (N_C w0 ha (by constructor <;> decide) _) ?_
      rintro _ _ _ _ - ⟨rfl, rfl, rfl, rfl⟩
      have hm8 := mod_range (nth xs (c + 1 + 1)) (show (1 : Int) ≤ 3 by decide)
      obtain ⟨k8, hk8⟩ := Int.eq_ofNat_of_zero_le hm8.1
      rw [hk8]
      refine zR 1 rfl (zN (zU (zB ?_)))
      refine W.loopK (β := Nat × List Int × Nat × Option Addr × Nat) (fun (j, ys, cn, a9, c9) => 2 ≤ ys.length ∧ ys.length + j ≤ 4 ∧ ∀ y ∈ ys, -1 ≤ y ∧ y ≤ (2 : Int) - 1) (fun (j, ys, cn, a9, c9) => [(9, true, .int .i64 (j : Int))]) [0, 1, 4, 5] [_, _, _, _] [] _ rfl (fun (j, ys, cn, a9, c9) => [(0, .sl 3 1 a9 c9 (ys.map encI)), (1, .blk b5 [.int .i64 5, .int .i64 (4 + mod (nth xs c) (24 - 4 + 1)), .int .i64 2, .slice none 0 0, .slice a9 ys.length c9]), (3, srcE b a cp xs cn)]) (fun (j, ys, cn, a9, c9) => j) ((k8, ys, c + 1 + 1 + 1, a9, c9)) (⟨by (try dsimp only); omega, by (try dsimp only); omega, hy3⟩) ⟨rfl, rfl, rfl, rfl, rfl, rfl⟩ qS ?_
      intro zz hst
      obtain ⟨j, ys, cn, a9, c9⟩ := zz
      dsimp only [zipE, setAll, List.cons_append, List.nil_append, List.set_cons_zero, List.set_cons_succ] at hst ⊢
      obtain ⟨hy1, hy2, hy3⟩ := hst
      refine zQ (zQ (zG (zR 2 rfl (zN (zU ?_)))))
      refine cD rfl ?_ ?_ <;> intro hc7
      ·try dsimp only at hc7
       obtain ⟨j, rfl⟩ : ∃ m, j = m + 1 := ⟨j - 1, by omega⟩
       refine zK (zU (zQ (zB ?_)))
       refine W.regionD _ (.blk b4 [.int .i64 0, .int .i64 0, .int .i64 0, .slice none 0 0, .slice none 0 0] :: F) (.blk b5 [.int .i64 5, .int .i64 (4 + mod (nth xs c) (24 - 4 + 1)), .int .i64 2, .slice none 0 0, .slice a9 ys.length c9] :: .blk b4 [.int .i64 0, .int .i64 0, .int .i64 0, .slice none 0 0, .slice none 0 0] :: F) [9] mixed ?_
       refine vP 0 ?_
       refine vD 1 (r := by apply Rd.add; (first | exact Rd.blk 0 rfl | exact Rd.blk 1 rfl | exact Rd.blk 2 rfl | exact Rd.blk 3 rfl | exact Rd.blk 4 rfl | exact Rd.blk 5 rfl)) (k := ?_)
       refine vP 2 ?_
       refine vP 3 ?_
       refine VA.take2 4 rfl qK qK qK rfl qK qK rfl rfl qD (Yl.sub rfl rfl rfl (fun _ => rfl) qA) qS qR qS ?_
       refine VA.one (i := 5) qK ?_
       refine VS.callAt 3 rfl en19 rfl rfl qD (CallOp.mkT rfl rfl rfl rfl) rfl (Range_C (lo := (-1)) (hi := (2 - 1)) w0 ha qO qO _) ?_
       rintro _ _ _ _ - ⟨rfl, rfl, rfl, rfl⟩
       refine ⟨RLe.refl _, qS, (fun _ => qS), ?_⟩
       have hm9 := mod_range (nth xs cn) (show (1 : Int) ≤ (2 - 1) - (-1) + 1 by omega)
       refine VA.one (i := 6) qK ?_
       refine VS.eff rfl rfl rfl qD (Ef.buildSliceD (enc := encI) (parts := [.tmp 47]) [_] tab_ok rfl rfl rfl rfl rfl rfl rfl rfl qD qD (fun a48 => ?_))
       refine ⟨by first | exact RLe.refl _ | assumption, qS, (fun _ => qS), ?_⟩
       refine VA.one (i := 7) qK ?_
       first | refine VS.eff rfl rfl rfl (by decide) (Ef.appendD 1 0 tab_ok rfl rfl rfl rfl rfl rfl rfl rfl rfl rfl rfl (fun _ _ => rfl) (by simp only [List.length_cons, List.length_nil]; omega) (by simp only [List.length_cons, List.length_nil]; omega) (fun a49 c49 ha49 => ?_)) | refine VS.eff rfl rfl rfl (by decide) (Ef.appendD 2 0 tab_ok rfl rfl rfl rfl rfl rfl rfl rfl rfl rfl rfl (fun _ _ => rfl) (by simp only [List.length_cons, List.length_nil]; omega) (by simp only [List.length_cons, List.length_nil]; omega) (fun a49 c49 ha49 => ?_)) | refine VS.eff rfl rfl rfl (by decide) (Ef.appendD 3 0 tab_ok rfl rfl rfl rfl rfl rfl rfl rfl rfl rfl rfl (fun _ _ => rfl) (by simp only [List.length_cons, List.length_nil]; omega) (by simp only [List.length_cons, List.length_nil]; omega) (fun a49 c49 ha49 => ?_)) | refine VS.eff rfl rfl rfl (by decide) (Ef.appendD 4 0 tab_ok rfl rfl rfl rfl rfl rfl rfl rfl rfl rfl rfl (fun _ _ => rfl) (by simp only [List.length_cons, List.length_nil]; omega) (by simp only [List.length_cons, List.length_nil]; omega) (fun a49 c49 ha49 => ?_)) | refine VS.eff rfl rfl rfl (by decide) (Ef.appendD 5 0 tab_ok rfl rfl rfl rfl rfl rfl rfl rfl rfl rfl rfl (fun _ _ => rfl) (by simp only [List.length_cons, List.length_nil]; omega) (by simp only [List.length_cons, List.length_nil]; omega) (fun a49 c49 ha49 => ?_)) | refine VS.eff rfl rfl rfl (by decide) (Ef.appendR 0 tab_ok rfl rfl rfl rfl rfl rfl rfl rfl rfl rfl (by assumption) (fun _ _ => rfl) (by (try dsimp only); omega) (by omega) (fun a49 c49 ha49 => ?_)) | refine VS.eff rfl rfl rfl (by decide) (Ef.appendR 1 tab_ok rfl rfl rfl rfl rfl rfl rfl rfl rfl rfl (by assumption) (fun _ _ => rfl) (by (try dsimp only); omega) (by omega) (fun a49 c49 ha49 => ?_)) | refine VS.eff rfl rfl rfl (by decide) (Ef.appendR 2 tab_ok rfl rfl rfl rfl rfl rfl rfl rfl rfl rfl (by assumption) (fun _ _ => rfl) (by (try dsimp only); omega) (by omega) (fun a49 c49 ha49 => ?_)) | refine VS.eff rfl rfl rfl (by decide) (Ef.appendR 3 tab_ok rfl rfl rfl rfl rfl rfl rfl rfl rfl rfl (by assumption) (fun _ _ => rfl) (by (try dsimp only); omega) (by omega) (fun a49 c49 ha49 => ?_)) | refine VS.eff rfl rfl rfl (by decide) (Ef.appendR 4 tab_ok rfl rfl rfl rfl rfl rfl rfl rfl rfl rfl (by assumption) (fun _ _ => rfl) (by (try dsimp only); omega) (by omega) (fun a49 c49 ha49 => ?_)) | refine VS.eff rfl rfl rfl (by decide) (Ef.appendR 5 tab_ok rfl rfl rfl rfl rfl rfl rfl rfl rfl rfl (by assumption) (fun _ _ => rfl) (by (try dsimp only); omega) (by omega) (fun a49 c49 ha49 => ?_))
       refine ⟨by first | exact RLe.refl _ | assumption, qS, (fun _ => qS), ?_⟩
       refine vP 8 ?_
       refine VA.one (i := 9) qK ?_
       first | refine VS.effN rfl rfl rfl (Ef.store 0 tab_ok rfl rfl rfl rfl rfl rfl rfl rfl ?_) | refine VS.effN rfl rfl rfl (Ef.store 1 tab_ok rfl rfl rfl rfl rfl rfl rfl rfl ?_) | refine VS.effN rfl rfl rfl (Ef.store 2 tab_ok rfl rfl rfl rfl rfl rfl rfl rfl ?_) | refine VS.effN rfl rfl rfl (Ef.store 3 tab_ok rfl rfl rfl rfl rfl rfl rfl rfl ?_) | refine VS.effN rfl rfl rfl (Ef.store 4 tab_ok rfl rfl rfl rfl rfl rfl rfl rfl ?_) | refine VS.effN rfl rfl rfl (Ef.store 5 tab_ok rfl rfl rfl rfl rfl rfl rfl rfl ?_)
       refine ⟨by first | exact RLe.refl _ | assumption, qS, (noD qK), ?_⟩
       refine VA.done qK ?_
       refine zL (zU (zG (zR 1 rfl ?_)))
       refine yS ?_
       refine zR 1 rfl (zN ?_)
       refine WE.again ((j, ys ++ [-1 + mod (nth xs cn) ((2 - 1) - -1 + 1)], cn + 1, a49, c49)) (⟨by simp only [List.length_append, List.length_cons, List.length_nil]; omega, by simp only [List.length_append, List.length_cons, List.length_nil]; omega, fun y hy => by rcases List.mem_append.1 hy with h | h; exact hy3 y h; have := List.mem_singleton.1 h; omega⟩) (by (try dsimp only); omega) ⟨vint (by omega), rfl, rfl, rfl, rfl, rfl⟩ (RLe.refl _) qS
      ·try dsimp only at hc7
       refine W.freeze (enc := encI) (xs := ys) 0 rfl ?_
       intro R1 hR1 hwz
       refine zX ?_
       refine wx (wx (zY (zL (zU (zQ (zG ?_))))))
       refine yD (r := by (first | exact Rd.blk 0 rfl | exact Rd.blk 1 rfl | exact Rd.blk 2 rfl | exact Rd.blk 3 rfl | exact Rd.blk 4 rfl | exact Rd.blk 5 rfl)) (k := ?_)
       first | refine WL.efN rfl rfl (Ef.store0 0 tab_ok rfl rfl rfl rfl rfl rfl rfl rfl ?_) | refine WL.efN rfl rfl (Ef.store0 1 tab_ok rfl rfl rfl rfl rfl rfl rfl rfl ?_) | refine WL.efN rfl rfl (Ef.store0 2 tab_ok rfl rfl rfl rfl rfl rfl rfl rfl ?_) | refine WL.efN rfl rfl (Ef.store0 3 tab_ok rfl rfl rfl rfl rfl rfl rfl rfl ?_) | refine WL.efN rfl rfl (Ef.store0 4 tab_ok rfl rfl rfl rfl rfl rfl rfl rfl ?_) | refine WL.efN rfl rfl (Ef.store0 5 tab_ok rfl rfl rfl rfl rfl rfl rfl rfl ?_)
       refine zN (zU (zT ?_))
       refine WE.retFS (E' := srcE b a cp xs (cn) :: F) qS tab_ok [_] rfl ⟨⟨_, _, _, rfl, rfl, rfl, qB, rfl⟩, trivial⟩ (by first | assumption | exact RLe.refl _) ?_
       exact ⟨_, [], rfl, ⟨5, (4 + mod (nth xs c) (24 - 4 + 1)), 2, [], ys⟩, none, _, 0, _, _, rfl, rs_nil, hwz, ⟨by dsimp only; omega, rfl, by dsimp only; omega, fun h => by dsimp only at h; omega, fun h => by dsimp only at h; omega, fun h => by dsimp only at h; omega, fun h => by dsimp only at h; omega, fun _ => ⟨rfl, by dsimp only; omega, by dsimp only; omega, hy3⟩⟩, rfl, rfl⟩
set_option maxHeartbeats 4000000 in
theorem Port1_C {R : Ro} {b : Nat} {a : Option Addr} {cp : Nat} {xs : List Int} {c : Nat} (w0 : World) (ha : K.RS R 1 encI a xs) : FnAt Tryz.prog 20 [.pointer (some ⟨b, 0, none⟩), .int .i64 1] w0 R (srcE b a cp xs c) (fun v R' e' N => ∃ (L : Ln) (aw at_ : Option Addr) (cw ct cn : Nat), v = .agg #[.int .i64 L.kind, .int .i64 L.cap, .int .i64 L.n, .slice aw L.w.length cw, .slice at_ L.tb.length ct] ∧ K.RS R' 1 encI aw L.w ∧ K.RS R' 1 encI at_ L.tb ∧ DrawP 1 L ∧ e' = srcE b a cp xs cn ∧ N = []) := by
 intro F
 refine fE 85 Tryz.func20 ?_
 refine zQ (zG ?_)
 refine zA fun b4 => ?_
 refine zN (zU (zQ (zG (zR 1 rfl ?_))))
 refine WL.callAt 1 en19 rfl rfl qD (CallOp.mkT rfl rfl rfl rfl) rfl (Range_C (lo := 4) (hi := 24) w0 ha qO qO _) ?_
 rintro _ _ _ _ - ⟨rfl, rfl, rfl, rfl⟩
 have hm0 := mod_range (nth xs (c)) (show (1 : Int) ≤ 24 - 4 + 1 by omega)
 refine zR 1 rfl ?_
 refine yW [(0, .const (.int .i64 1)), (1, .tmp 11), (2, .tmp 12)] ?_
 refine zA fun b5 => ?_
 first | refine WL.efN rfl rfl (Ef.store0 0 tab_ok rfl rfl rfl rfl rfl rfl rfl rfl ?_) | refine WL.efN rfl rfl (Ef.store0 1 tab_ok rfl rfl rfl rfl rfl rfl rfl rfl ?_) | refine WL.efN rfl rfl (Ef.store0 2 tab_ok rfl rfl rfl rfl rfl rfl rfl rfl ?_) | refine WL.efN rfl rfl (Ef.store0 3 tab_ok rfl rfl rfl rfl rfl rfl rfl rfl ?_) | refine WL.efN rfl rfl (Ef.store0 4 tab_ok rfl rfl rfl rfl rfl rfl rfl rfl ?_) | refine WL.efN rfl rfl (Ef.store0 5 tab_ok rfl rfl rfl rfl rfl rfl rfl rfl ?_)
 refine zN (zU (zQ (zQ (zG (zR 3 rfl ?_)))))
 refine yP ?_
 refine WL.callAtT 2 en29 rfl rfl (by rfl) qD (CallOp.mk' rfl rfl rfl rfl) rfl rfl (N_C (n := 3) w0 ha (by constructor <;> decide) _) ?_
 rintro _ _ _ _ - ⟨rfl, rfl, rfl, rfl⟩
 have hm2 := mod_range (nth xs (c + 1)) (show (1 : Int) ≤ 3 by decide)
 refine yP ?_
 refine yN ?_
 refine zN (zU ?_)
 refine cC rfl ?_ ?_ <;> intro hc0
 ·try simp only [zk] at hc0
  refine zQ (zG ?_)
  refine yD (r := by (first | exact Rd.blk 0 rfl | exact Rd.blk 1 rfl | exact Rd.blk 2 rfl | exact Rd.blk 3 rfl | exact Rd.blk 4 rfl | exact Rd.blk 5 rfl)) (k := ?_)
  first | refine WL.efN rfl rfl (Ef.store0 0 tab_ok rfl rfl rfl rfl rfl rfl rfl rfl ?_) | refine WL.efN rfl rfl (Ef.store0 1 tab_ok rfl rfl rfl rfl rfl rfl rfl rfl ?_) | refine WL.efN rfl rfl (Ef.store0 2 tab_ok rfl rfl rfl rfl rfl rfl rfl rfl ?_) | refine WL.efN rfl rfl (Ef.store0 3 tab_ok rfl rfl rfl rfl rfl rfl rfl rfl ?_) | refine WL.efN rfl rfl (Ef.store0 4 tab_ok rfl rfl rfl rfl rfl rfl rfl rfl ?_) | refine WL.efN rfl rfl (Ef.store0 5 tab_ok rfl rfl rfl rfl rfl rfl rfl rfl ?_)
  refine zN (zU (zT (wt ?_)))
  refine WE.retFS (E' := srcE b a cp xs (c + 1 + 1) :: F) qS tab_ok [_] rfl ⟨⟨_, _, _, rfl, rfl, rfl, qB, rfl⟩, trivial⟩ (by first | assumption | exact RLe.refl _) ?_
  exact ⟨_, [], rfl, ⟨1, (4 + mod (nth xs c) (24 - 4 + 1)), 1, [], []⟩, none, none, 0, 0, _, rfl, rs_nil, rs_nil, ⟨by dsimp only; omega, rfl, by dsimp only; omega, fun _ => ⟨rfl, rfl⟩, fun _ => rfl, fun h => by dsimp only at h; omega, fun h => by dsimp only at h; omega, fun h => by dsimp only at h; omega⟩, rfl, rfl⟩
 ·try simp only [zk] at hc0
  refine zK (zU (zQ (zQ (zG (zR 1 rfl ?_)))))
  refine WL.callAt 2 en29 rfl rfl qD (CallOp.mkT rfl rfl rfl rfl) rfl (N_C w0 ha (by constructor <;> decide) _) ?_
  rintro _ _ _ _ - ⟨rfl, rfl, rfl, rfl⟩
  have hm1 := mod_range (nth xs (c + 1 + 1)) (show (1 : Int) ≤ 4 by decide)
  refine zN (zU (zB (zQ (zG (zR 2 rfl (zN (zU ?_)))))))
  refine cE rfl ?_ ?_ <;> intro hc1
  ·try dsimp only at hc1
   refine zG (zR 1 rfl ?_)
   first | refine WL.efN rfl rfl (Ef.store 0 tab_ok rfl rfl rfl rfl rfl rfl rfl rfl ?_) | refine WL.efN rfl rfl (Ef.store 1 tab_ok rfl rfl rfl rfl rfl rfl rfl rfl ?_) | refine WL.efN rfl rfl (Ef.store 2 tab_ok rfl rfl rfl rfl rfl rfl rfl rfl ?_) | refine WL.efN rfl rfl (Ef.store 3 tab_ok rfl rfl rfl rfl rfl rfl rfl rfl ?_) | refine WL.efN rfl rfl (Ef.store 4 tab_ok rfl rfl rfl rfl rfl rfl rfl rfl ?_) | refine WL.efN rfl rfl (Ef.store 5 tab_ok rfl rfl rfl rfl rfl rfl rfl rfl ?_)
   refine zN (zL (zU (zQ (zG ?_))))
   refine yD (r := by (first | exact Rd.blk 0 rfl | exact Rd.blk 1 rfl | exact Rd.blk 2 rfl | exact Rd.blk 3 rfl | exact Rd.blk 4 rfl | exact Rd.blk 5 rfl)) (k := ?_)
   first | refine WL.efN rfl rfl (Ef.store0 0 tab_ok rfl rfl rfl rfl rfl rfl rfl rfl ?_) | refine WL.efN rfl rfl (Ef.store0 1 tab_ok rfl rfl rfl rfl rfl rfl rfl rfl ?_) | refine WL.efN rfl rfl (Ef.store0 2 tab_ok rfl rfl rfl rfl rfl rfl rfl rfl ?_) | refine WL.efN rfl rfl (Ef.store0 3 tab_ok rfl rfl rfl rfl rfl rfl rfl rfl ?_) | refine WL.efN rfl rfl (Ef.store0 4 tab_ok rfl rfl rfl rfl rfl rfl rfl rfl ?_) | refine WL.efN rfl rfl (Ef.store0 5 tab_ok rfl rfl rfl rfl rfl rfl rfl rfl ?_)
   refine zN (zU (zT ?_))
   refine WE.retFS (E' := srcE b a cp xs (c + 1 + 1 + 1) :: F) qS tab_ok [_] rfl ⟨⟨_, _, _, rfl, rfl, rfl, qB, rfl⟩, trivial⟩ (by first | assumption | exact RLe.refl _) ?_
   exact ⟨_, [], rfl, ⟨2, (4 + mod (nth xs c) (24 - 4 + 1)), 1, [], []⟩, none, none, 0, 0, _, rfl, rs_nil, rs_nil, ⟨by dsimp only; omega, rfl, by dsimp only; omega, fun _ => ⟨rfl, rfl⟩, fun h => by dsimp only at h; omega, fun h => by dsimp only at h; omega, fun h => by dsimp only at h; omega, fun h => by dsimp only at h; omega⟩, rfl, rfl⟩
  ·try dsimp only at hc1
   refine zQ (zG (zR 2 rfl (zN (zU ?_))))
   refine cE rfl ?_ ?_ <;> intro hc2
   ·try dsimp only at hc2
    refine zQ (zG (zR 1 rfl ?_))
    first | refine WL.efN rfl rfl (Ef.store 0 tab_ok rfl rfl rfl rfl rfl rfl rfl rfl ?_) | refine WL.efN rfl rfl (Ef.store 1 tab_ok rfl rfl rfl rfl rfl rfl rfl rfl ?_) | refine WL.efN rfl rfl (Ef.store 2 tab_ok rfl rfl rfl rfl rfl rfl rfl rfl ?_) | refine WL.efN rfl rfl (Ef.store 3 tab_ok rfl rfl rfl rfl rfl rfl rfl rfl ?_) | refine WL.efN rfl rfl (Ef.store 4 tab_ok rfl rfl rfl rfl rfl rfl rfl rfl ?_) | refine WL.efN rfl rfl (Ef.store 5 tab_ok rfl rfl rfl rfl rfl rfl rfl rfl ?_)
    refine zN (zU ?_)
    refine W.nil 3 1 qD ?_
    refine zQ (zG (zR 1 rfl (zN (zU (zB ?_)))))
    refine W.loopK (β := Nat × List Int × Nat × Option Addr × Nat) (fun (i, ys, cn, a9, c9) => ys.length = i ∧ i ≤ 1 ∧ ∀ y ∈ ys, 1 ≤ y ∧ y ≤ 3) (fun (i, ys, cn, a9, c9) => [(6, true, .int .i64 (i : Int))]) [0, 1, 4, 5] [_, _, _, _] [] _ rfl (fun (i, ys, cn, a9, c9) => [(0, .sl 3 1 a9 c9 (ys.map encI)), (1, .blk b5 [.int .i64 3, .int .i64 (4 + mod (nth xs c) (24 - 4 + 1)), .int .i64 1, .slice a9 ys.length c9, .slice none 0 0]), (3, srcE b a cp xs cn)]) (fun (i, ys, cn, a9, c9) => 1 - i) ((0, [], c + 1 + 1 + 1, none, 0)) (⟨rfl, Nat.zero_le _, fun y h => (by cases h)⟩) ⟨rfl, rfl, rfl, rfl, rfl, rfl⟩ qS ?_
    intro zz hst
    obtain ⟨i, ys, cn, a9, c9⟩ := zz
    dsimp only [zipE, setAll, List.cons_append, List.nil_append, List.set_cons_zero, List.set_cons_succ] at hst ⊢
    obtain ⟨hy1, hy2, hy3⟩ := hst
    refine zQ (zQ (zG (zR 3 rfl (zN (zU ?_)))))
    refine cD rfl ?_ ?_ <;> intro hc3
    ·try dsimp only at hc3
     refine zK (zU (zQ (zB ?_)))
     refine W.regionD _ (.blk b4 [.int .i64 0, .int .i64 0, .int .i64 0, .slice none 0 0, .slice none 0 0] :: F) (.blk b5 [.int .i64 3, .int .i64 (4 + mod (nth xs c) (24 - 4 + 1)), .int .i64 1, .slice a9 ys.length c9, .slice none 0 0] :: .blk b4 [.int .i64 0, .int .i64 0, .int .i64 0, .slice none 0 0, .slice none 0 0] :: F) [7] mixed ?_
     refine vP 0 ?_
     refine vD 1 (r := by apply Rd.add; (first | exact Rd.blk 0 rfl | exact Rd.blk 1 rfl | exact Rd.blk 2 rfl | exact Rd.blk 3 rfl | exact Rd.blk 4 rfl | exact Rd.blk 5 rfl)) (k := ?_)
     refine vP 2 ?_
     refine VA.one (i := 3) qK ?_
     refine VS.callAt 3 rfl en19 rfl rfl qD (CallOp.mkT rfl rfl rfl rfl) rfl (Range_C (lo := 1) (hi := 3) w0 ha qO qO _) ?_
     rintro _ _ _ _ - ⟨rfl, rfl, rfl, rfl⟩
     refine ⟨RLe.refl _, qS, (fun _ => qS), ?_⟩
     have hm9 := mod_range (nth xs cn) (show (1 : Int) ≤ 3 - 1 + 1 by omega)
     refine VA.one (i := 4) qK ?_
     refine VS.eff rfl rfl rfl qD (Ef.buildSliceD (enc := encI) (parts := [.tmp 65]) [_] tab_ok rfl rfl rfl rfl rfl rfl rfl rfl qD qD (fun a66 => ?_))
     refine ⟨by first | exact RLe.refl _ | assumption, qS, (fun _ => qS), ?_⟩
     refine VA.one (i := 5) qK ?_
     first | refine VS.eff rfl rfl rfl (by decide) (Ef.appendD 1 0 tab_ok rfl rfl rfl rfl rfl rfl rfl rfl rfl rfl rfl (fun _ _ => rfl) (by simp only [List.length_cons, List.length_nil]; omega) (by simp only [List.length_cons, List.length_nil]; omega) (fun a67 c67 ha67 => ?_)) | refine VS.eff rfl rfl rfl (by decide) (Ef.appendD 2 0 tab_ok rfl rfl rfl rfl rfl rfl rfl rfl rfl rfl rfl (fun _ _ => rfl) (by simp only [List.length_cons, List.length_nil]; omega) (by simp only [List.length_cons, List.length_nil]; omega) (fun a67 c67 ha67 => ?_)) | refine VS.eff rfl rfl rfl (by decide) (Ef.appendD 3 0 tab_ok rfl rfl rfl rfl rfl rfl rfl rfl rfl rfl rfl (fun _ _ => rfl) (by simp only [List.length_cons, List.length_nil]; omega) (by simp only [List.length_cons, List.length_nil]; omega) (fun a67 c67 ha67 => ?_)) | refine VS.eff rfl rfl rfl (by decide) (Ef.appendD 4 0 tab_ok rfl rfl rfl rfl rfl rfl rfl rfl rfl rfl rfl (fun _ _ => rfl) (by simp only [List.length_cons, List.length_nil]; omega) (by simp only [List.length_cons, List.length_nil]; omega) (fun a67 c67 ha67 => ?_)) | refine VS.eff rfl rfl rfl (by decide) (Ef.appendD 5 0 tab_ok rfl rfl rfl rfl rfl rfl rfl rfl rfl rfl rfl (fun _ _ => rfl) (by simp only [List.length_cons, List.length_nil]; omega) (by simp only [List.length_cons, List.length_nil]; omega) (fun a67 c67 ha67 => ?_)) | refine VS.eff rfl rfl rfl (by decide) (Ef.appendR 0 tab_ok rfl rfl rfl rfl rfl rfl rfl rfl rfl rfl (by assumption) (fun _ _ => rfl) (by (try dsimp only); omega) (by omega) (fun a67 c67 ha67 => ?_)) | refine VS.eff rfl rfl rfl (by decide) (Ef.appendR 1 tab_ok rfl rfl rfl rfl rfl rfl rfl rfl rfl rfl (by assumption) (fun _ _ => rfl) (by (try dsimp only); omega) (by omega) (fun a67 c67 ha67 => ?_)) | refine VS.eff rfl rfl rfl (by decide) (Ef.appendR 2 tab_ok rfl rfl rfl rfl rfl rfl rfl rfl rfl rfl (by assumption) (fun _ _ => rfl) (by (try dsimp only); omega) (by omega) (fun a67 c67 ha67 => ?_)) | refine VS.eff rfl rfl rfl (by decide) (Ef.appendR 3 tab_ok rfl rfl rfl rfl rfl rfl rfl rfl rfl rfl (by assumption) (fun _ _ => rfl) (by (try dsimp only); omega) (by omega) (fun a67 c67 ha67 => ?_)) | refine VS.eff rfl rfl rfl (by decide) (Ef.appendR 4 tab_ok rfl rfl rfl rfl rfl rfl rfl rfl rfl rfl (by assumption) (fun _ _ => rfl) (by (try dsimp only); omega) (by omega) (fun a67 c67 ha67 => ?_)) | refine VS.eff rfl rfl rfl (by decide) (Ef.appendR 5 tab_ok rfl rfl rfl rfl rfl rfl rfl rfl rfl rfl (by assumption) (fun _ _ => rfl) (by (try dsimp only); omega) (by omega) (fun a67 c67 ha67 => ?_))
     refine ⟨by first | exact RLe.refl _ | assumption, qS, (fun _ => qS), ?_⟩
     refine vP 6 ?_
     refine VA.one (i := 7) qK ?_
     first | refine VS.effN rfl rfl rfl (Ef.store 0 tab_ok rfl rfl rfl rfl rfl rfl rfl rfl ?_) | refine VS.effN rfl rfl rfl (Ef.store 1 tab_ok rfl rfl rfl rfl rfl rfl rfl rfl ?_) | refine VS.effN rfl rfl rfl (Ef.store 2 tab_ok rfl rfl rfl rfl rfl rfl rfl rfl ?_) | refine VS.effN rfl rfl rfl (Ef.store 3 tab_ok rfl rfl rfl rfl rfl rfl rfl rfl ?_) | refine VS.effN rfl rfl rfl (Ef.store 4 tab_ok rfl rfl rfl rfl rfl rfl rfl rfl ?_) | refine VS.effN rfl rfl rfl (Ef.store 5 tab_ok rfl rfl rfl rfl rfl rfl rfl rfl ?_)
     refine ⟨by first | exact RLe.refl _ | assumption, qS, (noD qK), ?_⟩
     refine VA.done qK ?_
     refine zL (zU (zG (zR 1 rfl ?_)))
     refine yA ?_
     refine zR 1 rfl (zN ?_)
     refine WE.again ((i + 1, ys ++ [1 + mod (nth xs cn) (3 - 1 + 1)], cn + 1, a67, c67)) (⟨by simp only [List.length_append, List.length_cons, List.length_nil]; omega, by omega, fun y hy => by rcases List.mem_append.1 hy with h | h; exact hy3 y h; have := List.mem_singleton.1 h; omega⟩) (by (try dsimp only); omega) ⟨rfl, rfl, rfl, rfl, rfl, rfl⟩ (RLe.refl _) qS
    ·try dsimp only at hc3
     refine W.freeze (enc := encI) (xs := ys) 0 rfl ?_
     intro R1 hR1 hwz
     refine zX ?_
     refine wx (wx (zY (zL (zU (zQ (zG ?_))))))
     refine yD (r := by (first | exact Rd.blk 0 rfl | exact Rd.blk 1 rfl | exact Rd.blk 2 rfl | exact Rd.blk 3 rfl | exact Rd.blk 4 rfl | exact Rd.blk 5 rfl)) (k := ?_)
     first | refine WL.efN rfl rfl (Ef.store0 0 tab_ok rfl rfl rfl rfl rfl rfl rfl rfl ?_) | refine WL.efN rfl rfl (Ef.store0 1 tab_ok rfl rfl rfl rfl rfl rfl rfl rfl ?_) | refine WL.efN rfl rfl (Ef.store0 2 tab_ok rfl rfl rfl rfl rfl rfl rfl rfl ?_) | refine WL.efN rfl rfl (Ef.store0 3 tab_ok rfl rfl rfl rfl rfl rfl rfl rfl ?_) | refine WL.efN rfl rfl (Ef.store0 4 tab_ok rfl rfl rfl rfl rfl rfl rfl rfl ?_) | refine WL.efN rfl rfl (Ef.store0 5 tab_ok rfl rfl rfl rfl rfl rfl rfl rfl ?_)
     refine zN (zU (zT ?_))
     refine WE.retFS (E' := srcE b a cp xs (cn) :: F) qS tab_ok [_] rfl ⟨⟨_, _, _, rfl, rfl, rfl, qB, rfl⟩, trivial⟩ (by first | assumption | exact RLe.refl _) ?_
     exact ⟨_, [], rfl, ⟨3, (4 + mod (nth xs c) (24 - 4 + 1)), 1, ys, []⟩, _, none, _, 0, _, rfl, hwz, rs_nil, ⟨by dsimp only; omega, rfl, by dsimp only; omega, fun h => by dsimp only at h; omega, fun h => by dsimp only at h; omega, fun _ => ⟨by dsimp only; omega, hy3, rfl⟩, fun h => by dsimp only at h; omega, fun h => by dsimp only at h; omega⟩, rfl, rfl⟩
   ·try dsimp only at hc2
    refine zQ (zG (zR 2 rfl (zN (zU ?_))))
    refine cE rfl ?_ ?_ <;> intro hc4
    ·try dsimp only at hc4
     refine zQ (zG (zR 1 rfl ?_))
     first | refine WL.efN rfl rfl (Ef.store 0 tab_ok rfl rfl rfl rfl rfl rfl rfl rfl ?_) | refine WL.efN rfl rfl (Ef.store 1 tab_ok rfl rfl rfl rfl rfl rfl rfl rfl ?_) | refine WL.efN rfl rfl (Ef.store 2 tab_ok rfl rfl rfl rfl rfl rfl rfl rfl ?_) | refine WL.efN rfl rfl (Ef.store 3 tab_ok rfl rfl rfl rfl rfl rfl rfl rfl ?_) | refine WL.efN rfl rfl (Ef.store 4 tab_ok rfl rfl rfl rfl rfl rfl rfl rfl ?_) | refine WL.efN rfl rfl (Ef.store 5 tab_ok rfl rfl rfl rfl rfl rfl rfl rfl ?_)
     refine zN (zU ?_)
     refine W.nil 3 1 qD ?_
     refine zQ (zG (zR 1 rfl (zN (zU (zB ?_)))))
     refine W.loopK (β := Nat × List Int × Nat × Option Addr × Nat) (fun (i, ys, cn, a9, c9) => ys.length = i ∧ i ≤ 1 ∧ ∀ y ∈ ys, 8 ≤ y ∧ y ≤ 20) (fun (i, ys, cn, a9, c9) => [(7, true, .int .i64 (i : Int))]) [0, 1, 4, 5] [_, _, _, _] [] _ rfl (fun (i, ys, cn, a9, c9) => [(0, .sl 3 1 a9 c9 (ys.map encI)), (1, .blk b5 [.int .i64 4, .int .i64 (4 + mod (nth xs c) (24 - 4 + 1)), .int .i64 1, .slice a9 ys.length c9, .slice none 0 0]), (3, srcE b a cp xs cn)]) (fun (i, ys, cn, a9, c9) => 1 - i) ((0, [], c + 1 + 1 + 1, none, 0)) (⟨rfl, Nat.zero_le _, fun y h => (by cases h)⟩) ⟨rfl, rfl, rfl, rfl, rfl, rfl⟩ qS ?_
     intro zz hst
     obtain ⟨i, ys, cn, a9, c9⟩ := zz
     dsimp only [zipE, setAll, List.cons_append, List.nil_append, List.set_cons_zero, List.set_cons_succ] at hst ⊢
     obtain ⟨hy1, hy2, hy3⟩ := hst
     refine zQ (zQ (zG (zR 3 rfl (zN (zU ?_)))))
     refine cD rfl ?_ ?_ <;> intro hc5
     ·try dsimp only at hc5
      refine zK (zU (zQ (zB ?_)))
      refine W.regionD _ (.blk b4 [.int .i64 0, .int .i64 0, .int .i64 0, .slice none 0 0, .slice none 0 0] :: F) (.blk b5 [.int .i64 4, .int .i64 (4 + mod (nth xs c) (24 - 4 + 1)), .int .i64 1, .slice a9 ys.length c9, .slice none 0 0] :: .blk b4 [.int .i64 0, .int .i64 0, .int .i64 0, .slice none 0 0, .slice none 0 0] :: F) [7] mixed ?_
      refine vP 0 ?_
      refine vD 1 (r := by apply Rd.add; (first | exact Rd.blk 0 rfl | exact Rd.blk 1 rfl | exact Rd.blk 2 rfl | exact Rd.blk 3 rfl | exact Rd.blk 4 rfl | exact Rd.blk 5 rfl)) (k := ?_)
      refine vP 2 ?_
      refine VA.one (i := 3) qK ?_
      refine VS.callAt 3 rfl en19 rfl rfl qD (CallOp.mkT rfl rfl rfl rfl) rfl (Range_C (lo := 8) (hi := 20) w0 ha qO qO _) ?_
      rintro _ _ _ _ - ⟨rfl, rfl, rfl, rfl⟩
      refine ⟨RLe.refl _, qS, (fun _ => qS), ?_⟩
      have hm9 := mod_range (nth xs cn) (show (1 : Int) ≤ 20 - 8 + 1 by omega)
      refine VA.one (i := 4) qK ?_
      refine VS.eff rfl rfl rfl qD (Ef.buildSliceD (enc := encI) (parts := [.tmp 80]) [_] tab_ok rfl rfl rfl rfl rfl rfl rfl rfl qD qD (fun a81 => ?_))
      refine ⟨by first | exact RLe.refl _ | assumption, qS, (fun _ => qS), ?_⟩
      refine VA.one (i := 5) qK ?_
      first | refine VS.eff rfl rfl rfl (by decide) (Ef.appendD 1 0 tab_ok rfl rfl rfl rfl rfl rfl rfl rfl rfl rfl rfl (fun _ _ => rfl) (by simp only [List.length_cons, List.length_nil]; omega) (by simp only [List.length_cons, List.length_nil]; omega) (fun a82 c82 ha82 => ?_)) | refine VS.eff rfl rfl rfl (by decide) (Ef.appendD 2 0 tab_ok rfl rfl rfl rfl rfl rfl rfl rfl rfl rfl rfl (fun _ _ => rfl) (by simp only [List.length_cons, List.length_nil]; omega) (by simp only [List.length_cons, List.length_nil]; omega) (fun a82 c82 ha82 => ?_)) | refine VS.eff rfl rfl rfl (by decide) (Ef.appendD 3 0 tab_ok rfl rfl rfl rfl rfl rfl rfl rfl rfl rfl rfl (fun _ _ => rfl) (by simp only [List.length_cons, List.length_nil]; omega) (by simp only [List.length_cons, List.length_nil]; omega) (fun a82 c82 ha82 => ?_)) | refine VS.eff rfl rfl rfl (by decide) (Ef.appendD 4 0 tab_ok rfl rfl rfl rfl rfl rfl rfl rfl rfl rfl rfl (fun _ _ => rfl) (by simp only [List.length_cons, List.length_nil]; omega) (by simp only [List.length_cons, List.length_nil]; omega) (fun a82 c82 ha82 => ?_)) | refine VS.eff rfl rfl rfl (by decide) (Ef.appendD 5 0 tab_ok rfl rfl rfl rfl rfl rfl rfl rfl rfl rfl rfl (fun _ _ => rfl) (by simp only [List.length_cons, List.length_nil]; omega) (by simp only [List.length_cons, List.length_nil]; omega) (fun a82 c82 ha82 => ?_)) | refine VS.eff rfl rfl rfl (by decide) (Ef.appendR 0 tab_ok rfl rfl rfl rfl rfl rfl rfl rfl rfl rfl (by assumption) (fun _ _ => rfl) (by (try dsimp only); omega) (by omega) (fun a82 c82 ha82 => ?_)) | refine VS.eff rfl rfl rfl (by decide) (Ef.appendR 1 tab_ok rfl rfl rfl rfl rfl rfl rfl rfl rfl rfl (by assumption) (fun _ _ => rfl) (by (try dsimp only); omega) (by omega) (fun a82 c82 ha82 => ?_)) | refine VS.eff rfl rfl rfl (by decide) (Ef.appendR 2 tab_ok rfl rfl rfl rfl rfl rfl rfl rfl rfl rfl (by assumption) (fun _ _ => rfl) (by (try dsimp only); omega) (by omega) (fun a82 c82 ha82 => ?_)) | refine VS.eff rfl rfl rfl (by decide) (Ef.appendR 3 tab_ok rfl rfl rfl rfl rfl rfl rfl rfl rfl rfl (by assumption) (fun _ _ => rfl) (by (try dsimp only); omega) (by omega) (fun a82 c82 ha82 => ?_)) | refine VS.eff rfl rfl rfl (by decide) (Ef.appendR 4 tab_ok rfl rfl rfl rfl rfl rfl rfl rfl rfl rfl (by assumption) (fun _ _ => rfl) (by (try dsimp only); omega) (by omega) (fun a82 c82 ha82 => ?_)) | refine VS.eff rfl rfl rfl (by decide) (Ef.appendR 5 tab_ok rfl rfl rfl rfl rfl rfl rfl rfl rfl rfl (by assumption) (fun _ _ => rfl) (by (try dsimp only); omega) (by omega) (fun a82 c82 ha82 => ?_))
      refine ⟨by first | exact RLe.refl _ | assumption, qS, (fun _ => qS), ?_⟩
      refine vP 6 ?_
      refine VA.one (i := 7) qK ?_
      first | refine VS.effN rfl rfl rfl (Ef.store 0 tab_ok rfl rfl rfl rfl rfl rfl rfl rfl ?_) | refine VS.effN rfl rfl rfl (Ef.store 1 tab_ok rfl rfl rfl rfl rfl rfl rfl rfl ?_) | refine VS.effN rfl rfl rfl (Ef.store 2 tab_ok rfl rfl rfl rfl rfl rfl rfl rfl ?_) | refine VS.effN rfl rfl rfl (Ef.store 3 tab_ok rfl rfl rfl rfl rfl rfl rfl rfl ?_) | refine VS.effN rfl rfl rfl (Ef.store 4 tab_ok rfl rfl rfl rfl rfl rfl rfl rfl ?_) | refine VS.effN rfl rfl rfl (Ef.store 5 tab_ok rfl rfl rfl rfl rfl rfl rfl rfl ?_)
      refine ⟨by first | exact RLe.refl _ | assumption, qS, (noD qK), ?_⟩
      refine VA.done qK ?_
      refine zL (zU (zG (zR 1 rfl ?_)))
      refine yA ?_
      refine zR 1 rfl (zN ?_)
      refine WE.again ((i + 1, ys ++ [8 + mod (nth xs cn) (20 - 8 + 1)], cn + 1, a82, c82)) (⟨by simp only [List.length_append, List.length_cons, List.length_nil]; omega, by omega, fun y hy => by rcases List.mem_append.1 hy with h | h; exact hy3 y h; have := List.mem_singleton.1 h; omega⟩) (by (try dsimp only); omega) ⟨rfl, rfl, rfl, rfl, rfl, rfl⟩ (RLe.refl _) qS
     ·try dsimp only at hc5
      refine W.freeze (enc := encI) (xs := ys) 0 rfl ?_
      intro R1 hR1 hwz
      refine zX ?_
      refine wx (wx (zY (zL (zU (zQ (zG ?_))))))
      refine yD (r := by (first | exact Rd.blk 0 rfl | exact Rd.blk 1 rfl | exact Rd.blk 2 rfl | exact Rd.blk 3 rfl | exact Rd.blk 4 rfl | exact Rd.blk 5 rfl)) (k := ?_)
      first | refine WL.efN rfl rfl (Ef.store0 0 tab_ok rfl rfl rfl rfl rfl rfl rfl rfl ?_) | refine WL.efN rfl rfl (Ef.store0 1 tab_ok rfl rfl rfl rfl rfl rfl rfl rfl ?_) | refine WL.efN rfl rfl (Ef.store0 2 tab_ok rfl rfl rfl rfl rfl rfl rfl rfl ?_) | refine WL.efN rfl rfl (Ef.store0 3 tab_ok rfl rfl rfl rfl rfl rfl rfl rfl ?_) | refine WL.efN rfl rfl (Ef.store0 4 tab_ok rfl rfl rfl rfl rfl rfl rfl rfl ?_) | refine WL.efN rfl rfl (Ef.store0 5 tab_ok rfl rfl rfl rfl rfl rfl rfl rfl ?_)
      refine zN (zU (zT ?_))
      refine WE.retFS (E' := srcE b a cp xs (cn) :: F) qS tab_ok [_] rfl ⟨⟨_, _, _, rfl, rfl, rfl, qB, rfl⟩, trivial⟩ (by first | assumption | exact RLe.refl _) ?_
      exact ⟨_, [], rfl, ⟨4, (4 + mod (nth xs c) (24 - 4 + 1)), 1, ys, []⟩, _, none, _, 0, _, rfl, hwz, rs_nil, ⟨by dsimp only; omega, rfl, by dsimp only; omega, fun h => by dsimp only at h; omega, fun h => by dsimp only at h; omega, fun h => by dsimp only at h; omega, fun _ => ⟨by dsimp only; omega, hy3, rfl⟩, fun h => by dsimp only at h; omega⟩, rfl, rfl⟩
    ·try dsimp only at hc4
     refine zQ (zG (zR 1 rfl ?_))
     first | refine WL.efN rfl rfl (Ef.store 0 tab_ok rfl rfl rfl rfl rfl rfl rfl rfl ?_) | refine WL.efN rfl rfl (Ef.store 1 tab_ok rfl rfl rfl rfl rfl rfl rfl rfl ?_) | refine WL.efN rfl rfl (Ef.store 2 tab_ok rfl rfl rfl rfl rfl rfl rfl rfl ?_) | refine WL.efN rfl rfl (Ef.store 3 tab_ok rfl rfl rfl rfl rfl rfl rfl rfl ?_) | refine WL.efN rfl rfl (Ef.store 4 tab_ok rfl rfl rfl rfl rfl rfl rfl rfl ?_) | refine WL.efN rfl rfl (Ef.store 5 tab_ok rfl rfl rfl rfl rfl rfl rfl rfl ?_)
     refine zN (zU (zQ ?_))
     refine W.nil 3 1 qD ?_
     refine zQ (zG (zR 1 rfl (zN (zU (zB ?_)))))
     refine W.loopK (β := Nat × List Int × Option Addr × Nat) (fun (i, ys, a9, c9) => ys.length = i ∧ i ≤ 1 ∧ ∀ y ∈ ys, -1 ≤ y ∧ y ≤ (1 : Int) - 1) (fun (i, ys, a9, c9) => [(8, true, .int .i64 (i : Int))]) [0, 1, 4, 5] [_, _, _, _] [] _ rfl (fun (i, ys, a9, c9) => [(0, .sl 3 1 a9 c9 (ys.map encI)), (1, .blk b5 [.int .i64 5, .int .i64 (4 + mod (nth xs c) (24 - 4 + 1)), .int .i64 1, .slice none 0 0, .slice a9 ys.length c9])]) (fun (i, ys, a9, c9) => 1 - i) ((0, [], none, 0)) (⟨rfl, Nat.zero_le _, fun y h => (by cases h)⟩) ⟨rfl, rfl, rfl, rfl, rfl, rfl⟩ qS ?_
     intro zz hst
     obtain ⟨i, ys, a9, c9⟩ := zz
     dsimp only [zipE, setAll, List.cons_append, List.nil_append, List.set_cons_zero, List.set_cons_succ] at hst ⊢
     obtain ⟨hy1, hy2, hy3⟩ := hst
     refine zQ (zQ (zG (zR 3 rfl (zN (zU ?_)))))
     refine cD rfl ?_ ?_ <;> intro hc6
     ·try dsimp only at hc6
      refine zK (zU (zQ (zB (zG (zR 1 rfl ?_)))))
      refine yD (r := by apply Rd.add; (first | exact Rd.blk 0 rfl | exact Rd.blk 1 rfl | exact Rd.blk 2 rfl | exact Rd.blk 3 rfl | exact Rd.blk 4 rfl | exact Rd.blk 5 rfl)) (k := ?_)
      refine zR 1 rfl ?_
      refine WL.ef rfl rfl qD (Ef.buildSliceD (enc := encI) (parts := [.tmp 32]) [_] tab_ok rfl rfl rfl rfl rfl rfl rfl rfl qD qD (fun a33 => ?_))
      first | refine WL.ef rfl rfl (by decide) (Ef.appendD 1 0 tab_ok rfl rfl rfl rfl rfl rfl rfl rfl rfl rfl rfl (fun _ _ => rfl) (by simp only [List.length_cons, List.length_nil]; omega) (by simp only [List.length_cons, List.length_nil]; omega) (fun a34 c34 ha34 => ?_)) | refine WL.ef rfl rfl (by decide) (Ef.appendD 2 0 tab_ok rfl rfl rfl rfl rfl rfl rfl rfl rfl rfl rfl (fun _ _ => rfl) (by simp only [List.length_cons, List.length_nil]; omega) (by simp only [List.length_cons, List.length_nil]; omega) (fun a34 c34 ha34 => ?_)) | refine WL.ef rfl rfl (by decide) (Ef.appendD 3 0 tab_ok rfl rfl rfl rfl rfl rfl rfl rfl rfl rfl rfl (fun _ _ => rfl) (by simp only [List.length_cons, List.length_nil]; omega) (by simp only [List.length_cons, List.length_nil]; omega) (fun a34 c34 ha34 => ?_)) | refine WL.ef rfl rfl (by decide) (Ef.appendD 4 0 tab_ok rfl rfl rfl rfl rfl rfl rfl rfl rfl rfl rfl (fun _ _ => rfl) (by simp only [List.length_cons, List.length_nil]; omega) (by simp only [List.length_cons, List.length_nil]; omega) (fun a34 c34 ha34 => ?_)) | refine WL.ef rfl rfl (by decide) (Ef.appendD 5 0 tab_ok rfl rfl rfl rfl rfl rfl rfl rfl rfl rfl rfl (fun _ _ => rfl) (by simp only [List.length_cons, List.length_nil]; omega) (by simp only [List.length_cons, List.length_nil]; omega) (fun a34 c34 ha34 => ?_)) | refine WL.ef rfl rfl (by decide) (Ef.appendR 0 tab_ok rfl rfl rfl rfl rfl rfl rfl rfl rfl rfl (by assumption) (fun _ _ => rfl) (by (try dsimp only); omega) (by omega) (fun a34 c34 ha34 => ?_)) | refine WL.ef rfl rfl (by decide) (Ef.appendR 1 tab_ok rfl rfl rfl rfl rfl rfl rfl rfl rfl rfl (by assumption) (fun _ _ => rfl) (by (try dsimp only); omega) (by omega) (fun a34 c34 ha34 => ?_)) | refine WL.ef rfl rfl (by decide) (Ef.appendR 2 tab_ok rfl rfl rfl rfl rfl rfl rfl rfl rfl rfl (by assumption) (fun _ _ => rfl) (by (try dsimp only); omega) (by omega) (fun a34 c34 ha34 => ?_)) | refine WL.ef rfl rfl (by decide) (Ef.appendR 3 tab_ok rfl rfl rfl rfl rfl rfl rfl rfl rfl rfl (by assumption) (fun _ _ => rfl) (by (try dsimp only); omega) (by omega) (fun a34 c34 ha34 => ?_)) | refine WL.ef rfl rfl (by decide) (Ef.appendR 4 tab_ok rfl rfl rfl rfl rfl rfl rfl rfl rfl rfl (by assumption) (fun _ _ => rfl) (by (try dsimp only); omega) (by omega) (fun a34 c34 ha34 => ?_)) | refine WL.ef rfl rfl (by decide) (Ef.appendR 5 tab_ok rfl rfl rfl rfl rfl rfl rfl rfl rfl rfl (by assumption) (fun _ _ => rfl) (by (try dsimp only); omega) (by omega) (fun a34 c34 ha34 => ?_))
      refine zR 1 rfl ?_
      first | refine WL.efN rfl rfl (Ef.store 0 tab_ok rfl rfl rfl rfl rfl rfl rfl rfl ?_) | refine WL.efN rfl rfl (Ef.store 1 tab_ok rfl rfl rfl rfl rfl rfl rfl rfl ?_) | refine WL.efN rfl rfl (Ef.store 2 tab_ok rfl rfl rfl rfl rfl rfl rfl rfl ?_) | refine WL.efN rfl rfl (Ef.store 3 tab_ok rfl rfl rfl rfl rfl rfl rfl rfl ?_) | refine WL.efN rfl rfl (Ef.store 4 tab_ok rfl rfl rfl rfl rfl rfl rfl rfl ?_) | refine WL.efN rfl rfl (Ef.store 5 tab_ok rfl rfl rfl rfl rfl rfl rfl rfl ?_)
      refine zN (zL (zU (zG (zR 1 rfl ?_))))
      refine yA ?_
      refine zR 1 rfl (zN ?_)
      refine WE.again ((i + 1, ys ++ [(i : Int)], a34, c34)) (⟨by simp only [List.length_append, List.length_cons, List.length_nil]; omega, by omega, fun y hy => by rcases List.mem_append.1 hy with h | h; exact hy3 y h; have := List.mem_singleton.1 h; omega⟩) (by (try dsimp only); omega) ⟨rfl, rfl, rfl, rfl, rfl, rfl⟩ (RLe.refl _) qS
     ·try dsimp only at hc6
      refine zX ?_
      refine wx (wx (zY (zU (zQ (zG (zR 1 rfl ?_))))))
      refine WL.callAt 3 en29 rfl rfl qD (CallOp.mkT rfl rfl rfl rfl) rfl (N_C w0 ha (by constructor <;> decide) _) ?_
      rintro _ _ _ _ - ⟨rfl, rfl, rfl, rfl⟩
      have hm8 := mod_range (nth xs (c + 1 + 1 + 1)) (show (1 : Int) ≤ 3 by decide)
      obtain ⟨k8, hk8⟩ := Int.eq_ofNat_of_zero_le hm8.1
      rw [hk8]
      refine zR 1 rfl (zN (zU (zB ?_)))
      refine W.loopK (β := Nat × List Int × Nat × Option Addr × Nat) (fun (j, ys, cn, a9, c9) => 1 ≤ ys.length ∧ ys.length + j ≤ 3 ∧ ∀ y ∈ ys, -1 ≤ y ∧ y ≤ (1 : Int) - 1) (fun (j, ys, cn, a9, c9) => [(9, true, .int .i64 (j : Int))]) [0, 1, 4, 5] [_, _, _, _] [] _ rfl (fun (j, ys, cn, a9, c9) => [(0, .sl 3 1 a9 c9 (ys.map encI)), (1, .blk b5 [.int .i64 5, .int .i64 (4 + mod (nth xs c) (24 - 4 + 1)), .int .i64 1, .slice none 0 0, .slice a9 ys.length c9]), (3, srcE b a cp xs cn)]) (fun (j, ys, cn, a9, c9) => j) ((k8, ys, c + 1 + 1 + 1 + 1, a9, c9)) (⟨by (try dsimp only); omega, by (try dsimp only); omega, hy3⟩) ⟨rfl, rfl, rfl, rfl, rfl, rfl⟩ qS ?_
      intro zz hst
      obtain ⟨j, ys, cn, a9, c9⟩ := zz
      dsimp only [zipE, setAll, List.cons_append, List.nil_append, List.set_cons_zero, List.set_cons_succ] at hst ⊢
      obtain ⟨hy1, hy2, hy3⟩ := hst
      refine zQ (zQ (zG (zR 2 rfl (zN (zU ?_)))))
      refine cD rfl ?_ ?_ <;> intro hc7
      ·try dsimp only at hc7
       obtain ⟨j, rfl⟩ : ∃ m, j = m + 1 := ⟨j - 1, by omega⟩
       refine zK (zU (zQ (zB ?_)))
       refine W.regionD _ (.blk b4 [.int .i64 0, .int .i64 0, .int .i64 0, .slice none 0 0, .slice none 0 0] :: F) (.blk b5 [.int .i64 5, .int .i64 (4 + mod (nth xs c) (24 - 4 + 1)), .int .i64 1, .slice none 0 0, .slice a9 ys.length c9] :: .blk b4 [.int .i64 0, .int .i64 0, .int .i64 0, .slice none 0 0, .slice none 0 0] :: F) [9] mixed ?_
       refine vP 0 ?_
       refine vD 1 (r := by apply Rd.add; (first | exact Rd.blk 0 rfl | exact Rd.blk 1 rfl | exact Rd.blk 2 rfl | exact Rd.blk 3 rfl | exact Rd.blk 4 rfl | exact Rd.blk 5 rfl)) (k := ?_)
       refine vP 2 ?_
       refine vP 3 ?_
       refine VA.take2 4 rfl qK qK qK rfl qK qK rfl rfl qD (Yl.sub rfl rfl rfl (fun _ => rfl) qA) qS qR qS ?_
       refine VA.one (i := 5) qK ?_
       refine VS.callAt 3 rfl en19 rfl rfl qD (CallOp.mkT rfl rfl rfl rfl) rfl (Range_C (lo := (-1)) (hi := (1 - 1)) w0 ha qO qO _) ?_
       rintro _ _ _ _ - ⟨rfl, rfl, rfl, rfl⟩
       refine ⟨RLe.refl _, qS, (fun _ => qS), ?_⟩
       have hm9 := mod_range (nth xs cn) (show (1 : Int) ≤ (1 - 1) - (-1) + 1 by omega)
       refine VA.one (i := 6) qK ?_
       refine VS.eff rfl rfl rfl qD (Ef.buildSliceD (enc := encI) (parts := [.tmp 47]) [_] tab_ok rfl rfl rfl rfl rfl rfl rfl rfl qD qD (fun a48 => ?_))
       refine ⟨by first | exact RLe.refl _ | assumption, qS, (fun _ => qS), ?_⟩
       refine VA.one (i := 7) qK ?_
       first | refine VS.eff rfl rfl rfl (by decide) (Ef.appendD 1 0 tab_ok rfl rfl rfl rfl rfl rfl rfl rfl rfl rfl rfl (fun _ _ => rfl) (by simp only [List.length_cons, List.length_nil]; omega) (by simp only [List.length_cons, List.length_nil]; omega) (fun a49 c49 ha49 => ?_)) | refine VS.eff rfl rfl rfl (by decide) (Ef.appendD 2 0 tab_ok rfl rfl rfl rfl rfl rfl rfl rfl rfl rfl rfl (fun _ _ => rfl) (by simp only [List.length_cons, List.length_nil]; omega) (by simp only [List.length_cons, List.length_nil]; omega) (fun a49 c49 ha49 => ?_)) | refine VS.eff rfl rfl rfl (by decide) (Ef.appendD 3 0 tab_ok rfl rfl rfl rfl rfl rfl rfl rfl rfl rfl rfl (fun _ _ => rfl) (by simp only [List.length_cons, List.length_nil]; omega) (by simp only [List.length_cons, List.length_nil]; omega) (fun a49 c49 ha49 => ?_)) | refine VS.eff rfl rfl rfl (by decide) (Ef.appendD 4 0 tab_ok rfl rfl rfl rfl rfl rfl rfl rfl rfl rfl rfl (fun _ _ => rfl) (by simp only [List.length_cons, List.length_nil]; omega) (by simp only [List.length_cons, List.length_nil]; omega) (fun a49 c49 ha49 => ?_)) | refine VS.eff rfl rfl rfl (by decide) (Ef.appendD 5 0 tab_ok rfl rfl rfl rfl rfl rfl rfl rfl rfl rfl rfl (fun _ _ => rfl) (by simp only [List.length_cons, List.length_nil]; omega) (by simp only [List.length_cons, List.length_nil]; omega) (fun a49 c49 ha49 => ?_)) | refine VS.eff rfl rfl rfl (by decide) (Ef.appendR 0 tab_ok rfl rfl rfl rfl rfl rfl rfl rfl rfl rfl (by assumption) (fun _ _ => rfl) (by (try dsimp only); omega) (by omega) (fun a49 c49 ha49 => ?_)) | refine VS.eff rfl rfl rfl (by decide) (Ef.appendR 1 tab_ok rfl rfl rfl rfl rfl rfl rfl rfl rfl rfl (by assumption) (fun _ _ => rfl) (by (try dsimp only); omega) (by omega) (fun a49 c49 ha49 => ?_)) | refine VS.eff rfl rfl rfl (by decide) (Ef.appendR 2 tab_ok rfl rfl rfl rfl rfl rfl rfl rfl rfl rfl (by assumption) (fun _ _ => rfl) (by (try dsimp only); omega) (by omega) (fun a49 c49 ha49 => ?_)) | refine VS.eff rfl rfl rfl (by decide) (Ef.appendR 3 tab_ok rfl rfl rfl rfl rfl rfl rfl rfl rfl rfl (by assumption) (fun _ _ => rfl) (by (try dsimp only); omega) (by omega) (fun a49 c49 ha49 => ?_)) | refine VS.eff rfl rfl rfl (by decide) (Ef.appendR 4 tab_ok rfl rfl rfl rfl rfl rfl rfl rfl rfl rfl (by assumption) (fun _ _ => rfl) (by (try dsimp only); omega) (by omega) (fun a49 c49 ha49 => ?_)) | refine VS.eff rfl rfl rfl (by decide) (Ef.appendR 5 tab_ok rfl rfl rfl rfl rfl rfl rfl rfl rfl rfl (by assumption) (fun _ _ => rfl) (by (try dsimp only); omega) (by omega) (fun a49 c49 ha49 => ?_))
       refine ⟨by first | exact RLe.refl _ | assumption, qS, (fun _ => qS), ?_⟩
       refine vP 8 ?_
       refine VA.one (i := 9) qK ?_
       first | refine VS.effN rfl rfl rfl (Ef.store 0 tab_ok rfl rfl rfl rfl rfl rfl rfl rfl ?_) | refine VS.effN rfl rfl rfl (Ef.store 1 tab_ok rfl rfl rfl rfl rfl rfl rfl rfl ?_) | refine VS.effN rfl rfl rfl (Ef.store 2 tab_ok rfl rfl rfl rfl rfl rfl rfl rfl ?_) | refine VS.effN rfl rfl rfl (Ef.store 3 tab_ok rfl rfl rfl rfl rfl rfl rfl rfl ?_) | refine VS.effN rfl rfl rfl (Ef.store 4 tab_ok rfl rfl rfl rfl rfl rfl rfl rfl ?_) | refine VS.effN rfl rfl rfl (Ef.store 5 tab_ok rfl rfl rfl rfl rfl rfl rfl rfl ?_)
       refine ⟨by first | exact RLe.refl _ | assumption, qS, (noD qK), ?_⟩
       refine VA.done qK ?_
       refine zL (zU (zG (zR 1 rfl ?_)))
       refine yS ?_
       refine zR 1 rfl (zN ?_)
       refine WE.again ((j, ys ++ [-1 + mod (nth xs cn) ((1 - 1) - -1 + 1)], cn + 1, a49, c49)) (⟨by simp only [List.length_append, List.length_cons, List.length_nil]; omega, by simp only [List.length_append, List.length_cons, List.length_nil]; omega, fun y hy => by rcases List.mem_append.1 hy with h | h; exact hy3 y h; have := List.mem_singleton.1 h; omega⟩) (by (try dsimp only); omega) ⟨vint (by omega), rfl, rfl, rfl, rfl, rfl⟩ (RLe.refl _) qS
      ·try dsimp only at hc7
       refine W.freeze (enc := encI) (xs := ys) 0 rfl ?_
       intro R1 hR1 hwz
       refine zX ?_
       refine wx (wx (zY (zL (zU (zQ (zG ?_))))))
       refine yD (r := by (first | exact Rd.blk 0 rfl | exact Rd.blk 1 rfl | exact Rd.blk 2 rfl | exact Rd.blk 3 rfl | exact Rd.blk 4 rfl | exact Rd.blk 5 rfl)) (k := ?_)
       first | refine WL.efN rfl rfl (Ef.store0 0 tab_ok rfl rfl rfl rfl rfl rfl rfl rfl ?_) | refine WL.efN rfl rfl (Ef.store0 1 tab_ok rfl rfl rfl rfl rfl rfl rfl rfl ?_) | refine WL.efN rfl rfl (Ef.store0 2 tab_ok rfl rfl rfl rfl rfl rfl rfl rfl ?_) | refine WL.efN rfl rfl (Ef.store0 3 tab_ok rfl rfl rfl rfl rfl rfl rfl rfl ?_) | refine WL.efN rfl rfl (Ef.store0 4 tab_ok rfl rfl rfl rfl rfl rfl rfl rfl ?_) | refine WL.efN rfl rfl (Ef.store0 5 tab_ok rfl rfl rfl rfl rfl rfl rfl rfl ?_)
       refine zN (zU (zT ?_))
       refine WE.retFS (E' := srcE b a cp xs (cn) :: F) qS tab_ok [_] rfl ⟨⟨_, _, _, rfl, rfl, rfl, qB, rfl⟩, trivial⟩ (by first | assumption | exact RLe.refl _) ?_
       exact ⟨_, [], rfl, ⟨5, (4 + mod (nth xs c) (24 - 4 + 1)), 1, [], ys⟩, none, _, 0, _, _, rfl, rs_nil, hwz, ⟨by dsimp only; omega, rfl, by dsimp only; omega, fun h => by dsimp only at h; omega, fun h => by dsimp only at h; omega, fun h => by dsimp only at h; omega, fun h => by dsimp only at h; omega, fun _ => ⟨rfl, by dsimp only; omega, by dsimp only; omega, hy3⟩⟩, rfl, rfl⟩

theorem PickF_C {R : Ro} {b : Nat} {a : Option Addr} {cp : Nat} {xs : List Int} {c : Nat} (w0 : World) {n : Nat} {a2 : Option Addr} {c2 : Nat} {j : Nat} {F : List Ent} (ys : List Int) (hn : ys.length = n) (hn0 : 0 < n) (hn1 : n ≤ 1000000) (ha : RS R 1 encI a xs) (hy : F[j]? = some (.sl 3 1 a2 c2 (ys.map encI))) :
  K.Fn Tryz.prog 39 [.pointer (some ⟨b, 0, none⟩), .slice a2 n c2] w0 R (srcE b a cp xs c :: F) (fun v R' E' => ∃ e' N, E' = N ++ e' :: F ∧ RdPost (.int .i64 (nth ys (mod (nth xs c) n).toNat)) R (srcE b a cp xs (c + 1)) v R' e' N) := by
 subst hn; exact Pick_C w0 ha hy hn0 hn1
theorem Stair_C {R : Ro} {burst more : Int} {p : Nat} (hp : p ≤ 1000) (w0 : World) (E : List Ent) : K.Fn Tryz.prog 33 [.int .i64 burst, .int .i64 (p : Int), .int .i64 more] w0 R E (fun v R' E' => ∃ (f : Option Addr) (fc : Nat), v = .agg #[.slice f (stairC burst p more).vals.length fc, .int .i64 (p : Int), .int .i64 more] ∧ RS R' 1 encI f (stairC burst p more).vals ∧ (stairC burst p more).vals.length ≤ fc ∧ E' = E) := by
 refine fE 25 Tryz.func33 ?_
 refine zQ (zG ?_)
 refine zA fun b6 => ?_
 refine zN (zU (zQ (zG ?_)))
 refine WL.ef rfl rfl qD (Ef.buildSliceD (enc := encI) (parts := [.const (.int .i64 0)]) [0] tab_ok rfl rfl rfl rfl rfl rfl rfl rfl qD qD (fun a9 => ?_))
 refine zR 2 rfl ?_
 refine yW [(0, .tmp 9), (1, .tmp 10), (2, .tmp 11)] ?_
 refine zA fun b7 => ?_
 first | refine WL.efN rfl rfl (Ef.store0 0 tab_ok rfl rfl rfl rfl rfl rfl rfl rfl ?_) | refine WL.efN rfl rfl (Ef.store0 1 tab_ok rfl rfl rfl rfl rfl rfl rfl rfl ?_) | refine WL.efN rfl rfl (Ef.store0 2 tab_ok rfl rfl rfl rfl rfl rfl rfl rfl ?_) | refine WL.efN rfl rfl (Ef.store0 3 tab_ok rfl rfl rfl rfl rfl rfl rfl rfl ?_) | refine WL.efN rfl rfl (Ef.store0 4 tab_ok rfl rfl rfl rfl rfl rfl rfl rfl ?_)
 refine zN (zU (zQ (zQ (zG (zR 1 rfl (zN (zU (zB ?_))))))))
 refine W.loopK (β := Nat × Option Addr × Nat) (fun (i, a1, c1) => i ≤ p) (fun (i, a1, c1) => [(8, true, .int .i64 (i : Int))]) [0, 1, 6, 7] [_, _, _, _] [] _ rfl (fun (i, a1, c1) => [(0, .blk b7 [.slice a1 (0 :: List.replicate i burst).length c1, .int .i64 (p : Int), .int .i64 more]), (1, .sl 3 1 a1 c1 ((0 :: List.replicate i burst).map encI))]) (fun (i, a1, c1) => p - i) ((0, some ⟨a9, 0, none⟩, 1)) (Nat.zero_le _) ⟨rfl, rfl, rfl, rfl, rfl, rfl⟩ qS ?_
 intro zz hst
 obtain ⟨i, a1, c1⟩ := zz
 dsimp only [zipE, setAll, List.cons_append, List.nil_append, List.set_cons_zero, List.set_cons_succ] at hst ⊢
 have hi := hst
 have hrl : (0 :: List.replicate i burst).length = i + 1 := by rw [List.length_cons, List.length_replicate]
 have hrl2 : (List.replicate i burst).length = i := List.length_replicate ..
 refine zQ (zQ (zG (zR 3 rfl (zN (zU ?_)))))
 refine cD rfl ?_ ?_ <;> intro hc0
 ·try dsimp only at hc0
  have hip : i < p := by omega
  have hrs : (0 :: List.replicate (i + 1) burst) = (0 :: List.replicate i burst) ++ [burst] := by rw [List.replicate_succ', List.cons_append]
  refine zK (zU (zQ (zB (zG (zR 1 rfl ?_)))))
  refine yD (r := by apply Rd.add; (first | exact Rd.blk 0 rfl | exact Rd.blk 1 rfl | exact Rd.blk 2 rfl | exact Rd.blk 3 rfl | exact Rd.blk 4 rfl)) (k := ?_)
  refine zR 1 rfl ?_
  refine WL.ef rfl rfl qD (Ef.buildSliceD (enc := encI) (parts := [.tmp 20]) [_] tab_ok rfl rfl rfl rfl rfl rfl rfl rfl qD qD (fun a21 => ?_))
  first | refine WL.ef rfl rfl (by decide) (Ef.appendD 1 0 tab_ok rfl rfl rfl rfl rfl rfl rfl rfl rfl rfl rfl (fun _ _ => rfl) (by simp only [List.length_cons, List.length_nil]; omega) (by simp only [List.length_cons, List.length_nil]; omega) (fun a22 c22 ha22 => ?_)) | refine WL.ef rfl rfl (by decide) (Ef.appendD 2 0 tab_ok rfl rfl rfl rfl rfl rfl rfl rfl rfl rfl rfl (fun _ _ => rfl) (by simp only [List.length_cons, List.length_nil]; omega) (by simp only [List.length_cons, List.length_nil]; omega) (fun a22 c22 ha22 => ?_)) | refine WL.ef rfl rfl (by decide) (Ef.appendD 3 0 tab_ok rfl rfl rfl rfl rfl rfl rfl rfl rfl rfl rfl (fun _ _ => rfl) (by simp only [List.length_cons, List.length_nil]; omega) (by simp only [List.length_cons, List.length_nil]; omega) (fun a22 c22 ha22 => ?_)) | refine WL.ef rfl rfl (by decide) (Ef.appendD 4 0 tab_ok rfl rfl rfl rfl rfl rfl rfl rfl rfl rfl rfl (fun _ _ => rfl) (by simp only [List.length_cons, List.length_nil]; omega) (by simp only [List.length_cons, List.length_nil]; omega) (fun a22 c22 ha22 => ?_)) | refine WL.ef rfl rfl (by decide) (Ef.appendR 0 tab_ok rfl rfl rfl rfl rfl rfl rfl rfl rfl rfl (by assumption) (fun _ _ => rfl) (by (try dsimp only); omega) (by omega) (fun a22 c22 ha22 => ?_)) | refine WL.ef rfl rfl (by decide) (Ef.appendR 1 tab_ok rfl rfl rfl rfl rfl rfl rfl rfl rfl rfl (by assumption) (fun _ _ => rfl) (by (try dsimp only); omega) (by omega) (fun a22 c22 ha22 => ?_)) | refine WL.ef rfl rfl (by decide) (Ef.appendR 2 tab_ok rfl rfl rfl rfl rfl rfl rfl rfl rfl rfl (by assumption) (fun _ _ => rfl) (by (try dsimp only); omega) (by omega) (fun a22 c22 ha22 => ?_)) | refine WL.ef rfl rfl (by decide) (Ef.appendR 3 tab_ok rfl rfl rfl rfl rfl rfl rfl rfl rfl rfl (by assumption) (fun _ _ => rfl) (by (try dsimp only); omega) (by omega) (fun a22 c22 ha22 => ?_)) | refine WL.ef rfl rfl (by decide) (Ef.appendR 4 tab_ok rfl rfl rfl rfl rfl rfl rfl rfl rfl rfl (by assumption) (fun _ _ => rfl) (by (try dsimp only); omega) (by omega) (fun a22 c22 ha22 => ?_))
  refine zR 1 rfl ?_
  first | refine WL.efN rfl rfl (Ef.store 0 tab_ok rfl rfl rfl rfl rfl rfl rfl rfl ?_) | refine WL.efN rfl rfl (Ef.store 1 tab_ok rfl rfl rfl rfl rfl rfl rfl rfl ?_) | refine WL.efN rfl rfl (Ef.store 2 tab_ok rfl rfl rfl rfl rfl rfl rfl rfl ?_) | refine WL.efN rfl rfl (Ef.store 3 tab_ok rfl rfl rfl rfl rfl rfl rfl rfl ?_) | refine WL.efN rfl rfl (Ef.store 4 tab_ok rfl rfl rfl rfl rfl rfl rfl rfl ?_)
  refine zN (zL (zU (zG (zR 1 rfl ?_))))
  refine yA ?_
  refine zR 1 rfl (zN ?_)
  refine WE.again ((i + 1, a22, c22)) (by show i + 1 ≤ p; omega) (by (try dsimp only); omega) ⟨rfl, rfl, rfl, rfl, rfl, rfl⟩ (RLe.refl _) (by dsimp only [setAll, List.set_cons_zero, List.set_cons_succ]; rw [hrs]; exact qS)
 ·try dsimp only at hc0
  obtain rfl : i = p := by omega
  refine W.cap 1 rfl ?_
  intro hcap
  rw [List.length_map] at hcap
  refine W.freeze (enc := encI) (xs := (0 :: List.replicate i burst)) 1 rfl ?_
  intro R1 hR1 hf1
  refine zX ?_
  refine wx (wx (zY (zU (zQ (zG ?_)))))
  refine yD (r := by (first | exact Rd.blk 0 rfl | exact Rd.blk 1 rfl | exact Rd.blk 2 rfl | exact Rd.blk 3 rfl | exact Rd.blk 4 rfl)) (k := ?_)
  first | refine WL.efN rfl rfl (Ef.store0 0 tab_ok rfl rfl rfl rfl rfl rfl rfl rfl ?_) | refine WL.efN rfl rfl (Ef.store0 1 tab_ok rfl rfl rfl rfl rfl rfl rfl rfl ?_) | refine WL.efN rfl rfl (Ef.store0 2 tab_ok rfl rfl rfl rfl rfl rfl rfl rfl ?_) | refine WL.efN rfl rfl (Ef.store0 3 tab_ok rfl rfl rfl rfl rfl rfl rfl rfl ?_) | refine WL.efN rfl rfl (Ef.store0 4 tab_ok rfl rfl rfl rfl rfl rfl rfl rfl ?_)
  refine zN (zU (zT ?_))
  refine WE.retFS (E' := E) qS tab_ok [_] rfl ⟨⟨_, _, _, rfl, rfl, rfl, qB, rfl⟩, trivial⟩ qR ?_
  exact ⟨a1, c1, rfl, hf1, hcap, rfl⟩
theorem Contr24_C {R : Ro} {b : Nat} {a : Option Addr} {cp : Nat} {xs : List Int} {c : Nat} (w0 : World) (ha : K.RS R 1 encI a xs) : FnAt Tryz.prog 38 [.pointer (some ⟨b, 0, none⟩)] w0 R (srcE b a cp xs c) (fun v R' e' N => ∃ (f : Option Addr) (fc cn : Nat) (cv : Cv), v = .agg #[.slice f cv.vals.length fc, .int .i64 cv.per, .int .i64 cv.inc] ∧ RS R' 1 encI f cv.vals ∧ cv.vals.length ≤ fc ∧ StairP cv ∧ e' = srcE b a cp xs cn ∧ N = []) := by
 intro F
 refine fE 11 Tryz.func38 ?_
 refine zQ (zG ?_)
 refine zA fun b2 => ?_
 refine zN (zU (zQ (zG (zR 1 rfl ?_))))
 refine WL.callAt 1 en19 rfl rfl qD (CallOp.mkT rfl rfl rfl rfl) rfl (Range_C (lo := 4) (hi := 16) w0 ha qO qO _) ?_
 rintro _ _ _ _ - ⟨rfl, rfl, rfl, rfl⟩
 have hm0 := mod_range (nth xs (c)) (show (1 : Int) ≤ 16 - 4 + 1 by omega)
 refine zR 1 rfl ?_
 refine WL.ef rfl rfl qD (Ef.buildSliceD (enc := encI) (parts := [.const (.int .i64 1), .const (.int .i64 2), .const (.int .i64 3), .const (.int .i64 4), .const (.int .i64 6), .const (.int .i64 12)]) [1, 2, 3, 4, 6, 12] tab_ok rfl rfl rfl rfl rfl rfl rfl rfl qD qD (fun a6 => ?_))
 refine WL.callAt 2 en39 rfl rfl qD (CallOp.mkT rfl rfl rfl rfl) rfl (PickF_C (j := 0) w0 ([1, 2, 3, 4, 6, 12] : List Int) rfl qD qD ha rfl) ?_
 rintro _ _ _ _ - ⟨rfl, rfl, rfl, rfl⟩
 have hm1 := mod_range (nth xs (c + 1)) (show (1 : Int) ≤ ((6 : Nat) : Int) by decide)
 have hp6 := pick6 (mod (nth xs (c + 1)) ((6 : Nat) : Int)).toNat (by omega)
 obtain ⟨p, hp⟩ := Int.eq_ofNat_of_zero_le (show 0 ≤ nth ([1, 2, 3, 4, 6, 12] : List Int) (mod (nth xs (c + 1)) ((6 : Nat) : Int)).toNat by omega)
 rw [hp] at hp6 ⊢
 refine zR 1 rfl ?_
 refine WL.callAt 2 en29 rfl rfl qD (CallOp.mkT rfl rfl rfl rfl) rfl (N_C (n := 4) w0 ha (by constructor <;> decide) _) ?_
 rintro _ _ _ _ - ⟨rfl, rfl, rfl, rfl⟩
 have hm2 := mod_range (nth xs (c + 1 + 1)) (show (1 : Int) ≤ 4 by decide)
 refine WL.call en33 rfl rfl qD (CallOp.mkT rfl rfl rfl rfl) (Stair_C (p := p) qO w0 _) ?_
 rintro _ R1 _ hR1 ⟨f1, k1, rfl, hf1, hk1, rfl⟩
 first | refine WL.efN rfl rfl (Ef.store0 0 tab_ok rfl rfl rfl rfl rfl rfl rfl rfl ?_) | refine WL.efN rfl rfl (Ef.store0 1 tab_ok rfl rfl rfl rfl rfl rfl rfl rfl ?_) | refine WL.efN rfl rfl (Ef.store0 2 tab_ok rfl rfl rfl rfl rfl rfl rfl rfl ?_) | refine WL.efN rfl rfl (Ef.store0 3 tab_ok rfl rfl rfl rfl rfl rfl rfl rfl ?_) | refine WL.efN rfl rfl (Ef.store0 4 tab_ok rfl rfl rfl rfl rfl rfl rfl rfl ?_)
 refine zN (zU (zT ?_))
 refine WE.retFS (E' := (srcE b a cp xs (c + 1 + 1 + 1) :: F)) qS tab_ok [_] rfl ⟨⟨_, _, _, rfl, rfl, rfl, qB, rfl⟩, trivial⟩ qR ?_
 exact ⟨_, [], rfl, f1, k1, _, stairC (4 + mod (nth xs c) (16 - 4 + 1)) p (mod (nth xs (c + 1 + 1)) 4), rfl, hf1, hk1, ⟨_, p, _, rfl, by omega, by omega, by omega⟩, rfl, rfl⟩

set_option maxHeartbeats 4000000 in
theorem Flow24_C {R : Ro} {b : Nat} {a : Option Addr} {cp : Nat} {xs : List Int} {c : Nat} (w0 : World) (ha : K.RS R 1 encI a xs) {na la fa : Option Addr} {nn nc lc nf fc m k : Nat} {name : List UInt8} (hk : k = 1 ∨ k = 2) (hm : 1 ≤ m ∧ m ≤ 4) (hnm : name.length ≤ 100) : FnAt Tryz.prog 21 [.pointer (some ⟨b, 0, none⟩), .agg #[.slice na nn nc, .slice la m lc, .slice fa nf fc], .string (str name), .int .i64 (k : Int)] w0 R (srcE b a cp xs c) (fun v R' e' N => ∃ (x : FlM) (cn : Nat), v = .agg #[.string (str x.f.name), .slice x.a1 x.f.route.length x.c1, .int .i64 x.f.cls, .int .i64 x.f.lo, .int .i64 x.f.hi, .slice x.a2 x.f.cv.vals.length x.c2, .int .i64 x.f.cv.per, .int .i64 x.f.cv.inc] ∧ OkFl R' x ∧ x.f.route.length ≤ x.c1 ∧ x.f.cv.vals.length ≤ x.c2 ∧ x.f.name = name ∧ DrawF k m x.f ∧ e' = srcE b a cp xs cn ∧ N = []) := by
 intro F
 refine fE 87 Tryz.func21 ?_
 refine zQ (zG ?_)
 refine zO fun b5 => ?_
 refine zA fun b8 => ?_
 refine zN (zU (zQ (zG (zR 3 rfl ?_))))
 refine WL.callAt 2 en29 rfl rfl qD (CallOp.mkT rfl rfl rfl rfl) rfl (N_C (n := (k : Int)) w0 ha (by constructor <;> omega) _) ?_
 rintro _ _ _ _ - ⟨rfl, rfl, rfl, rfl⟩
 have hmk := mod_range (nth xs c) (show (1 : Int) ≤ (k : Int) by omega)
 refine zR 1 rfl ?_
 refine WL.callAt 2 en38 rfl rfl qD (CallOp.mkT rfl rfl rfl rfl) rfl (Contr24_C w0 ha _) ?_
 rintro _ R1 _ _ hR1 ⟨f1, fc1, c4, cv, rfl, hf1, hcf1, hstp, rfl, rfl⟩
 have ha := ha.mono hR1
 refine yW [(0, .tmp 13), (2, .tmp 16), (4, .tmp 18)] ?_
 refine zA fun b9 => ?_
 first | refine WL.efN rfl rfl (Ef.store0 0 tab_ok rfl rfl rfl rfl rfl rfl rfl rfl ?_) | refine WL.efN rfl rfl (Ef.store0 1 tab_ok rfl rfl rfl rfl rfl rfl rfl rfl ?_) | refine WL.efN rfl rfl (Ef.store0 2 tab_ok rfl rfl rfl rfl rfl rfl rfl rfl ?_) | refine WL.efN rfl rfl (Ef.store0 3 tab_ok rfl rfl rfl rfl rfl rfl rfl rfl ?_) | refine WL.efN rfl rfl (Ef.store0 4 tab_ok rfl rfl rfl rfl rfl rfl rfl rfl ?_) | refine WL.efN rfl rfl (Ef.store0 5 tab_ok rfl rfl rfl rfl rfl rfl rfl rfl ?_) | refine WL.efN rfl rfl (Ef.store0 6 tab_ok rfl rfl rfl rfl rfl rfl rfl rfl ?_)
 refine zN (zU (zQ (zG (zR 1 rfl ?_))))
 refine WL.callAt 3 en19 rfl rfl qD (CallOp.mkT rfl rfl rfl rfl) rfl (Range_C (lo := 1) (hi := 3) w0 ha qO qO _) ?_
 rintro _ _ _ _ - ⟨rfl, rfl, rfl, rfl⟩
 have hml := mod_range (nth xs c4) (show (1 : Int) ≤ 3 - 1 + 1 by omega)
 refine zR 2 rfl ?_
 first | refine WL.efN rfl rfl (Ef.store2 0 tab_ok rfl rfl rfl rfl rfl rfl rfl rfl ?_) | refine WL.efN rfl rfl (Ef.store2 1 tab_ok rfl rfl rfl rfl rfl rfl rfl rfl ?_) | refine WL.efN rfl rfl (Ef.store2 2 tab_ok rfl rfl rfl rfl rfl rfl rfl rfl ?_) | refine WL.efN rfl rfl (Ef.store2 3 tab_ok rfl rfl rfl rfl rfl rfl rfl rfl ?_) | refine WL.efN rfl rfl (Ef.store2 4 tab_ok rfl rfl rfl rfl rfl rfl rfl rfl ?_) | refine WL.efN rfl rfl (Ef.store2 5 tab_ok rfl rfl rfl rfl rfl rfl rfl rfl ?_) | refine WL.efN rfl rfl (Ef.store2 6 tab_ok rfl rfl rfl rfl rfl rfl rfl rfl ?_)
 refine zN (zU ?_)
 refine W.seqCut (β := Unit) (fun _u => True) (fun _u => [(0, true, .pointer (some ⟨b, 0, none⟩)), (5, true, .pointer (some ⟨b5, 0, none⟩)), (8, true, .pointer (some ⟨b8, 0, none⟩)), (9, true, .pointer (some ⟨b9, 0, none⟩))]) (fun _ => R1) (fun _ => .blk b9 [.string (str name), .slice none 0 0, .int .i64 (mod (nth xs c) (k : Int)), .int .i64 (1 + mod (nth xs c4) (3 - 1 + 1)), .int .i64 ((1 + mod (nth xs c4) (3 - 1 + 1)) + mod (nth xs (c4 + 1)) 5), .slice f1 cv.vals.length fc1, .int .i64 cv.per, .int .i64 cv.inc] :: .blk b8 [.string (str []), .slice none 0 0, .int .i64 0, .int .i64 0, .int .i64 0, .slice none 0 0, .int .i64 0, .int .i64 0] :: .blk b5 [.slice na nn nc, .slice la m lc, .slice fa nf fc] :: srcE b a cp xs (c4 + 1 + 1) :: F) ?_ ?_
 ·
  intro _u hst
  have hm5 := mod_range (nth xs (c4 + 1)) (show (1 : Int) ≤ 5 by decide)
  refine zQ (zG (zR 2 rfl ?_))
  refine yD (r := by apply Rd.add; (first | exact Rd.blk 0 rfl | exact Rd.blk 1 rfl | exact Rd.blk 2 rfl | exact Rd.blk 3 rfl | exact Rd.blk 4 rfl | exact Rd.blk 5 rfl | exact Rd.blk 6 rfl)) (k := ?_)
  refine zR 1 rfl ?_
  refine WL.callAt 3 en29 rfl rfl qD (CallOp.mkT rfl rfl rfl rfl) rfl (N_C (n := (m : Int)) w0 ha (by constructor <;> omega) _) ?_
  rintro _ _ _ _ - ⟨rfl, rfl, rfl, rfl⟩
  obtain ⟨a0, ha0, ha0m⟩ : ∃ a0 : Nat, mod (nth xs (c4 + 1 + 1)) (m : Int) = (a0 : Int) ∧ a0 < m := by
   have := mod_range (nth xs (c4 + 1 + 1)) (show (1 : Int) ≤ (m : Int) by omega)
   exact ⟨(mod (nth xs (c4 + 1 + 1)) (m : Int)).toNat, by omega, by omega⟩
  rw [ha0]
  refine zR 1 rfl (zN (zU (zQ (zG (zR 2 rfl ?_)))))
  refine yD (r := by apply Rd.add; (first | exact Rd.blk 0 rfl | exact Rd.blk 1 rfl | exact Rd.blk 2 rfl | exact Rd.blk 3 rfl | exact Rd.blk 4 rfl | exact Rd.blk 5 rfl | exact Rd.blk 6 rfl)) (k := ?_)
  refine zR 1 rfl ?_
  refine yS ?_
  refine WL.ef rfl rfl qD (Ef.buildSliceD (enc := encI) (parts := [.const (.int .i64 1), .tmp 41]) [1, (m : Int) - 1] tab_ok rfl rfl rfl rfl rfl rfl rfl rfl qD qD (fun a42 => ?_))
  refine WL.callAt 4 en39 rfl rfl qD (CallOp.mkT rfl rfl rfl rfl) rfl (PickF_C (j := 0) w0 ([1, (m : Int) - 1] : List Int) rfl qD qD ha rfl) ?_
  rintro _ _ _ _ - ⟨rfl, rfl, rfl, rfl⟩
  obtain ⟨s, hs, hs1⟩ : ∃ s : Int, nth ([1, (m : Int) - 1] : List Int) (mod (nth xs (c4 + 1 + 1 + 1)) ((2 : Nat) : Int)).toNat = s ∧ (s = 1 ∨ s = (m : Int) - 1) := by
   have := mod_range (nth xs (c4 + 1 + 1 + 1)) (show (1 : Int) ≤ ((2 : Nat) : Int) by decide)
   refine ⟨_, rfl, ?_⟩
   rcases (show (mod (nth xs (c4 + 1 + 1 + 1)) ((2 : Nat) : Int)).toNat = 0 ∨ (mod (nth xs (c4 + 1 + 1 + 1)) ((2 : Nat) : Int)).toNat = 1 by omega) with h | h <;> rw [h]
   ·exact .inl rfl
   ·exact .inr rfl
  rw [hs]
  refine zR 1 rfl (zN (zU (zQ ?_)))
  refine W.nil 3 1 qD ?_
  refine zQ (zG (zR 2 rfl ?_))
  refine yD (r := by apply Rd.add; (first | exact Rd.blk 0 rfl | exact Rd.blk 1 rfl | exact Rd.blk 2 rfl | exact Rd.blk 3 rfl | exact Rd.blk 4 rfl | exact Rd.blk 5 rfl | exact Rd.blk 6 rfl)) (k := ?_)
  refine zR 2 rfl ?_
  refine WL.callAt 5 en19 rfl rfl qD (CallOp.mkT rfl rfl rfl rfl) rfl (Range_C (lo := 1) (hi := (if (m : Int) < (3 : Int) then (m : Int) else 3)) w0 ha (by split <;> omega) (by split <;> omega) _) ?_
  rintro _ _ _ _ - ⟨rfl, rfl, rfl, rfl⟩
  obtain ⟨q, hq, hq1, hq3, hqm⟩ : ∃ q : Nat, 1 + mod (nth xs (c4 + 1 + 1 + 1 + 1)) ((if (m : Int) < (3 : Int) then (m : Int) else 3) - 1 + 1) = (q : Int) ∧ 1 ≤ q ∧ q < 4 ∧ q ≤ m := by
   have := mod_range (nth xs (c4 + 1 + 1 + 1 + 1)) (show (1 : Int) ≤ (if (m : Int) < (3 : Int) then (m : Int) else 3) - 1 + 1 by split <;> omega)
   refine ⟨(1 + mod (nth xs (c4 + 1 + 1 + 1 + 1)) ((if (m : Int) < (3 : Int) then (m : Int) else 3) - 1 + 1)).toNat, ?_⟩
   split at this <;> rename_i h <;> simp only [h, if_true, if_false] <;> omega
  rw [hq]
  have hwn : (wayR (a0 : Int) s m q).Nodup := by
   obtain ⟨n1, n2⟩ := way_nodup m (by omega) a0 ha0m q hq3 hqm
   rcases hs1 with rfl | rfl
   ·exact n1
   ·exact n2
  refine zR 1 rfl (zN (zU (zB ?_)))
  refine W.loopK (β := Nat × Nat × Option Addr × Nat) (fun (i, j, a1, c1) => i + j = q) (fun (i, j, a1, c1) => [(10, true, .int .i64 (mod ((a0 : Int) + (i : Int) * s) (m : Int))), (12, true, .int .i64 (j : Int))]) [5, 8, 9, 11] [_, _, _, _] [] _ rfl (fun (i, j, a1, c1) => [(0, .sl 3 1 a1 c1 ((wayR (a0 : Int) s m i).map encI)), (2, .blk b9 [.string (str name), .slice a1 (wayR (a0 : Int) s m i).length c1, .int .i64 (mod (nth xs c) (k : Int)), .int .i64 (1 + mod (nth xs c4) (3 - 1 + 1)), .int .i64 ((1 + mod (nth xs c4) (3 - 1 + 1)) + mod (nth xs (c4 + 1)) 5), .slice f1 cv.vals.length fc1, .int .i64 cv.per, .int .i64 cv.inc])]) (fun (i, j, a1, c1) => j) ((0, q, none, 0)) (by show 0 + q = q; omega) ⟨vint (by show (a0 : Int) = mod ((a0 : Int) + ((0 : Nat) : Int) * s) (m : Int); rw [Int.natCast_zero, Int.zero_mul, Int.add_zero]; unfold mod; rw [if_neg (by omega), Int.emod_eq_of_lt (by omega) (by omega)]), rfl, rfl, rfl, rfl, rfl, rfl⟩ qS ?_
  intro zz hst
  obtain ⟨i, j, a1, c1⟩ := zz
  dsimp only [zipE, setAll, List.cons_append, List.nil_append, List.set_cons_zero, List.set_cons_succ] at hst ⊢
  have hij := hst
  have hwl := wayR_len (a0 : Int) s m i
  have hmm := mod_range ((a0 : Int) + (i : Int) * s) (show (1 : Int) ≤ (m : Int) by omega)
  refine zQ (zQ (zG (zR 2 rfl (zN (zU ?_)))))
  refine cD rfl ?_ ?_ <;> intro hc0
  ·try dsimp only at hc0
   refine zK (zU (zQ (zB (zQ (zG (zR 1 rfl ?_))))))
   refine yD (r := by apply Rd.add; (first | exact Rd.blk 0 rfl | exact Rd.blk 1 rfl | exact Rd.blk 2 rfl | exact Rd.blk 3 rfl | exact Rd.blk 4 rfl | exact Rd.blk 5 rfl | exact Rd.blk 6 rfl)) (k := ?_)
   refine zR 1 rfl ?_
   refine WL.ef rfl rfl qD (Ef.buildSliceD (enc := encI) (parts := [.tmp 56]) [_] tab_ok rfl rfl rfl rfl rfl rfl rfl rfl qD qD (fun a57 => ?_))
   first | refine WL.ef rfl rfl (by decide) (Ef.appendD 1 0 tab_ok rfl rfl rfl rfl rfl rfl rfl rfl rfl rfl rfl (fun _ _ => rfl) (by simp only [List.length_cons, List.length_nil]; omega) (by simp only [List.length_cons, List.length_nil]; omega) (fun a58 c58 ha58 => ?_)) | refine WL.ef rfl rfl (by decide) (Ef.appendD 2 0 tab_ok rfl rfl rfl rfl rfl rfl rfl rfl rfl rfl rfl (fun _ _ => rfl) (by simp only [List.length_cons, List.length_nil]; omega) (by simp only [List.length_cons, List.length_nil]; omega) (fun a58 c58 ha58 => ?_)) | refine WL.ef rfl rfl (by decide) (Ef.appendD 3 0 tab_ok rfl rfl rfl rfl rfl rfl rfl rfl rfl rfl rfl (fun _ _ => rfl) (by simp only [List.length_cons, List.length_nil]; omega) (by simp only [List.length_cons, List.length_nil]; omega) (fun a58 c58 ha58 => ?_)) | refine WL.ef rfl rfl (by decide) (Ef.appendD 4 0 tab_ok rfl rfl rfl rfl rfl rfl rfl rfl rfl rfl rfl (fun _ _ => rfl) (by simp only [List.length_cons, List.length_nil]; omega) (by simp only [List.length_cons, List.length_nil]; omega) (fun a58 c58 ha58 => ?_)) | refine WL.ef rfl rfl (by decide) (Ef.appendD 5 0 tab_ok rfl rfl rfl rfl rfl rfl rfl rfl rfl rfl rfl (fun _ _ => rfl) (by simp only [List.length_cons, List.length_nil]; omega) (by simp only [List.length_cons, List.length_nil]; omega) (fun a58 c58 ha58 => ?_)) | refine WL.ef rfl rfl (by decide) (Ef.appendD 6 0 tab_ok rfl rfl rfl rfl rfl rfl rfl rfl rfl rfl rfl (fun _ _ => rfl) (by simp only [List.length_cons, List.length_nil]; omega) (by simp only [List.length_cons, List.length_nil]; omega) (fun a58 c58 ha58 => ?_)) | refine WL.ef rfl rfl (by decide) (Ef.appendR 0 tab_ok rfl rfl rfl rfl rfl rfl rfl rfl rfl rfl (by assumption) (fun _ _ => rfl) (by (try dsimp only); omega) (by omega) (fun a58 c58 ha58 => ?_)) | refine WL.ef rfl rfl (by decide) (Ef.appendR 1 tab_ok rfl rfl rfl rfl rfl rfl rfl rfl rfl rfl (by assumption) (fun _ _ => rfl) (by (try dsimp only); omega) (by omega) (fun a58 c58 ha58 => ?_)) | refine WL.ef rfl rfl (by decide) (Ef.appendR 2 tab_ok rfl rfl rfl rfl rfl rfl rfl rfl rfl rfl (by assumption) (fun _ _ => rfl) (by (try dsimp only); omega) (by omega) (fun a58 c58 ha58 => ?_)) | refine WL.ef rfl rfl (by decide) (Ef.appendR 3 tab_ok rfl rfl rfl rfl rfl rfl rfl rfl rfl rfl (by assumption) (fun _ _ => rfl) (by (try dsimp only); omega) (by omega) (fun a58 c58 ha58 => ?_)) | refine WL.ef rfl rfl (by decide) (Ef.appendR 4 tab_ok rfl rfl rfl rfl rfl rfl rfl rfl rfl rfl (by assumption) (fun _ _ => rfl) (by (try dsimp only); omega) (by omega) (fun a58 c58 ha58 => ?_)) | refine WL.ef rfl rfl (by decide) (Ef.appendR 5 tab_ok rfl rfl rfl rfl rfl rfl rfl rfl rfl rfl (by assumption) (fun _ _ => rfl) (by (try dsimp only); omega) (by omega) (fun a58 c58 ha58 => ?_)) | refine WL.ef rfl rfl (by decide) (Ef.appendR 6 tab_ok rfl rfl rfl rfl rfl rfl rfl rfl rfl rfl (by assumption) (fun _ _ => rfl) (by (try dsimp only); omega) (by omega) (fun a58 c58 ha58 => ?_))
   refine zR 1 rfl ?_
   first | refine WL.efN rfl rfl (Ef.store 0 tab_ok rfl rfl rfl rfl rfl rfl rfl rfl ?_) | refine WL.efN rfl rfl (Ef.store 1 tab_ok rfl rfl rfl rfl rfl rfl rfl rfl ?_) | refine WL.efN rfl rfl (Ef.store 2 tab_ok rfl rfl rfl rfl rfl rfl rfl rfl ?_) | refine WL.efN rfl rfl (Ef.store 3 tab_ok rfl rfl rfl rfl rfl rfl rfl rfl ?_) | refine WL.efN rfl rfl (Ef.store 4 tab_ok rfl rfl rfl rfl rfl rfl rfl rfl ?_) | refine WL.efN rfl rfl (Ef.store 5 tab_ok rfl rfl rfl rfl rfl rfl rfl rfl ?_) | refine WL.efN rfl rfl (Ef.store 6 tab_ok rfl rfl rfl rfl rfl rfl rfl rfl ?_)
   refine zN (zU (zG (zR 2 rfl ?_)))
   refine yA ?_
   refine zR 1 rfl ?_
   refine yD (r := by apply Rd.add; (first | exact Rd.blk 0 rfl | exact Rd.blk 1 rfl | exact Rd.blk 2 rfl | exact Rd.blk 3 rfl | exact Rd.blk 4 rfl | exact Rd.blk 5 rfl | exact Rd.blk 6 rfl)) (k := ?_)
   refine zR 1 rfl ?_
   refine WG.callV (v := .int .i64 (mod (mod ((a0 : Int) + (i : Int) * s) (m : Int) + s) (m : Int))) en40 rfl rfl qD (CallOp.mk' rfl rfl rfl rfl) (fun _ => rfl) (fun hg => Mod_V (by constructor <;> omega)) ?_
   refine zR 1 rfl (zN (zL (zU (zG (zR 1 rfl ?_)))))
   refine yS ?_
   refine zR 1 rfl (zN ?_)
   rw [way_step _ _ _ _ hm.1]
   refine WE.again ((i + 1, j - 1, a58, c58)) (by show i + 1 + (j - 1) = q; omega) (by show j - 1 < j; omega) ⟨rfl, vint (by show (j : Int) - 1 = ((j - 1 : Nat) : Int); omega), rfl, rfl, rfl, rfl, rfl⟩ (RLe.refl _) (by dsimp only [setAll, List.set_cons_zero, List.set_cons_succ]; rw [wayR_snoc]; exact qS)
  ·try dsimp only at hc0
   obtain rfl : j = 0 := by omega
   obtain rfl : i = q := by omega
   refine zX ?_
   refine wx (wx (zY (zU (zQ (zQ ?_)))))
   refine W.regionQ _ mixed qK ?_
   refine zR 1 rfl ?_
   refine yD (r := by apply Rd.add; (first | exact Rd.blk 0 rfl | exact Rd.blk 1 rfl | exact Rd.blk 2 rfl | exact Rd.blk 3 rfl | exact Rd.blk 4 rfl | exact Rd.blk 5 rfl | exact Rd.blk 6 rfl)) (k := ?_)
   refine zR 3 rfl ?_
   refine yP ?_
   refine yJ (r := by apply Rd.addC; (first | exact Rd.blkC 0 rfl | exact Rd.blkC 1 rfl | exact Rd.blkC 2 rfl | exact Rd.blkC 3 rfl | exact Rd.blkC 4 rfl | exact Rd.blkC 5 rfl | exact Rd.blkC 6 rfl)) (k := ?_)
   refine gI ?_
   refine yJ (r := by (first | (apply RS.rdC; assumption) | exact Rd.slC 0 rfl | exact Rd.slC 1 rfl | exact Rd.slC 2 rfl | exact Rd.slC 3 rfl | exact Rd.slC 4 rfl | exact Rd.slC 5 rfl | exact Rd.slC 6 rfl)) (k := ?_)
   refine yP ?_
   refine yJ (r := by apply Rd.addC; (first | exact Rd.blkC 0 rfl | exact Rd.blkC 1 rfl | exact Rd.blkC 2 rfl | exact Rd.blkC 3 rfl | exact Rd.blkC 4 rfl | exact Rd.blkC 5 rfl | exact Rd.blkC 6 rfl)) (k := ?_)
   refine gI ?_
   refine yJ (r := by (first | (apply RS.rdC; assumption) | exact Rd.slC 0 rfl | exact Rd.slC 1 rfl | exact Rd.slC 2 rfl | exact Rd.slC 3 rfl | exact Rd.slC 4 rfl | exact Rd.slC 5 rfl | exact Rd.slC 6 rfl)) (k := ?_)
   refine yP ?_
   refine yN ?_
   refine zN (zU ?_)
   refine cC rfl ?_ ?_ <;> intro hc1
   ·try simp only [zk] at hc1
    exfalso
    obtain ⟨h1, h2⟩ := hc1
    have hl : 1 < (wayR (a0 : Int) s m i).length := by omega
    have h3 : nth (wayR (a0 : Int) s m i) 0 = nth (wayR (a0 : Int) s m i) 1 := h2
    rw [nth_eq (by omega), nth_eq hl] at h3
    exact (List.pairwise_iff_getElem.1 hwn 0 1 qO hl qD) h3
   ·try simp only [zk] at hc1
    refine zK (zU ?_)
    refine W.cap 0 rfl ?_
    intro hcap
    refine W.freeze (enc := encI) (xs := wayR (a0 : Int) s m i) 0 rfl ?_
    intro R2 hR2 hrt
    have hf1 := hf1.mono hR2
    refine zQ (zG ?_)
    refine yD (r := by (first | exact Rd.blk 0 rfl | exact Rd.blk 1 rfl | exact Rd.blk 2 rfl | exact Rd.blk 3 rfl | exact Rd.blk 4 rfl | exact Rd.blk 5 rfl | exact Rd.blk 6 rfl)) (k := ?_)
    first | refine WL.efN rfl rfl (Ef.store0 0 tab_ok rfl rfl rfl rfl rfl rfl rfl rfl ?_) | refine WL.efN rfl rfl (Ef.store0 1 tab_ok rfl rfl rfl rfl rfl rfl rfl rfl ?_) | refine WL.efN rfl rfl (Ef.store0 2 tab_ok rfl rfl rfl rfl rfl rfl rfl rfl ?_) | refine WL.efN rfl rfl (Ef.store0 3 tab_ok rfl rfl rfl rfl rfl rfl rfl rfl ?_) | refine WL.efN rfl rfl (Ef.store0 4 tab_ok rfl rfl rfl rfl rfl rfl rfl rfl ?_) | refine WL.efN rfl rfl (Ef.store0 5 tab_ok rfl rfl rfl rfl rfl rfl rfl rfl ?_) | refine WL.efN rfl rfl (Ef.store0 6 tab_ok rfl rfl rfl rfl rfl rfl rfl rfl ?_)
    refine zN (zU (zT ?_))
    refine WE.retFS (E' := (srcE b a cp xs (c4 + 1 + 1 + 1 + 1 + 1) :: F)) qS tab_ok [_] rfl ⟨⟨_, _, _, rfl, rfl, rfl, qB, rfl⟩, trivial⟩ (by first | exact RLe.refl _ | assumption | exact hR1.trans hR2) ?_
    exact ⟨_, [], rfl, ⟨a1, c1, f1, fc1, ⟨name, wayR (a0 : Int) s m i, mod (nth xs c) (k : Int), (1 + mod (nth xs c4) (3 - 1 + 1)), (1 + mod (nth xs c4) (3 - 1 + 1)) + mod (nth xs (c4 + 1)) 5, cv⟩⟩, _, rfl, ⟨hrt, hf1, by have := (stair_valid hstp).2.2.2; show cv.vals.length ≤ _; omega, by show name.length ≤ _; omega⟩, by simpa using hcap, hcf1, rfl, ⟨by show 0 ≤ mod _ _ ∧ _; omega, by dsimp only; omega, by dsimp only; omega, way_in hm.1, hwn, hstp⟩, rfl, rfl⟩
 ·
  refine W.regionH _ (ES := (.blk b8 [.string (str []), .slice none 0 0, .int .i64 0, .int .i64 0, .int .i64 0, .slice none 0 0, .int .i64 0, .int .i64 0] :: .blk b5 [.slice na nn nc, .slice la m lc, .slice fa nf fc] :: F)) mixed ?_
  refine tP 0 ?_
  refine tP 1 ?_
  refine tP 3 ?_
  refine WA.br2 (i := 2) (j := 4) qK ?_ ?_
  ·
   refine' WS.yl rfl rfl rfl qD (Yl.load1 tab_ok rfl rfl rfl (fun _ => rfl) ?r12 rfl ?h12) qS qR ?_
   case r12 => apply Rd.add; apply Rd.add; (first | exact Rd.blk 0 rfl | exact Rd.blk 1 rfl | exact Rd.blk 2 rfl | exact Rd.blk 3 rfl | exact Rd.blk 4 rfl | exact Rd.blk 5 rfl | exact Rd.blk 6 rfl)
   case h12 => rfl
   refine WA.callAt 3 4 rfl qK en29 rfl rfl qD (CallOp.mkT rfl rfl rfl rfl) rfl (N_C (n := 5) w0 ha (by constructor <;> decide) _) ?_
   rintro _ _ _ _ - ⟨rfl, rfl, rfl, rfl⟩
   refine ⟨RLe.refl _, qS, ?_⟩
   have hm5 := mod_range (nth xs (c4 + 1)) (show (1 : Int) ≤ 5 by decide)
   refine tA 5 ?_
   refine tP 6 ?_
   refine tP 7 ?_
   first | refine WA.effN 8 rfl qK rfl rfl (Ef.store2 0 tab_ok rfl rfl rfl rfl rfl rfl rfl rfl ?_) | refine WA.effN 8 rfl qK rfl rfl (Ef.store2 1 tab_ok rfl rfl rfl rfl rfl rfl rfl rfl ?_) | refine WA.effN 8 rfl qK rfl rfl (Ef.store2 2 tab_ok rfl rfl rfl rfl rfl rfl rfl rfl ?_) | refine WA.effN 8 rfl qK rfl rfl (Ef.store2 3 tab_ok rfl rfl rfl rfl rfl rfl rfl rfl ?_) | refine WA.effN 8 rfl qK rfl rfl (Ef.store2 4 tab_ok rfl rfl rfl rfl rfl rfl rfl rfl ?_) | refine WA.effN 8 rfl qK rfl rfl (Ef.store2 5 tab_ok rfl rfl rfl rfl rfl rfl rfl rfl ?_) | refine WA.effN 8 rfl qK rfl rfl (Ef.store2 6 tab_ok rfl rfl rfl rfl rfl rfl rfl rfl ?_)
   refine ⟨qR, qS, ?_⟩
   refine WA.done qK ?_
   refine WE.cut () trivial ⟨rfl, rfl, rfl, rfl, rfl⟩ (RLe.refl _) qS
  ·
   refine WS.callAt 3 rfl en29 rfl rfl qD (CallOp.mkT rfl rfl rfl rfl) rfl (N_C (n := 5) w0 ha (by constructor <;> decide) _) ?_
   rintro _ _ _ _ - ⟨rfl, rfl, rfl, rfl⟩
   refine ⟨RLe.refl _, qS, ?_⟩
   have hm5 := mod_range (nth xs (c4 + 1)) (show (1 : Int) ≤ 5 by decide)
   refine' WA.yl 2 rfl qK rfl rfl qD (Yl.load1 tab_ok rfl rfl rfl (fun _ => rfl) ?r13 rfl ?h13) qS qR ?_
   case r13 => apply Rd.add; apply Rd.add; (first | exact Rd.blk 0 rfl | exact Rd.blk 1 rfl | exact Rd.blk 2 rfl | exact Rd.blk 3 rfl | exact Rd.blk 4 rfl | exact Rd.blk 5 rfl | exact Rd.blk 6 rfl)
   case h13 => rfl
   refine tA 5 ?_
   refine tP 6 ?_
   refine tP 7 ?_
   first | refine WA.effN 8 rfl qK rfl rfl (Ef.store2 0 tab_ok rfl rfl rfl rfl rfl rfl rfl rfl ?_) | refine WA.effN 8 rfl qK rfl rfl (Ef.store2 1 tab_ok rfl rfl rfl rfl rfl rfl rfl rfl ?_) | refine WA.effN 8 rfl qK rfl rfl (Ef.store2 2 tab_ok rfl rfl rfl rfl rfl rfl rfl rfl ?_) | refine WA.effN 8 rfl qK rfl rfl (Ef.store2 3 tab_ok rfl rfl rfl rfl rfl rfl rfl rfl ?_) | refine WA.effN 8 rfl qK rfl rfl (Ef.store2 4 tab_ok rfl rfl rfl rfl rfl rfl rfl rfl ?_) | refine WA.effN 8 rfl qK rfl rfl (Ef.store2 5 tab_ok rfl rfl rfl rfl rfl rfl rfl rfl ?_) | refine WA.effN 8 rfl qK rfl rfl (Ef.store2 6 tab_ok rfl rfl rfl rfl rfl rfl rfl rfl ?_)
   refine ⟨qR, qS, ?_⟩
   refine WA.done qK ?_
   refine WE.cut () trivial ⟨rfl, rfl, rfl, rfl, rfl⟩ (RLe.refl _) qS

theorem PortK_C {k : Nat} (hk : k = 1 ∨ k = 2) {R : Ro} {b : Nat} {a : Option Addr} {cp : Nat} {xs : List Int} {c : Nat} (w0 : World) (ha : K.RS R 1 encI a xs) : FnAt Tryz.prog 20 [.pointer (some ⟨b, 0, none⟩), .int .i64 (k : Int)] w0 R (srcE b a cp xs c) (fun v R' e' N => ∃ (L : Ln) (aw at_ : Option Addr) (cw ct cn : Nat), v = .agg #[.int .i64 L.kind, .int .i64 L.cap, .int .i64 L.n, .slice aw L.w.length cw, .slice at_ L.tb.length ct] ∧ K.RS R' 1 encI aw L.w ∧ K.RS R' 1 encI at_ L.tb ∧ DrawP k L ∧ e' = srcE b a cp xs cn ∧ N = []) := by
 rcases hk with rfl | rfl
 ·exact Port1_C w0 ha
 ·exact Port2_C w0 ha
set_option maxHeartbeats 8000000 in
theorem Net24_C {R : Ro} {b : Nat} {a : Option Addr} {cp : Nat} {xs : List Int} {c : Nat} (w0 : World) (ha : K.RS R 1 encI a xs) {nl nf : Nat} (hnl4 : 1 ≤ nl ∧ nl ≤ 4) (hnf4 : nf ≤ 4) : FnAt Tryz.prog 7 [.pointer (some ⟨b, 0, none⟩), .int .i64 (nl : Int), .int .i64 (nf : Int)] w0 R (srcE b a cp xs c) (fun v R' e' N => ∃ (k : Nat) (ms : List LnM) (fs : List FlM) (na la fa : Option Addr) (nc lc fc cn : Nat), v = .agg #[.slice na (nm4.take ms.length).length nc, .slice la ms.length lc, .slice fa fs.length fc] ∧ (k = 1 ∨ k = 2) ∧ (1 ≤ ms.length ∧ ms.length ≤ nl) ∧ fs.length ≤ nf ∧ K.RS R' 1 encT na (nm4.take ms.length) ∧ K.RS R' 5 encLn la ms ∧ K.RS R' 8 encFl fa fs ∧ (∀ m ∈ ms, OkLn R' m ∧ DrawP k m.L) ∧ (∀ x ∈ fs, OkFl R' x ∧ (x.f.route.length ≤ x.c1 ∧ x.f.cv.vals.length ≤ x.c2) ∧ DrawF k ms.length x.f) ∧ fs.map FlM.nm = nf5.take fs.length ∧ ((nm4.take ms.length).length ≤ nc ∧ ms.length ≤ lc ∧ fs.length ≤ fc) ∧ e' = srcE b a cp xs cn ∧ N = []) := by
 intro F
 refine fE 64 Tryz.func7 ?_
 refine zQ (zG ?_)
 refine zA fun b6 => ?_
 refine zN (zU (zQ (zG ?_)))
 refine zA fun b7 => ?_
 refine zN (zU (zQ (zG (zR 1 rfl ?_))))
 refine WL.callAt 2 en19 rfl rfl qD (CallOp.mkT rfl rfl rfl rfl) rfl (Range_C (lo := 1) (hi := 2) w0 ha qO qO _) ?_
 rintro _ _ _ _ - ⟨rfl, rfl, rfl, rfl⟩
 obtain ⟨k, hkv, hk⟩ : ∃ k : Nat, 1 + mod (nth xs c) (2 - 1 + 1) = (k : Int) ∧ (k = 1 ∨ k = 2) := by
  have := mod_range (nth xs c) (show (1 : Int) ≤ 2 - 1 + 1 by omega)
  exact ⟨(1 + mod (nth xs c) (2 - 1 + 1)).toNat, by omega, by omega⟩
 rw [hkv]
 refine zR 1 rfl (zN (zU (zQ ?_)))
 refine W.nil 33 5 qD ?_
 refine W.nil 9 1 qD ?_
 refine zQ (zG (zR 2 rfl ?_))
 refine WL.callAt 4 en19 rfl rfl qD (CallOp.mkT rfl rfl rfl rfl) rfl (Range_C (lo := 1) (hi := (nl : Int)) w0 ha qO qO _) ?_
 rintro _ _ _ _ - ⟨rfl, rfl, rfl, rfl⟩
 obtain ⟨n, hnv, hn⟩ : ∃ n : Nat, 1 + mod (nth xs (c + 1)) ((nl : Int) - 1 + 1) = (n : Int) ∧ 1 ≤ n ∧ n ≤ nl := by
  have := mod_range (nth xs (c + 1)) (show (1 : Int) ≤ (nl : Int) - 1 + 1 by omega)
  exact ⟨(1 + mod (nth xs (c + 1)) ((nl : Int) - 1 + 1)).toNat, by omega, by omega⟩
 rw [hnv]
 refine zR 1 rfl (zN (zU (zB ?_)))
 refine W.loopR (β := Nat × List (List UInt8) × List LnM × Option Addr × Nat × Option Addr × Nat × Nat × Ro) (fun (j, ns, ms, a1, c1, a2, c2, cn, Rk) => j + ms.length = n ∧ ns = nm4.take ms.length ∧ RLe R Rk ∧ ∀ m ∈ ms, OkLn Rk m ∧ DrawP k m.L) (fun (j, ns, ms, a1, c1, a2, c2, cn, Rk) => [(9, true, .int .i64 (j : Int))]) [0, 2, 6, 7, 8] [_, _, _, _, _] [] _ rfl (fun (j, ns, ms, a1, c1, a2, c2, cn, Rk) => [(0, .sl 9 1 a1 c1 (ns.map encT)), (1, .sl 33 5 a2 c2 (ms.map encLn)), (2, .blk b7 [.slice a1 ns.length c1, .slice a2 ms.length c2, .slice none 0 0]), (4, srcE b a cp xs cn)]) (fun (j, ns, ms, a1, c1, a2, c2, cn, Rk) => Rk) (fun (j, ns, ms, a1, c1, a2, c2, cn, Rk) => j) ((n, [], [], none, 0, none, 0, c + 1 + 1, R)) (⟨by simp, rfl, RLe.refl _, fun m h => (by cases h)⟩) ⟨rfl, rfl, rfl, rfl, rfl, rfl, rfl⟩ (RLe.refl _) qS ?_
 intro zz hst
 obtain ⟨j, ns, ms, a1, c1, a2, c2, cn, Rk⟩ := zz
 dsimp only [zipE, setAll, List.cons_append, List.nil_append, List.set_cons_zero, List.set_cons_succ] at hst ⊢
 obtain ⟨hj, hns, hRk, hom⟩ := hst
 have ha := ha.mono hRk
 have hnl : ns.length = ms.length := by rw [hns, List.length_take]; show min _ 4 = _; omega
 refine zQ (zQ (zG (zR 2 rfl (zN (zU ?_)))))
 refine cD rfl ?_ ?_ <;> intro hc0
 ·try dsimp only at hc0
  have htk : ns ++ [nth nm4 (ns.length % 4)] = nm4.take (ms.length + 1) := by
   rw [hnl, Nat.mod_eq_of_lt (by omega), hns]
   exact (take_nth (show ms.length < nm4.length by show _ < 4; omega)).symm
  refine zK (zU (zQ (zB (zQ ?_))))
  refine W.regionD _ (.blk b6 [.slice none 0 0, .slice none 0 0, .slice none 0 0] :: F) (.blk b7 [.slice a1 ns.length c1, .slice a2 ms.length c2, .slice none 0 0] :: .blk b6 [.slice none 0 0, .slice none 0 0, .slice none 0 0] :: F) [12] mixed ?_
  refine vP 0 ?_
  refine vD 1 (r := by apply Rd.add; (first | exact Rd.blk 0 rfl | exact Rd.blk 1 rfl | exact Rd.blk 2 rfl | exact Rd.blk 3 rfl | exact Rd.blk 4 rfl | exact Rd.blk 5 rfl | exact Rd.blk 6 rfl | exact Rd.blk 7 rfl)) (k := ?_)
  refine vP 3 ?_
  refine vD 4 (r := by apply Rd.add; (first | exact Rd.blk 0 rfl | exact Rd.blk 1 rfl | exact Rd.blk 2 rfl | exact Rd.blk 3 rfl | exact Rd.blk 4 rfl | exact Rd.blk 5 rfl | exact Rd.blk 6 rfl | exact Rd.blk 7 rfl)) (k := ?_)
  refine vP 5 ?_
  refine VA.take2 6 rfl qK qK qK rfl qK qK rfl rfl qD (Yl.rem rfl rfl rfl (fun _ => rfl) qN qN) qS qR qS ?_
  refine VA.one (i := 2) qK ?_
  refine VS.eff rfl rfl rfl qD (Ef.buildSliceD (enc := encT) (parts := [.const (.string ⟨#[97]⟩), .const (.string ⟨#[98]⟩), .const (.string ⟨#[99]⟩), .const (.string ⟨#[100]⟩)]) nm4 tab_ok rfl rfl rfl rfl rfl rfl rfl rfl qD qD (fun a22 => ?_))
  refine ⟨by first | exact RLe.refl _ | assumption, qS, (fun _ => qS), ?_⟩
  refine VA.take2 7 rfl qK qK qK rfl qK qK rfl rfl qD (Yl.indexN tab_ok rfl rfl rfl rfl rfl rfl (fun _ => rfl) (by intro _; (show _ < 4; exact Nat.mod_lt _ qD)) qH) qS qR qS ?_
  refine VA.one (i := 8) qK ?_
  refine' VS.yl rfl rfl rfl qD (Yl.load1 tab_ok rfl rfl rfl (fun _ => rfl) ?r3 rfl ?h3) qS qR (fun _ => qS) ?_
  case r3 => first | exact Rd.slD 0 rfl (by show _ < 4; exact Nat.mod_lt _ qD) | exact Rd.slD 1 rfl (by show _ < 4; exact Nat.mod_lt _ qD) | exact Rd.slD 2 rfl (by show _ < 4; exact Nat.mod_lt _ qD)
  case h3 => rfl
  refine VA.one (i := 9) qK ?_
  refine VS.eff rfl rfl rfl qD (Ef.buildSliceD (enc := encT) (parts := [.tmp 28]) [nth nm4 (ns.length % 4)] tab_ok rfl rfl rfl rfl rfl rfl rfl rfl qD qD (fun a29 => ?_))
  refine ⟨by first | exact RLe.refl _ | assumption, qS, (fun _ => qS), ?_⟩
  refine VA.one (i := 10) qK ?_
  first | refine VS.eff rfl rfl rfl (by decide) (Ef.appendD 1 0 tab_ok rfl rfl rfl rfl rfl rfl rfl rfl rfl rfl rfl (fun _ _ => rfl) (by simp only [List.length_cons, List.length_nil]; omega) (by simp only [List.length_cons, List.length_nil]; omega) (fun a30 c30 ha30 => ?_)) | refine VS.eff rfl rfl rfl (by decide) (Ef.appendD 2 0 tab_ok rfl rfl rfl rfl rfl rfl rfl rfl rfl rfl rfl (fun _ _ => rfl) (by simp only [List.length_cons, List.length_nil]; omega) (by simp only [List.length_cons, List.length_nil]; omega) (fun a30 c30 ha30 => ?_)) | refine VS.eff rfl rfl rfl (by decide) (Ef.appendD 3 0 tab_ok rfl rfl rfl rfl rfl rfl rfl rfl rfl rfl rfl (fun _ _ => rfl) (by simp only [List.length_cons, List.length_nil]; omega) (by simp only [List.length_cons, List.length_nil]; omega) (fun a30 c30 ha30 => ?_)) | refine VS.eff rfl rfl rfl (by decide) (Ef.appendD 4 0 tab_ok rfl rfl rfl rfl rfl rfl rfl rfl rfl rfl rfl (fun _ _ => rfl) (by simp only [List.length_cons, List.length_nil]; omega) (by simp only [List.length_cons, List.length_nil]; omega) (fun a30 c30 ha30 => ?_)) | refine VS.eff rfl rfl rfl (by decide) (Ef.appendD 5 0 tab_ok rfl rfl rfl rfl rfl rfl rfl rfl rfl rfl rfl (fun _ _ => rfl) (by simp only [List.length_cons, List.length_nil]; omega) (by simp only [List.length_cons, List.length_nil]; omega) (fun a30 c30 ha30 => ?_)) | refine VS.eff rfl rfl rfl (by decide) (Ef.appendD 6 0 tab_ok rfl rfl rfl rfl rfl rfl rfl rfl rfl rfl rfl (fun _ _ => rfl) (by simp only [List.length_cons, List.length_nil]; omega) (by simp only [List.length_cons, List.length_nil]; omega) (fun a30 c30 ha30 => ?_)) | refine VS.eff rfl rfl rfl (by decide) (Ef.appendD 7 0 tab_ok rfl rfl rfl rfl rfl rfl rfl rfl rfl rfl rfl (fun _ _ => rfl) (by simp only [List.length_cons, List.length_nil]; omega) (by simp only [List.length_cons, List.length_nil]; omega) (fun a30 c30 ha30 => ?_)) | refine VS.eff rfl rfl rfl (by decide) (Ef.appendR 0 tab_ok rfl rfl rfl rfl rfl rfl rfl rfl rfl rfl (by assumption) (fun _ _ => rfl) (by (try dsimp only); omega) (by omega) (fun a30 c30 ha30 => ?_)) | refine VS.eff rfl rfl rfl (by decide) (Ef.appendR 1 tab_ok rfl rfl rfl rfl rfl rfl rfl rfl rfl rfl (by assumption) (fun _ _ => rfl) (by (try dsimp only); omega) (by omega) (fun a30 c30 ha30 => ?_)) | refine VS.eff rfl rfl rfl (by decide) (Ef.appendR 2 tab_ok rfl rfl rfl rfl rfl rfl rfl rfl rfl rfl (by assumption) (fun _ _ => rfl) (by (try dsimp only); omega) (by omega) (fun a30 c30 ha30 => ?_)) | refine VS.eff rfl rfl rfl (by decide) (Ef.appendR 3 tab_ok rfl rfl rfl rfl rfl rfl rfl rfl rfl rfl (by assumption) (fun _ _ => rfl) (by (try dsimp only); omega) (by omega) (fun a30 c30 ha30 => ?_)) | refine VS.eff rfl rfl rfl (by decide) (Ef.appendR 4 tab_ok rfl rfl rfl rfl rfl rfl rfl rfl rfl rfl (by assumption) (fun _ _ => rfl) (by (try dsimp only); omega) (by omega) (fun a30 c30 ha30 => ?_)) | refine VS.eff rfl rfl rfl (by decide) (Ef.appendR 5 tab_ok rfl rfl rfl rfl rfl rfl rfl rfl rfl rfl (by assumption) (fun _ _ => rfl) (by (try dsimp only); omega) (by omega) (fun a30 c30 ha30 => ?_)) | refine VS.eff rfl rfl rfl (by decide) (Ef.appendR 6 tab_ok rfl rfl rfl rfl rfl rfl rfl rfl rfl rfl (by assumption) (fun _ _ => rfl) (by (try dsimp only); omega) (by omega) (fun a30 c30 ha30 => ?_)) | refine VS.eff rfl rfl rfl (by decide) (Ef.appendR 7 tab_ok rfl rfl rfl rfl rfl rfl rfl rfl rfl rfl (by assumption) (fun _ _ => rfl) (by (try dsimp only); omega) (by omega) (fun a30 c30 ha30 => ?_))
  refine ⟨by first | exact RLe.refl _ | assumption, qS, (fun _ => qS), ?_⟩
  refine vP 11 ?_
  refine VA.one (i := 12) qK ?_
  first | refine VS.effN rfl rfl rfl (Ef.store 0 tab_ok rfl rfl rfl rfl rfl rfl rfl rfl ?_) | refine VS.effN rfl rfl rfl (Ef.store 1 tab_ok rfl rfl rfl rfl rfl rfl rfl rfl ?_) | refine VS.effN rfl rfl rfl (Ef.store 2 tab_ok rfl rfl rfl rfl rfl rfl rfl rfl ?_) | refine VS.effN rfl rfl rfl (Ef.store 3 tab_ok rfl rfl rfl rfl rfl rfl rfl rfl ?_) | refine VS.effN rfl rfl rfl (Ef.store 4 tab_ok rfl rfl rfl rfl rfl rfl rfl rfl ?_) | refine VS.effN rfl rfl rfl (Ef.store 5 tab_ok rfl rfl rfl rfl rfl rfl rfl rfl ?_) | refine VS.effN rfl rfl rfl (Ef.store 6 tab_ok rfl rfl rfl rfl rfl rfl rfl rfl ?_) | refine VS.effN rfl rfl rfl (Ef.store 7 tab_ok rfl rfl rfl rfl rfl rfl rfl rfl ?_)
  refine ⟨by first | exact RLe.refl _ | assumption, qS, (noD qK), ?_⟩
  refine VA.done qK ?_
  refine zU ?_
  refine W.regionD _ (.blk b6 [.slice none 0 0, .slice none 0 0, .slice none 0 0] :: F) (.blk b7 [.slice a30 (ns ++ [nth nm4 (ns.length % 4)]).length c30, .slice a2 ms.length c2, .slice none 0 0] :: .blk b6 [.slice none 0 0, .slice none 0 0, .slice none 0 0] :: F) [8] mixed ?_
  refine vP 0 ?_
  refine vD 1 (r := by apply Rd.add; (first | exact Rd.blk 0 rfl | exact Rd.blk 1 rfl | exact Rd.blk 2 rfl | exact Rd.blk 3 rfl | exact Rd.blk 4 rfl | exact Rd.blk 5 rfl | exact Rd.blk 6 rfl | exact Rd.blk 7 rfl)) (k := ?_)
  refine vP 2 ?_
  refine vP 3 ?_
  refine VA.one (i := 4) qK ?_
  refine VS.callAt 6 rfl en20 rfl rfl qD (CallOp.mkT rfl rfl rfl rfl) rfl (PortK_C hk w0 ha _) ?_
  rintro _ R2 _ _ hR2 ⟨L, aw, at_, cw, ct, cq, rfl, hf1, hf2, hdp, rfl, rfl⟩
  refine ⟨by first | exact hR2 | assumption, qS, (fun _ => qS), ?_⟩
  refine VA.one (i := 5) qK ?_
  refine VS.eff rfl rfl rfl qD (Ef.buildSliceD (enc := encLn) (parts := [.tmp 36]) [⟨aw, cw, at_, ct, L⟩] tab_ok rfl rfl rfl rfl rfl rfl rfl rfl qD qD (fun a37 => ?_))
  refine ⟨by first | exact RLe.refl _ | assumption, qS, (fun _ => qS), ?_⟩
  refine VA.one (i := 6) qK ?_
  first | refine VS.eff rfl rfl rfl (by decide) (Ef.appendD 1 0 tab_ok rfl rfl rfl rfl rfl rfl rfl rfl rfl rfl rfl (fun _ _ => rfl) (by simp only [List.length_cons, List.length_nil]; omega) (by simp only [List.length_cons, List.length_nil]; omega) (fun a38 c38 ha38 => ?_)) | refine VS.eff rfl rfl rfl (by decide) (Ef.appendD 2 0 tab_ok rfl rfl rfl rfl rfl rfl rfl rfl rfl rfl rfl (fun _ _ => rfl) (by simp only [List.length_cons, List.length_nil]; omega) (by simp only [List.length_cons, List.length_nil]; omega) (fun a38 c38 ha38 => ?_)) | refine VS.eff rfl rfl rfl (by decide) (Ef.appendD 3 0 tab_ok rfl rfl rfl rfl rfl rfl rfl rfl rfl rfl rfl (fun _ _ => rfl) (by simp only [List.length_cons, List.length_nil]; omega) (by simp only [List.length_cons, List.length_nil]; omega) (fun a38 c38 ha38 => ?_)) | refine VS.eff rfl rfl rfl (by decide) (Ef.appendD 4 0 tab_ok rfl rfl rfl rfl rfl rfl rfl rfl rfl rfl rfl (fun _ _ => rfl) (by simp only [List.length_cons, List.length_nil]; omega) (by simp only [List.length_cons, List.length_nil]; omega) (fun a38 c38 ha38 => ?_)) | refine VS.eff rfl rfl rfl (by decide) (Ef.appendD 5 0 tab_ok rfl rfl rfl rfl rfl rfl rfl rfl rfl rfl rfl (fun _ _ => rfl) (by simp only [List.length_cons, List.length_nil]; omega) (by simp only [List.length_cons, List.length_nil]; omega) (fun a38 c38 ha38 => ?_)) | refine VS.eff rfl rfl rfl (by decide) (Ef.appendD 6 0 tab_ok rfl rfl rfl rfl rfl rfl rfl rfl rfl rfl rfl (fun _ _ => rfl) (by simp only [List.length_cons, List.length_nil]; omega) (by simp only [List.length_cons, List.length_nil]; omega) (fun a38 c38 ha38 => ?_)) | refine VS.eff rfl rfl rfl (by decide) (Ef.appendD 7 0 tab_ok rfl rfl rfl rfl rfl rfl rfl rfl rfl rfl rfl (fun _ _ => rfl) (by simp only [List.length_cons, List.length_nil]; omega) (by simp only [List.length_cons, List.length_nil]; omega) (fun a38 c38 ha38 => ?_)) | refine VS.eff rfl rfl rfl (by decide) (Ef.appendR 0 tab_ok rfl rfl rfl rfl rfl rfl rfl rfl rfl rfl (by assumption) (fun _ _ => rfl) (by (try dsimp only); omega) (by omega) (fun a38 c38 ha38 => ?_)) | refine VS.eff rfl rfl rfl (by decide) (Ef.appendR 1 tab_ok rfl rfl rfl rfl rfl rfl rfl rfl rfl rfl (by assumption) (fun _ _ => rfl) (by (try dsimp only); omega) (by omega) (fun a38 c38 ha38 => ?_)) | refine VS.eff rfl rfl rfl (by decide) (Ef.appendR 2 tab_ok rfl rfl rfl rfl rfl rfl rfl rfl rfl rfl (by assumption) (fun _ _ => rfl) (by (try dsimp only); omega) (by omega) (fun a38 c38 ha38 => ?_)) | refine VS.eff rfl rfl rfl (by decide) (Ef.appendR 3 tab_ok rfl rfl rfl rfl rfl rfl rfl rfl rfl rfl (by assumption) (fun _ _ => rfl) (by (try dsimp only); omega) (by omega) (fun a38 c38 ha38 => ?_)) | refine VS.eff rfl rfl rfl (by decide) (Ef.appendR 4 tab_ok rfl rfl rfl rfl rfl rfl rfl rfl rfl rfl (by assumption) (fun _ _ => rfl) (by (try dsimp only); omega) (by omega) (fun a38 c38 ha38 => ?_)) | refine VS.eff rfl rfl rfl (by decide) (Ef.appendR 5 tab_ok rfl rfl rfl rfl rfl rfl rfl rfl rfl rfl (by assumption) (fun _ _ => rfl) (by (try dsimp only); omega) (by omega) (fun a38 c38 ha38 => ?_)) | refine VS.eff rfl rfl rfl (by decide) (Ef.appendR 6 tab_ok rfl rfl rfl rfl rfl rfl rfl rfl rfl rfl (by assumption) (fun _ _ => rfl) (by (try dsimp only); omega) (by omega) (fun a38 c38 ha38 => ?_)) | refine VS.eff rfl rfl rfl (by decide) (Ef.appendR 7 tab_ok rfl rfl rfl rfl rfl rfl rfl rfl rfl rfl (by assumption) (fun _ _ => rfl) (by (try dsimp only); omega) (by omega) (fun a38 c38 ha38 => ?_))
  refine ⟨by first | exact RLe.refl _ | assumption, qS, (fun _ => qS), ?_⟩
  refine vP 7 ?_
  refine VA.one (i := 8) qK ?_
  first | refine VS.effN rfl rfl rfl (Ef.store 0 tab_ok rfl rfl rfl rfl rfl rfl rfl rfl ?_) | refine VS.effN rfl rfl rfl (Ef.store 1 tab_ok rfl rfl rfl rfl rfl rfl rfl rfl ?_) | refine VS.effN rfl rfl rfl (Ef.store 2 tab_ok rfl rfl rfl rfl rfl rfl rfl rfl ?_) | refine VS.effN rfl rfl rfl (Ef.store 3 tab_ok rfl rfl rfl rfl rfl rfl rfl rfl ?_) | refine VS.effN rfl rfl rfl (Ef.store 4 tab_ok rfl rfl rfl rfl rfl rfl rfl rfl ?_) | refine VS.effN rfl rfl rfl (Ef.store 5 tab_ok rfl rfl rfl rfl rfl rfl rfl rfl ?_) | refine VS.effN rfl rfl rfl (Ef.store 6 tab_ok rfl rfl rfl rfl rfl rfl rfl rfl ?_) | refine VS.effN rfl rfl rfl (Ef.store 7 tab_ok rfl rfl rfl rfl rfl rfl rfl rfl ?_)
  refine ⟨by first | exact RLe.refl _ | assumption, qS, (noD qK), ?_⟩
  refine VA.done qK ?_
  refine zL (zU (zG (zR 1 rfl ?_)))
  refine yS ?_
  refine zR 1 rfl (zN ?_)
  refine WE.again ((j - 1, ns ++ [nth nm4 (ns.length % 4)], ms ++ [⟨aw, cw, at_, ct, L⟩], a30, c30, a38, c38, cq, R2)) (⟨by rw [List.length_append]; show j - 1 + (ms.length + 1) = n; omega, by rw [List.length_append]; exact htk, hRk.trans hR2, fun m hm => by
   rcases List.mem_append.1 hm with h | h
   ·exact ⟨(hom m h).1.mono hR2, (hom m h).2⟩
   ·rw [List.mem_singleton.1 h]; exact ⟨⟨hf1, hf2⟩, hdp⟩⟩) (by show j - 1 < j; omega) ⟨vint (by show (j : Int) - 1 = ((j - 1 : Nat) : Int); omega), rfl, rfl, rfl, rfl, rfl, rfl⟩ (RLe.refl _) qS
 ·try dsimp only at hc0
  obtain rfl : j = 0 := by omega
  subst hns
  refine zX ?_
  refine wx (wx (zY (zU (zQ ?_))))
  refine W.cap 0 rfl ?_
  intro hcl1
  refine W.cap 1 rfl ?_
  intro hcl2
  refine W.freeze (enc := encT) (xs := nm4.take ms.length) 0 rfl ?_
  intro R3 hR3 hna
  refine W.freeze (enc := encLn) (xs := ms) 0 rfl ?_
  intro R4 hR4 hla
  have hna := hna.mono hR4
  have ha := ha.mono (hR3.trans hR4)
  have hRR := (hRk.trans hR3).trans hR4
  refine W.nil 39 8 qD ?_
  refine zQ (zG (zR 2 rfl ?_))
  refine WL.callAt 3 en19 rfl rfl qD (CallOp.mkT rfl rfl rfl rfl) rfl (Range_C (lo := 0) (hi := (nf : Int)) w0 ha qO qO _) ?_
  rintro _ _ _ _ - ⟨rfl, rfl, rfl, rfl⟩
  obtain ⟨nq, hqv, hnq⟩ : ∃ n : Nat, 0 + mod (nth xs cn) ((nf : Int) - 0 + 1) = (n : Int) ∧ n ≤ nf := by
   have := mod_range (nth xs cn) (show (1 : Int) ≤ (nf : Int) - 0 + 1 by omega)
   exact ⟨(0 + mod (nth xs cn) ((nf : Int) - 0 + 1)).toNat, by omega, by omega⟩
  rw [hqv]
  refine zR 1 rfl (zN (zU (zB ?_)))
  refine W.loopR (β := Nat × List FlM × Option Addr × Nat × Nat × Ro) (fun (j, fs, a3, c3, cn, Rj) => j + fs.length = nq ∧ RLe R4 Rj ∧ fs.map FlM.nm = nf5.take fs.length ∧ ∀ x ∈ fs, OkFl Rj x ∧ (x.f.route.length ≤ x.c1 ∧ x.f.cv.vals.length ≤ x.c2) ∧ DrawF k ms.length x.f) (fun (j, fs, a3, c3, cn, Rj) => [(10, true, .int .i64 (j : Int))]) [0, 6, 7, 8] [_, _, _, _] [] _ rfl (fun (j, fs, a3, c3, cn, Rj) => [(0, .sl 39 8 a3 c3 (fs.map encFl)), (1, .blk b7 [.slice a1 (nm4.take ms.length).length c1, .slice a2 ms.length c2, .slice a3 fs.length c3]), (3, srcE b a cp xs cn)]) (fun (j, fs, a3, c3, cn, Rj) => Rj) (fun (j, fs, a3, c3, cn, Rj) => j) ((nq, [], none, 0, cn + 1, R4)) (⟨by simp, RLe.refl _, rfl, fun x h => (by cases h)⟩) ⟨rfl, rfl, rfl, rfl, rfl, rfl⟩ (RLe.refl _) qS ?_
  intro zz hst
  obtain ⟨j, fs, a3, c3, cn, Rj⟩ := zz
  dsimp only [zipE, setAll, List.cons_append, List.nil_append, List.set_cons_zero, List.set_cons_succ] at hst ⊢
  obtain ⟨hj, hRj, hfn, hof⟩ := hst
  have ha := ha.mono hRj
  have hfl5 : (fs.map FlM.nm).length = fs.length := List.length_map ..
  refine zQ (zQ (zG (zR 2 rfl (zN (zU ?_)))))
  refine cD rfl ?_ ?_ <;> intro hc1
  ·try dsimp only at hc1
   have htf : nf5.take fs.length ++ [nth nf5 (fs.length % 5)] = nf5.take (fs.length + 1) := by
    rw [Nat.mod_eq_of_lt (by omega)]
    exact (take_nth (show fs.length < nf5.length by show _ < 5; omega)).symm
   refine zK (zU (zQ (zB ?_)))
   refine W.regionD _ (.blk b6 [.slice none 0 0, .slice none 0 0, .slice none 0 0] :: F) (.blk b7 [.slice a1 (nm4.take ms.length).length c1, .slice a2 ms.length c2, .slice a3 fs.length c3] :: .blk b6 [.slice none 0 0, .slice none 0 0, .slice none 0 0] :: F) [16] mixed ?_
   refine vP 0 ?_
   refine vD 1 (r := by apply Rd.add; (first | exact Rd.blk 0 rfl | exact Rd.blk 1 rfl | exact Rd.blk 2 rfl | exact Rd.blk 3 rfl | exact Rd.blk 4 rfl | exact Rd.blk 5 rfl | exact Rd.blk 6 rfl | exact Rd.blk 7 rfl)) (k := ?_)
   refine vP 2 ?_
   refine vD 3 (r := by (first | exact Rd.blk 0 rfl | exact Rd.blk 1 rfl | exact Rd.blk 2 rfl | exact Rd.blk 3 rfl | exact Rd.blk 4 rfl | exact Rd.blk 5 rfl | exact Rd.blk 6 rfl | exact Rd.blk 7 rfl)) (k := ?_)
   refine vP 5 ?_
   refine vD 6 (r := by apply Rd.add; (first | exact Rd.blk 0 rfl | exact Rd.blk 1 rfl | exact Rd.blk 2 rfl | exact Rd.blk 3 rfl | exact Rd.blk 4 rfl | exact Rd.blk 5 rfl | exact Rd.blk 6 rfl | exact Rd.blk 7 rfl)) (k := ?_)
   refine vP 7 ?_
   refine VA.take2 8 rfl qK qK qK rfl qK qK rfl rfl qD (Yl.rem rfl rfl rfl (fun _ => rfl) qN qN) qS qR qS ?_
   refine vP 11 ?_
   refine VA.one (i := 4) qK ?_
   refine VS.eff rfl rfl rfl qD (Ef.buildSliceD (enc := encT) (parts := [.const (.string ⟨#[102]⟩), .const (.string ⟨#[103]⟩), .const (.string ⟨#[104]⟩), .const (.string ⟨#[105]⟩), .const (.string ⟨#[106]⟩)]) nf5 tab_ok rfl rfl rfl rfl rfl rfl rfl rfl qD qD (fun a51 => ?_))
   refine ⟨by first | exact RLe.refl _ | assumption, qS, (fun _ => qS), ?_⟩
   refine VA.take2 9 rfl qK qK qK rfl qK qK rfl rfl qD (Yl.indexN tab_ok rfl rfl rfl rfl rfl rfl (fun _ => rfl) (by intro _; (show _ < 5; exact Nat.mod_lt _ qD)) qH) qS qR qS ?_
   refine VA.one (i := 10) qK ?_
   refine' VS.yl rfl rfl rfl qD (Yl.load1 tab_ok rfl rfl rfl (fun _ => rfl) ?r8 rfl ?h8) qS qR (fun _ => qS) ?_
   case r8 => first | exact Rd.slD 0 rfl (by show _ < 5; exact Nat.mod_lt _ qD) | exact Rd.slD 1 rfl (by show _ < 5; exact Nat.mod_lt _ qD) | exact Rd.slD 2 rfl (by show _ < 5; exact Nat.mod_lt _ qD)
   case h8 => rfl
   refine VA.one (i := 12) qK ?_
   refine VS.callAt 4 rfl en21 rfl rfl qD (CallOp.mkT rfl rfl rfl rfl) rfl (Flow24_C (m := ms.length) (k := k) w0 ha hk ⟨by omega, by omega⟩ (nf5_len (fs.length % 5)) _) ?_
   rintro _ R2 _ _ hR2 ⟨x, cq, rfl, hxo, hx1, hx2, hxn, hxd, rfl, rfl⟩
   refine ⟨by first | exact hR2 | assumption, qS, (fun _ => qS), ?_⟩
   refine VA.one (i := 13) qK ?_
   refine VS.eff rfl rfl rfl qD (Ef.buildSliceD (enc := encFl) (parts := [.tmp 59]) [x] tab_ok rfl rfl rfl rfl rfl rfl rfl rfl qD qD (fun a60 => ?_))
   refine ⟨by first | exact RLe.refl _ | assumption, qS, (fun _ => qS), ?_⟩
   refine VA.one (i := 14) qK ?_
   first | refine VS.eff rfl rfl rfl (by decide) (Ef.appendD 1 0 tab_ok rfl rfl rfl rfl rfl rfl rfl rfl rfl rfl rfl (fun _ _ => rfl) (by simp only [List.length_cons, List.length_nil]; omega) (by simp only [List.length_cons, List.length_nil]; omega) (fun a61 c61 ha61 => ?_)) | refine VS.eff rfl rfl rfl (by decide) (Ef.appendD 2 0 tab_ok rfl rfl rfl rfl rfl rfl rfl rfl rfl rfl rfl (fun _ _ => rfl) (by simp only [List.length_cons, List.length_nil]; omega) (by simp only [List.length_cons, List.length_nil]; omega) (fun a61 c61 ha61 => ?_)) | refine VS.eff rfl rfl rfl (by decide) (Ef.appendD 3 0 tab_ok rfl rfl rfl rfl rfl rfl rfl rfl rfl rfl rfl (fun _ _ => rfl) (by simp only [List.length_cons, List.length_nil]; omega) (by simp only [List.length_cons, List.length_nil]; omega) (fun a61 c61 ha61 => ?_)) | refine VS.eff rfl rfl rfl (by decide) (Ef.appendD 4 0 tab_ok rfl rfl rfl rfl rfl rfl rfl rfl rfl rfl rfl (fun _ _ => rfl) (by simp only [List.length_cons, List.length_nil]; omega) (by simp only [List.length_cons, List.length_nil]; omega) (fun a61 c61 ha61 => ?_)) | refine VS.eff rfl rfl rfl (by decide) (Ef.appendD 5 0 tab_ok rfl rfl rfl rfl rfl rfl rfl rfl rfl rfl rfl (fun _ _ => rfl) (by simp only [List.length_cons, List.length_nil]; omega) (by simp only [List.length_cons, List.length_nil]; omega) (fun a61 c61 ha61 => ?_)) | refine VS.eff rfl rfl rfl (by decide) (Ef.appendD 6 0 tab_ok rfl rfl rfl rfl rfl rfl rfl rfl rfl rfl rfl (fun _ _ => rfl) (by simp only [List.length_cons, List.length_nil]; omega) (by simp only [List.length_cons, List.length_nil]; omega) (fun a61 c61 ha61 => ?_)) | refine VS.eff rfl rfl rfl (by decide) (Ef.appendD 7 0 tab_ok rfl rfl rfl rfl rfl rfl rfl rfl rfl rfl rfl (fun _ _ => rfl) (by simp only [List.length_cons, List.length_nil]; omega) (by simp only [List.length_cons, List.length_nil]; omega) (fun a61 c61 ha61 => ?_)) | refine VS.eff rfl rfl rfl (by decide) (Ef.appendR 0 tab_ok rfl rfl rfl rfl rfl rfl rfl rfl rfl rfl (by assumption) (fun _ _ => rfl) (by (try dsimp only); omega) (by omega) (fun a61 c61 ha61 => ?_)) | refine VS.eff rfl rfl rfl (by decide) (Ef.appendR 1 tab_ok rfl rfl rfl rfl rfl rfl rfl rfl rfl rfl (by assumption) (fun _ _ => rfl) (by (try dsimp only); omega) (by omega) (fun a61 c61 ha61 => ?_)) | refine VS.eff rfl rfl rfl (by decide) (Ef.appendR 2 tab_ok rfl rfl rfl rfl rfl rfl rfl rfl rfl rfl (by assumption) (fun _ _ => rfl) (by (try dsimp only); omega) (by omega) (fun a61 c61 ha61 => ?_)) | refine VS.eff rfl rfl rfl (by decide) (Ef.appendR 3 tab_ok rfl rfl rfl rfl rfl rfl rfl rfl rfl rfl (by assumption) (fun _ _ => rfl) (by (try dsimp only); omega) (by omega) (fun a61 c61 ha61 => ?_)) | refine VS.eff rfl rfl rfl (by decide) (Ef.appendR 4 tab_ok rfl rfl rfl rfl rfl rfl rfl rfl rfl rfl (by assumption) (fun _ _ => rfl) (by (try dsimp only); omega) (by omega) (fun a61 c61 ha61 => ?_)) | refine VS.eff rfl rfl rfl (by decide) (Ef.appendR 5 tab_ok rfl rfl rfl rfl rfl rfl rfl rfl rfl rfl (by assumption) (fun _ _ => rfl) (by (try dsimp only); omega) (by omega) (fun a61 c61 ha61 => ?_)) | refine VS.eff rfl rfl rfl (by decide) (Ef.appendR 6 tab_ok rfl rfl rfl rfl rfl rfl rfl rfl rfl rfl (by assumption) (fun _ _ => rfl) (by (try dsimp only); omega) (by omega) (fun a61 c61 ha61 => ?_)) | refine VS.eff rfl rfl rfl (by decide) (Ef.appendR 7 tab_ok rfl rfl rfl rfl rfl rfl rfl rfl rfl rfl (by assumption) (fun _ _ => rfl) (by (try dsimp only); omega) (by omega) (fun a61 c61 ha61 => ?_))
   refine ⟨by first | exact RLe.refl _ | assumption, qS, (fun _ => qS), ?_⟩
   refine vP 15 ?_
   refine VA.one (i := 16) qK ?_
   first | refine VS.effN rfl rfl rfl (Ef.store 0 tab_ok rfl rfl rfl rfl rfl rfl rfl rfl ?_) | refine VS.effN rfl rfl rfl (Ef.store 1 tab_ok rfl rfl rfl rfl rfl rfl rfl rfl ?_) | refine VS.effN rfl rfl rfl (Ef.store 2 tab_ok rfl rfl rfl rfl rfl rfl rfl rfl ?_) | refine VS.effN rfl rfl rfl (Ef.store 3 tab_ok rfl rfl rfl rfl rfl rfl rfl rfl ?_) | refine VS.effN rfl rfl rfl (Ef.store 4 tab_ok rfl rfl rfl rfl rfl rfl rfl rfl ?_) | refine VS.effN rfl rfl rfl (Ef.store 5 tab_ok rfl rfl rfl rfl rfl rfl rfl rfl ?_) | refine VS.effN rfl rfl rfl (Ef.store 6 tab_ok rfl rfl rfl rfl rfl rfl rfl rfl ?_) | refine VS.effN rfl rfl rfl (Ef.store 7 tab_ok rfl rfl rfl rfl rfl rfl rfl rfl ?_)
   refine ⟨by first | exact RLe.refl _ | assumption, qS, (noD qK), ?_⟩
   refine VA.done qK ?_
   refine zL (zU (zG (zR 1 rfl ?_)))
   refine yS ?_
   refine zR 1 rfl (zN ?_)
   refine WE.again ((j - 1, fs ++ [x], a61, c61, cq, R2)) (⟨by rw [List.length_append]; show j - 1 + (fs.length + 1) = nq; omega, hRj.trans hR2, by rw [List.map_append, hfn, List.length_append, List.map_singleton, show FlM.nm x = nth nf5 (fs.length % 5) from hxn]; exact htf, fun y hy => by
    rcases List.mem_append.1 hy with h | h
    ·exact ⟨(hof y h).1.mono hR2, (hof y h).2⟩
    ·rw [List.mem_singleton.1 h]; exact ⟨hxo, ⟨hx1, hx2⟩, hxd⟩⟩) (by show j - 1 < j; omega) ⟨vint (by show (j : Int) - 1 = ((j - 1 : Nat) : Int); omega), rfl, rfl, rfl, rfl, rfl⟩ (RLe.refl _) qS
  ·try dsimp only at hc1
   obtain rfl : j = 0 := by omega
   refine zX ?_
   refine wx (wx (zY (zU ?_)))
   refine W.cap 0 rfl ?_
   intro hcl3
   refine W.freeze (enc := encFl) (xs := fs) 0 rfl ?_
   intro R5 hR5 hfa
   have hRR := hRR.trans (hRj.trans hR5)
   have hna := hna.mono (hRj.trans hR5)
   have hla := hla.mono (hRj.trans hR5)
   refine zQ (zG ?_)
   refine yD (r := by (first | exact Rd.blk 0 rfl | exact Rd.blk 1 rfl | exact Rd.blk 2 rfl | exact Rd.blk 3 rfl | exact Rd.blk 4 rfl | exact Rd.blk 5 rfl | exact Rd.blk 6 rfl | exact Rd.blk 7 rfl)) (k := ?_)
   first | refine WL.efN rfl rfl (Ef.store0 0 tab_ok rfl rfl rfl rfl rfl rfl rfl rfl ?_) | refine WL.efN rfl rfl (Ef.store0 1 tab_ok rfl rfl rfl rfl rfl rfl rfl rfl ?_) | refine WL.efN rfl rfl (Ef.store0 2 tab_ok rfl rfl rfl rfl rfl rfl rfl rfl ?_) | refine WL.efN rfl rfl (Ef.store0 3 tab_ok rfl rfl rfl rfl rfl rfl rfl rfl ?_) | refine WL.efN rfl rfl (Ef.store0 4 tab_ok rfl rfl rfl rfl rfl rfl rfl rfl ?_) | refine WL.efN rfl rfl (Ef.store0 5 tab_ok rfl rfl rfl rfl rfl rfl rfl rfl ?_) | refine WL.efN rfl rfl (Ef.store0 6 tab_ok rfl rfl rfl rfl rfl rfl rfl rfl ?_) | refine WL.efN rfl rfl (Ef.store0 7 tab_ok rfl rfl rfl rfl rfl rfl rfl rfl ?_)
   refine zN (zU (zT ?_))
   refine WE.retFS (E' := srcE b a cp xs (cn) :: F) qS tab_ok [_] rfl ⟨⟨_, _, _, rfl, rfl, rfl, qB, rfl⟩, trivial⟩ (by first | assumption | exact RLe.refl _) ?_
   exact ⟨_, [], rfl, k, ms, fs, _, _, _, _, _, _, _, rfl, hk, ⟨by omega, by omega⟩, by omega, hna, hla, hfa, fun m hm => ⟨(hom m hm).1.mono (hR3.trans (hR4.trans (hRj.trans hR5))), (hom m hm).2⟩, fun x hx => ⟨(hof x hx).1.mono hR5, (hof x hx).2⟩, hfn, ⟨by simpa using hcl1, by simpa using hcl2, by simpa using hcl3⟩, rfl, rfl⟩
end Go.Proofs.YtehaepbflkncdaaGreat