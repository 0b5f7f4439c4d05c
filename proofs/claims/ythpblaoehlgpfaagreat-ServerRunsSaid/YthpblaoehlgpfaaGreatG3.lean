/- Rules and walks, joined from 19 texts: the first of them says: A trial. No condition. -/
import Derived.Test.YthpblaoehlgpfaaGreatG2
import Derived.WideMake
/- A trial. No condition. -/
namespace Go.Proofs.YthpblaoehlgpfaaGreat
open Go Go.RowKit Go.Proofs.YthpblaoehlgpfaaGreat.K
theorem qR {P : Prop} (h : P := by first | exact RLe.refl _ | assumption) : P := h
theorem qK {P : Prop} (h : P := by kernel_rfl) : P := h
theorem qD {P : Prop} (h : P := by decide) : P := h
theorem qA {P : Prop} (h : P := by intro _; constructor <;> (try dsimp only) <;> omega) : P := h
theorem qN {P : Prop} (h : P := by intro _; (try dsimp only) <;> omega) : P := h
theorem qP {P : Prop} (h : P := by intro h1 h2; simp_all <;> omega) : P := h
theorem qX {P : Prop} (h : P := by (try dsimp only) <;> omega) : P := h
theorem qU {P : Prop} (h : P := by assumption) : P := h
theorem qO {P : Prop} (h : P := by omega) : P := h
theorem qH {P : Prop} (h : P := by intro _; first | exact fun _ _ _ _ => rfl | exact RS.has (by assumption) | exact fun _ _ _ _ => (by assumption) | exact HasMem.ownD 0 rfl | exact HasMem.ownD 1 rfl | exact HasMem.ownD 2 rfl | exact HasMem.ownD 3 rfl | exact HasMem.ownD 4 rfl | exact HasMem.ownD 5 rfl | exact HasMem.ownD 6 rfl | exact HasMem.ownD 7 rfl | exact HasMem.ownD 8 rfl | exact HasMem.ownD 9 rfl | exact HasMem.ownD 10 rfl | exact HasMem.ownD 11 rfl) : P := h
theorem qI {P : Prop} (h : P := by first | exact fun _ _ _ _ => rfl | exact RS.has (by assumption) | exact fun _ _ _ _ => (by assumption) | exact HasMem.ownD 0 rfl | exact HasMem.ownD 1 rfl | exact HasMem.ownD 2 rfl | exact HasMem.ownD 3 rfl | exact HasMem.ownD 4 rfl | exact HasMem.ownD 5 rfl | exact HasMem.ownD 6 rfl | exact HasMem.ownD 7 rfl | exact HasMem.ownD 8 rfl | exact HasMem.ownD 9 rfl | exact HasMem.ownD 10 rfl | exact HasMem.ownD 11 rfl) : P := h
theorem zk : (∀ (p : Prop) [Decidable p], (decide p = true) = p) ∧ (∀ (p : Prop) [Decidable p], (decide p = false) ↔ ¬ p) ∧ (∀ (α : Type) [BEq α] [LawfulBEq α] (a b : α), (a == b) = true ↔ a = b) ∧ (∀ (α : Type) [BEq α] [LawfulBEq α] (a b : α), (a != b) = true ↔ a ≠ b) ∧ (∀ (α : Type) [BEq α] [LawfulBEq α] (a b : α), (a == b) = false ↔ a ≠ b) ∧ (∀ (α : Type) [BEq α] [LawfulBEq α] (a b : α), (a != b) = false ↔ a = b) ∧ (∀ (α : Type) (a b : α), (a ≠ b) = ¬ (a = b)) ∧ (∀ (a b : Bool), ((a || b) = true) = (a = true ∨ b = true)) ∧ (∀ (a b : Bool), (a || b) = false ↔ a = false ∧ b = false) ∧ (∀ (a b : Bool), ((a && b) = true) = (a = true ∧ b = true)) ∧ (∀ (a b : Bool), (a && b) = false ↔ (a = true → b = false)) ∧ (∀ (b : Bool), (¬ (b = true)) = (b = false)) ∧ (∀ (b : Bool), ((!b) = true) = (b = false)) ∧ (∀ (b : Bool), ((!b) = false) = (b = true)) ∧ (∀ (a : Prop), ¬ ¬ a ↔ a) ∧ (∀ (a b : Int), ¬ (a < b) ↔ b ≤ a) ∧ (∀ (a b : Int), ¬ (a ≤ b) ↔ b < a) ∧ (∀ (α : Type) [LT α] (x y : α), x > y ↔ y < x) ∧ (∀ (α : Type) [LE α] (x y : α), x ≥ y ↔ y ≤ x) := by
 refine ⟨by intros; first | exact decide_eq_true_eq | exact decide_eq_true_eq .. | simp, by intros; first | exact decide_eq_false_iff_not | exact decide_eq_false_iff_not .. | simp, by intros; first | exact beq_iff_eq | exact beq_iff_eq .. | simp, by intros; first | exact bne_iff_ne | exact bne_iff_ne .. | simp, by intros; first | exact beq_eq_false_iff_ne | exact beq_eq_false_iff_ne .. | simp, by intros; first | exact bne_eq_false_iff_eq | exact bne_eq_false_iff_eq .. | simp, by intros; first | exact ne_eq | exact ne_eq .. | simp, by intros; first | exact Bool.or_eq_true | exact Bool.or_eq_true .. | simp, by intros; first | exact Bool.or_eq_false_iff | exact Bool.or_eq_false_iff .. | simp, by intros; first | exact Bool.and_eq_true | exact Bool.and_eq_true .. | simp, by intros; first | exact Bool.and_eq_false_imp | exact Bool.and_eq_false_imp .. | simp, by intros; first | exact Bool.not_eq_true | exact Bool.not_eq_true .. | simp, by intros; first | exact Bool.not_eq_true' | exact Bool.not_eq_true' .. | simp, by intros; first | exact Bool.not_eq_false' | exact Bool.not_eq_false' .. | simp, by intros; first | exact Classical.not_not | exact Classical.not_not .. | simp, by intros; first | exact Int.not_lt | exact Int.not_lt .. | simp, by intros; first | exact Int.not_le | exact Int.not_le .. | simp, by intros; first | exact gt_iff_lt | exact gt_iff_lt .. | simp, by intros; first | exact ge_iff_le | exact ge_iff_le .. | simp⟩
end Go.Proofs.YthpblaoehlgpfaaGreat
namespace Go.Proofs.YthpblaoehlgpfaaGreat
open Go Go.RowKit Go.Proofs.YthpblaoehlgpfaaGreat.K
theorem tP {P : Program} {T : Tab} {n : Nat} {env : Env} {w0 : World} {R : Ro} {R0 : Ro} {E : List Ent} {ES : List Ent} {o : Oper} {pc : Bool} {q : Bool} {ops : List Oper} {Q : Exit → Act → World → Prop} {fuel : Nat} {listed : Array Bool} {v : Value} {d : Nat} (i : Nat) (h : WA P ops Q ES R0 w0 fuel (listed.setIfInBounds i true) n ((d, pc, v) :: env) R E) (hT : TabOk P T := by exact tab_ok) (hi : ops.toArray[i]? = some o := by exact rfl) (hs : Region.noSelect ops.toArray = true := by kernel_rfl) (hf : Region.free .any ops.toArray listed i = true := by kernel_rfl) (hr : (Region.ready .any ops.toArray listed).contains i = true := by kernel_rfl) (hg : gpc ops env o = some pc := by exact rfl) (hd : o.dst = some d := by exact rfl) (hdn : d < n := by decide) (hv : pureV T env o.op = some (q, v) := by exact rfl) (hq : pc = true → q = true := by exact fun _ => rfl) (hsub : ES.Sublist E := by (repeat (first | exact List.Sublist.refl _ | exact List.nil_sublist _ | apply List.Sublist.cons_cons | apply List.Sublist.cons)); done) (hR : RLe R0 R := by first | exact RLe.refl _ | assumption) : WA P ops Q ES R0 w0 (fuel + 1) listed n env R E := WA.take i hi hs hf hr hg hd hdn (pureV_ok hT hv hq) hsub hR h
theorem tL {P : Program} {T : Tab} {n : Nat} {env : Env} {w0 : World} {R : Ro} {R0 : Ro} {E : List Ent} {ES : List Ent} {o : Oper} {pc : Bool} {p : Bool} {ops : List Oper} {Q : Exit → Act → World → Prop} {fuel : Nat} {listed : Array Bool} {t : TypeId} {x : Operand} {ad : Addr} {cs : List Value} {dd : TD} {v : Value} {d : Nat} (i : Nat) (hrd : Rd R0 ES ad cs) (h : WA P ops Q ES R0 w0 fuel (listed.setIfInBounds i true) n ((d, pc, v) :: env) R E) (hT : TabOk P T := by exact tab_ok) (hi : ops.toArray[i]? = some o := by exact rfl) (hs : Region.noSelect ops.toArray = true := by kernel_rfl) (hf : Region.free .any ops.toArray listed i = true := by kernel_rfl) (hr : (Region.ready .any ops.toArray listed).contains i = true := by kernel_rfl) (hg : gpc ops env o = some pc := by exact rfl) (hd : o.dst = some d := by exact rfl) (hdn : d < n := by decide) (ho : o.op = .load t x := by exact rfl) (hdt : T.at t = some dd := by exact rfl) (hx : ev env x = some (p, .pointer (some ad)) := by exact rfl) (hp : pc = true → p = true := by exact fun _ => rfl) (hk : dd.k.known = true := by exact rfl) (hv : loadV dd cs = some v := by exact rfl) (hsub : ES.Sublist E := by (repeat (first | exact List.Sublist.refl _ | exact List.nil_sublist _ | apply List.Sublist.cons_cons | apply List.Sublist.cons)); done) (hR : RLe R0 R := by first | exact RLe.refl _ | assumption) : WA P ops Q ES R0 w0 (fuel + 1) listed n env R E := WA.take i hi hs hf hr hg hd hdn (Yl.load1 hT ho hdt hx hp hrd hk hv) hsub hR h
theorem tA {P : Program} {n : Nat} {env : Env} {w0 : World} {R : Ro} {R0 : Ro} {E : List Ent} {ES : List Ent} {o : Oper} {pc : Bool} {p : Bool} {q : Bool} {ops : List Oper} {Q : Exit → Act → World → Prop} {fuel : Nat} {listed : Array Bool} {t t2 : TypeId} {x y : Operand} {a b : Int} {d : Nat} (i : Nat) (h : WA P ops Q ES R0 w0 fuel (listed.setIfInBounds i true) n ((d, pc, .int .i64 (a + b)) :: env) R E) (hi : ops.toArray[i]? = some o := by exact rfl) (hs : Region.noSelect ops.toArray = true := by kernel_rfl) (hf : Region.free .any ops.toArray listed i = true := by kernel_rfl) (hr : (Region.ready .any ops.toArray listed).contains i = true := by kernel_rfl) (hg : gpc ops env o = some pc := by exact rfl) (hd : o.dst = some d := by exact rfl) (hdn : d < n := by decide) (ho : o.op = .binOp .add t x y t2 := by exact rfl) (hx : ev env x = some (p, .int .i64 a) := by exact rfl) (hy : ev env y = some (q, .int .i64 b) := by exact rfl) (hpq : pc = true → (p && q) = true := by exact fun _ => rfl) (hr2 : pc = true → InR (a + b) := by intro _; constructor <;> (try dsimp only) <;> omega) (hsub : ES.Sublist E := by (repeat (first | exact List.Sublist.refl _ | exact List.nil_sublist _ | apply List.Sublist.cons_cons | apply List.Sublist.cons)); done) (hR : RLe R0 R := by first | exact RLe.refl _ | assumption) : WA P ops Q ES R0 w0 (fuel + 1) listed n env R E := WA.take i hi hs hf hr hg hd hdn (Yl.add ho hx hy hpq hr2) hsub hR h
theorem tS {P : Program} {n : Nat} {env : Env} {w0 : World} {R : Ro} {R0 : Ro} {E : List Ent} {ES : List Ent} {o : Oper} {pc : Bool} {p : Bool} {q : Bool} {ops : List Oper} {Q : Exit → Act → World → Prop} {fuel : Nat} {listed : Array Bool} {t t2 : TypeId} {x y : Operand} {a b : Int} {d : Nat} (i : Nat) (h : WA P ops Q ES R0 w0 fuel (listed.setIfInBounds i true) n ((d, pc, .int .i64 (a - b)) :: env) R E) (hi : ops.toArray[i]? = some o := by exact rfl) (hs : Region.noSelect ops.toArray = true := by kernel_rfl) (hf : Region.free .any ops.toArray listed i = true := by kernel_rfl) (hr : (Region.ready .any ops.toArray listed).contains i = true := by kernel_rfl) (hg : gpc ops env o = some pc := by exact rfl) (hd : o.dst = some d := by exact rfl) (hdn : d < n := by decide) (ho : o.op = .binOp .sub t x y t2 := by exact rfl) (hx : ev env x = some (p, .int .i64 a) := by exact rfl) (hy : ev env y = some (q, .int .i64 b) := by exact rfl) (hpq : pc = true → (p && q) = true := by exact fun _ => rfl) (hr2 : pc = true → InR (a - b) := by intro _; constructor <;> (try dsimp only) <;> omega) (hsub : ES.Sublist E := by (repeat (first | exact List.Sublist.refl _ | exact List.nil_sublist _ | apply List.Sublist.cons_cons | apply List.Sublist.cons)); done) (hR : RLe R0 R := by first | exact RLe.refl _ | assumption) : WA P ops Q ES R0 w0 (fuel + 1) listed n env R E := WA.take i hi hs hf hr hg hd hdn (Yl.sub ho hx hy hpq hr2) hsub hR h
theorem yP {P : Program} {T : Tab} {n : Nat} {env : Env} {w0 : World} {R : Ro} {E : List Ent} {o : Oper} {pc : Bool} {q : Bool} {draw : Bool} {ops : List Oper} {rest : List Oper} {Q : Exit → Act → World → Prop} {v : Value} {d : Nat} (h : WG draw P ops Q rest n ((d, pc, v) :: env) w0 R E) (hT : TabOk P T := by exact tab_ok) (hg : gpc ops env o = some pc := by exact rfl) (hd : o.dst = some d := by exact rfl) (hdn : d < n := by decide) (hv : pureV T env o.op = some (q, v) := by exact rfl) (hq : pc = true → q = true := by first | exact fun _ => rfl | exact fun h => h | (intro h; simp_all)) : WG draw P ops Q (o :: rest) n env w0 R E := WG.y hg hd hdn (pureV_ok hT hv hq) h
theorem yL {P : Program} {T : Tab} {n : Nat} {env : Env} {w0 : World} {R : Ro} {E : List Ent} {o : Oper} {pc : Bool} {p : Bool} {draw : Bool} {ops : List Oper} {rest : List Oper} {Q : Exit → Act → World → Prop} {t : TypeId} {x : Operand} {ad : Addr} {cs : List Value} {dd : TD} {v : Value} {d : Nat} (hrd : Rd R E ad cs) (h : WG draw P ops Q rest n ((d, pc, v) :: env) w0 R E) (hT : TabOk P T := by exact tab_ok) (hg : gpc ops env o = some pc := by exact rfl) (hd : o.dst = some d := by exact rfl) (hdn : d < n := by decide) (ho : o.op = .load t x := by exact rfl) (hdt : T.at t = some dd := by exact rfl) (hx : ev env x = some (p, .pointer (some ad)) := by exact rfl) (hp : pc = true → p = true := by exact fun _ => rfl) (hk : dd.k.known = true := by exact rfl) (hv : loadV dd cs = some v := by exact rfl) : WG draw P ops Q (o :: rest) n env w0 R E := WG.y hg hd hdn (Yl.load1 hT ho hdt hx hp hrd hk hv) h
theorem yA {P : Program} {n : Nat} {env : Env} {w0 : World} {R : Ro} {E : List Ent} {o : Oper} {pc : Bool} {p : Bool} {q : Bool} {draw : Bool} {ops : List Oper} {rest : List Oper} {Q : Exit → Act → World → Prop} {t t2 : TypeId} {x y : Operand} {a b : Int} {d : Nat} (h : WG draw P ops Q rest n ((d, pc, .int .i64 (a + b)) :: env) w0 R E) (hg : gpc ops env o = some pc := by exact rfl) (hd : o.dst = some d := by exact rfl) (hdn : d < n := by decide) (ho : o.op = .binOp .add t x y t2 := by exact rfl) (hx : ev env x = some (p, .int .i64 a) := by exact rfl) (hy : ev env y = some (q, .int .i64 b) := by exact rfl) (hpq : pc = true → (p && q) = true := by exact fun _ => rfl) (hr2 : pc = true → InR (a + b) := by intro _; constructor <;> (try dsimp only) <;> omega) : WG draw P ops Q (o :: rest) n env w0 R E := WG.y hg hd hdn (Yl.add ho hx hy hpq hr2) h
theorem yS {P : Program} {n : Nat} {env : Env} {w0 : World} {R : Ro} {E : List Ent} {o : Oper} {pc : Bool} {p : Bool} {q : Bool} {draw : Bool} {ops : List Oper} {rest : List Oper} {Q : Exit → Act → World → Prop} {t t2 : TypeId} {x y : Operand} {a b : Int} {d : Nat} (h : WG draw P ops Q rest n ((d, pc, .int .i64 (a - b)) :: env) w0 R E) (hg : gpc ops env o = some pc := by exact rfl) (hd : o.dst = some d := by exact rfl) (hdn : d < n := by decide) (ho : o.op = .binOp .sub t x y t2 := by exact rfl) (hx : ev env x = some (p, .int .i64 a) := by exact rfl) (hy : ev env y = some (q, .int .i64 b) := by exact rfl) (hpq : pc = true → (p && q) = true := by exact fun _ => rfl) (hr2 : pc = true → InR (a - b) := by intro _; constructor <;> (try dsimp only) <;> omega) : WG draw P ops Q (o :: rest) n env w0 R E := WG.y hg hd hdn (Yl.sub ho hx hy hpq hr2) h
theorem zR {n : Nat} {env : Env} {w0 : World} {R : Ro} {E : List Ent} {draw : Bool} {ops : List Oper} {Q : Exit → Act → World → Prop} {l l' : List Oper} {env' : Env} (m : Nat) (h : runPure tab n m l env = (l', env')) (k : WG draw Tryz.prog ops Q l' n env' w0 R E) : WG draw Tryz.prog ops Q l n env w0 R E := WG.run tab_ok m h k
theorem zE {P : Program} {T : Tab} {n : Nat} {env : Env} {w0 : World} {R : Ro} {E : List Ent} {o : Oper} {ops : List Oper} {rest : List Oper} {Q : Exit → Act → World → Prop} {t : TypeId} {x y : Operand} {b : Nat} {cs : List Value} {v : Value} {dd : TD} (k : Nat) (h : WG false P ops Q rest n env w0 R (E.set k (.blk b (setSeg cs 0 (vcells v))))) (hT : TabOk P T := by exact tab_ok) (hg : o.guard = none := by exact rfl) (hd : o.dst = none := by exact rfl) (ho : o.op = .store t x y := by exact rfl) (hdt : T.at t = some dd := by exact rfl) (hx : ev env x = some (true, .pointer (some ⟨b, 0, none⟩)) := by exact rfl) (hy : ev env y = some (true, v) := by exact rfl) (hE : E[k]? = some (.blk b cs) := by exact rfl) (hl : Nat.beq (vcells v).length dd.size = true := by exact rfl) (hfit : Nat.ble dd.size cs.length = true := by exact rfl) (h1 : cells1 (vcells v) = true := by exact rfl) : WG false P ops Q (o :: rest) n env w0 R E := WL.efN hg hd (Ef.store0 k hT ho hdt hx hy hE hl hfit h1 h)
theorem zCE {P : Program} {T : Tab} {n : Nat} {env : Env} {w0 : World} {R : Ro} {R0 : Ro} {E : List Ent} {ES : List Ent} {o : Oper} {ops : List Oper} {Q : Exit → Act → World → Prop} {fuel : Nat} {listed : Array Bool} {t : TypeId} {x y : Operand} {b : Nat} {cs : List Value} {v : Value} {dd : TD} (i k : Nat) (h : WA P ops Q ES R0 w0 fuel (listed.setIfInBounds i true) n env R (E.set k (.blk b (setSeg cs 0 (vcells v))))) (hT : TabOk P T := by exact tab_ok) (hi : ops.toArray[i]? = some o := by exact rfl) (hr : Region.ready .any ops.toArray listed = [i] := by kernel_rfl) (hg : o.guard = none := by exact rfl) (hd : o.dst = none := by exact rfl) (ho : o.op = .store t x y := by exact rfl) (hdt : T.at t = some dd := by exact rfl) (hx : ev env x = some (true, .pointer (some ⟨b, 0, none⟩)) := by exact rfl) (hy : ev env y = some (true, v) := by exact rfl) (hE : E[k]? = some (.blk b cs) := by exact rfl) (hl : Nat.beq (vcells v).length dd.size = true := by exact rfl) (hfit : Nat.ble dd.size cs.length = true := by exact rfl) (h1 : cells1 (vcells v) = true := by exact rfl) (hR : RLe R0 R := by first | exact RLe.refl _ | assumption) (hsub : ES.Sublist (E.set k (.blk b (setSeg cs 0 (vcells v)))) := by (repeat (first | exact List.Sublist.refl _ | exact List.nil_sublist _ | apply List.Sublist.cons_cons | apply List.Sublist.cons)); done) : WA P ops Q ES R0 w0 (fuel + 1) listed n env R E := WA.effN i hi hr hg hd (Ef.store0 k hT ho hdt hx hy hE hl hfit h1 ⟨hR, hsub, h⟩)
theorem zF {P : Program} {T : Tab} {n : Nat} {env : Env} {w0 : World} {R : Ro} {E : List Ent} {o : Oper} {ops : List Oper} {rest : List Oper} {Q : Exit → Act → World → Prop} {t : TypeId} {x y : Operand} {b off : Nat} {cs : List Value} {v : Value} {dd : TD} (k : Nat) (h : WG false P ops Q rest n env w0 R (E.set k (.blk b (setSeg cs off (vcells v))))) (hT : TabOk P T := by exact tab_ok) (hg : o.guard = none := by exact rfl) (hd : o.dst = none := by exact rfl) (ho : o.op = .store t x y := by exact rfl) (hdt : T.at t = some dd := by exact rfl) (hx : ev env x = some (true, .pointer (some ((⟨b, 0, none⟩ : Addr).add off))) := by exact rfl) (hy : ev env y = some (true, v) := by exact rfl) (hE : E[k]? = some (.blk b cs) := by exact rfl) (hl : Nat.beq (vcells v).length dd.size = true := by exact rfl) (hfit : Nat.ble (off + dd.size) cs.length = true := by exact rfl) (h1 : cells1 (vcells v) = true := by exact rfl) : WG false P ops Q (o :: rest) n env w0 R E := WL.efN hg hd (Ef.store k hT ho hdt hx hy hE hl hfit h1 h)
theorem zCF {P : Program} {T : Tab} {n : Nat} {env : Env} {w0 : World} {R : Ro} {R0 : Ro} {E : List Ent} {ES : List Ent} {o : Oper} {ops : List Oper} {Q : Exit → Act → World → Prop} {fuel : Nat} {listed : Array Bool} {t : TypeId} {x y : Operand} {b off : Nat} {cs : List Value} {v : Value} {dd : TD} (i k : Nat) (h : WA P ops Q ES R0 w0 fuel (listed.setIfInBounds i true) n env R (E.set k (.blk b (setSeg cs off (vcells v))))) (hT : TabOk P T := by exact tab_ok) (hi : ops.toArray[i]? = some o := by exact rfl) (hr : Region.ready .any ops.toArray listed = [i] := by kernel_rfl) (hg : o.guard = none := by exact rfl) (hd : o.dst = none := by exact rfl) (ho : o.op = .store t x y := by exact rfl) (hdt : T.at t = some dd := by exact rfl) (hx : ev env x = some (true, .pointer (some ((⟨b, 0, none⟩ : Addr).add off))) := by exact rfl) (hy : ev env y = some (true, v) := by exact rfl) (hE : E[k]? = some (.blk b cs) := by exact rfl) (hl : Nat.beq (vcells v).length dd.size = true := by exact rfl) (hfit : Nat.ble (off + dd.size) cs.length = true := by exact rfl) (h1 : cells1 (vcells v) = true := by exact rfl) (hR : RLe R0 R := by first | exact RLe.refl _ | assumption) (hsub : ES.Sublist (E.set k (.blk b (setSeg cs off (vcells v)))) := by (repeat (first | exact List.Sublist.refl _ | exact List.nil_sublist _ | apply List.Sublist.cons_cons | apply List.Sublist.cons)); done) : WA P ops Q ES R0 w0 (fuel + 1) listed n env R E := WA.effN i hi hr hg hd (Ef.store k hT ho hdt hx hy hE hl hfit h1 ⟨hR, hsub, h⟩)
theorem lL {P : Program} {T : Tab} {n : Nat} {env : Env} {w0 : World} {R : Ro} {R0 : Ro} {E : List Ent} {ES : List Ent} {o : Oper} {p : Bool} {ops : List Oper} {Q : Exit → Act → World → Prop} {fuel : Nat} {listed : Array Bool} {t : TypeId} {x : Operand} {ad : Addr} {cs : List Value} {dd : TD} {v : Value} {d : Nat} (i : Nat) (hrd : Rd R E ad cs) (h : WA P ops Q ES R0 w0 fuel (listed.setIfInBounds i true) n ((d, true, v) :: env) R E) (hT : TabOk P T := by exact tab_ok) (hi : ops.toArray[i]? = some o := by exact rfl) (hr : Region.ready .any ops.toArray listed = [i] := by kernel_rfl) (hg : o.guard = none := by exact rfl) (hd : o.dst = some d := by exact rfl) (hdn : d < n := by decide) (ho : o.op = .load t x := by exact rfl) (hdt : T.at t = some dd := by exact rfl) (hx : ev env x = some (p, .pointer (some ad)) := by exact rfl) (hp : true = true → p = true := by exact fun _ => rfl) (hk : dd.k.known = true := by exact rfl) (hv : loadV dd cs = some v := by exact rfl) (hsub : ES.Sublist E := by (repeat (first | exact List.Sublist.refl _ | exact List.nil_sublist _ | apply List.Sublist.cons_cons | apply List.Sublist.cons)); done) (hR : RLe R0 R := by first | exact RLe.refl _ | assumption) : WA P ops Q ES R0 w0 (fuel + 1) listed n env R E := WA.yl i hi hr hg hd hdn (Yl.load1 (pc := true) hT ho hdt hx hp hrd hk hv) hsub hR h
theorem sL {P : Program} {T : Tab} {n : Nat} {env : Env} {w0 : World} {R : Ro} {R0 : Ro} {E : List Ent} {ES : List Ent} {o : Oper} {p : Bool} {ops : List Oper} {Q : Exit → Act → World → Prop} {fuel : Nat} {listed : Array Bool} {t : TypeId} {x : Operand} {ad : Addr} {cs : List Value} {dd : TD} {v : Value} {d i : Nat} (hrd : Rd R E ad cs) (h : WA P ops Q ES R0 w0 fuel (listed.setIfInBounds i true) n ((d, true, v) :: env) R E) (hT : TabOk P T := by exact tab_ok) (hi : ops.toArray[i]? = some o := by exact rfl) (hg : o.guard = none := by exact rfl) (hd : o.dst = some d := by exact rfl) (hdn : d < n := by decide) (ho : o.op = .load t x := by exact rfl) (hdt : T.at t = some dd := by exact rfl) (hx : ev env x = some (p, .pointer (some ad)) := by exact rfl) (hp : true = true → p = true := by exact fun _ => rfl) (hk : dd.k.known = true := by exact rfl) (hv : loadV dd cs = some v := by exact rfl) (hsub : ES.Sublist E := by (repeat (first | exact List.Sublist.refl _ | exact List.nil_sublist _ | apply List.Sublist.cons_cons | apply List.Sublist.cons)); done) (hR : RLe R0 R := by first | exact RLe.refl _ | assumption) : WS P ops Q ES R0 w0 fuel listed n env R E i := WS.yl hi hg hd hdn (Yl.load1 (pc := true) hT ho hdt hx hp hrd hk hv) hsub hR h
theorem zQ {P : Program} {n : Nat} {env : Env} {w0 : World} {R : Ro} {E : List Ent} {Q : Exit → Act → World → Prop} {x : Code} {y : Code} (h : W P x (Exit.then (y.wp P Q) Q) n env w0 R E) : W P (.seq x y) Q n env w0 R E := W.seq h
theorem zG {P : Program} {n : Nat} {env : Env} {w0 : World} {R : Ro} {E : List Ent} {Q : Exit → Act → World → Prop}  {id : Nat} {l : List Oper} (h : WG false P l Q l n env w0 R E) : W P (.region id l.toArray false) Q n env w0 R E := W.region id h
theorem zN {P : Program} {n : Nat} {env : Env} {w0 : World} {R : Ro} {E : List Ent} {draw : Bool} {ops : List Oper} {Q : Exit → Act → World → Prop}  (h : WE Q .normal n env w0 R E) : WG draw P ops Q [] n env w0 R E := WG.nil h
theorem zU {P : Program} {n : Nat} {env : Env} {w0 : World} {R : Ro} {E : List Ent} {Q : Exit → Act → World → Prop} {y : Code} (h : W P y Q n env w0 R E) : WE (Exit.then (y.wp P Q) Q) .normal n env w0 R E := WE.nxt h
theorem zB {P : Program} {n : Nat} {env : Env} {w0 : World} {R : Ro} {E : List Ent} {Q : Exit → Act → World → Prop} {x : Code} {id : Nat} (h : W P x (Exit.inBlock id Q) n env w0 R E) : W P (.block id x) Q n env w0 R E := W.block h
theorem zK {P : Program} {n : Nat} {env : Env} {w0 : World} {R : Ro} {E : List Ent} {Q : Exit → Act → World → Prop}  (h : WE Q .normal n env w0 R E) : W P .skip Q n env w0 R E := W.skip h
theorem zT {P : Program} {n : Nat} {env : Env} {w0 : World} {R : Ro} {E : List Ent} {Q : Exit → Act → World → Prop}  (h : WE Q .ret n env w0 R E) : W P .ret Q n env w0 R E := W.ret h
theorem wt {n : Nat} {env : Env} {w0 : World} {R : Ro} {E : List Ent} {Q : Exit → Act → World → Prop} {K : Act → World → Prop} (h : WE Q .ret n env w0 R E) : WE (Exit.then K Q) .ret n env w0 R E := WE.then_ret h
theorem wb {n : Nat} {env : Env} {w0 : World} {R : Ro} {E : List Ent} {Q : Exit → Act → World → Prop}  {id : Nat} (h : WE Q .ret n env w0 R E) : WE (Exit.inBlock id Q) .ret n env w0 R E := WE.blk_ret h
theorem wx {n : Nat} {env : Env} {w0 : World} {R : Ro} {E : List Ent} {Q : Exit → Act → World → Prop} {K : Act → World → Prop} {id : Nat} (h : WE Q (.exit id) n env w0 R E) : WE (Exit.then K Q) (.exit id) n env w0 R E := WE.then_exit h
theorem zY {n : Nat} {env : Env} {w0 : World} {R : Ro} {E : List Ent} {Q : Exit → Act → World → Prop}  {id : Nat} (h : WE Q .normal n env w0 R E) : WE (Exit.inBlock id Q) (.exit id) n env w0 R E := WE.blk_exit h
theorem zX {P : Program} {n : Nat} {env : Env} {w0 : World} {R : Ro} {E : List Ent} {Q : Exit → Act → World → Prop}  {id : Nat} (h : WE Q (.exit id) n env w0 R E) : W P (.exit id) Q n env w0 R E := W.exit h
theorem zL {n : Nat} {env : Env} {w0 : World} {R : Ro} {E : List Ent} {Q : Exit → Act → World → Prop}  {id : Nat} (h : WE Q .normal n env w0 R E) : WE (Exit.inBlock id Q) .normal n env w0 R E := WE.blk id h
theorem fE {P : Program} {f : FuncId} {fn : Func} {c : Code} {args : List Value} {Post : Value → Ro → List Ent → Prop} {w0 : World} {R : Ro} {E : List Ent} (n : Nat) (hf : P.funcs[f]? = some fn) (h : W P c (bodyPost P fn (FnR w0 R Post)) n (argEnv 0 args) w0 R E) (hb : fn.body = some c := by exact rfl) (hn : fn.ntmps = n := by exact rfl) (ha : args.length ≤ n := by exact Nat.le_of_ble_eq_true rfl) (hs : Nat.ble n 99999 = true := by exact rfl) : K.Fn P f args w0 R E Post := Fn.enter hf hb hn ha hs h
theorem zA {P : Program} {T : Tab} {n : Nat} {env : Env} {w0 : World} {R : Ro} {E : List Ent} {o : Oper} {ops : List Oper} {rest : List Oper} {Q : Exit → Act → World → Prop} {d : Nat} {t : TypeId} {dd : TD} (h : ∀ b, WG false P ops Q rest n ((d, true, (.pointer (some ⟨b, 0, none⟩))) :: env) w0 R (.blk b dd.zero :: E)) (hT : TabOk P T := by exact tab_ok) (hg : o.guard = none := by exact rfl) (hd : o.dst = some d := by exact rfl) (hdn : d < n := by decide) (ho : o.op = .alloc t := by exact rfl) (hdt : T.at t = some dd := by exact rfl) : WG false P ops Q (o :: rest) n env w0 R E := WL.ef hg hd hdn (Ef.alloc hT ho hdt h)
theorem zO {P : Program} {n : Nat} {env : Env} {w0 : World} {R : Ro} {E : List Ent} {o : Oper} {ops : List Oper} {rest : List Oper} {Q : Exit → Act → World → Prop} {d : Nat} {t : TypeId} {x : Operand} {v : Value} (h : ∀ b, WG false P ops Q rest n ((d, true, (.pointer (some ⟨b, 0, none⟩))) :: env) w0 R (.blk b (vcells v) :: E)) (hg : o.guard = none := by exact rfl) (hd : o.dst = some d := by exact rfl) (hdn : d < n := by decide) (ho : o.op = .box t x := by exact rfl) (hx : ev env x = some (true, v) := by exact rfl) : WG false P ops Q (o :: rest) n env w0 R E := WL.ef hg hd hdn (Ef.box ho hx h)
theorem yO {P : Program} {n : Nat} {env : Env} {w0 : World} {R : Ro} {E : List Ent} {o : Oper} {pc : Bool} {p : Bool} {q : Bool} {draw : Bool} {ops : List Oper} {rest : List Oper} {Q : Exit → Act → World → Prop} {x y : Operand} {b c : Bool} {d : Nat} (h : WG draw P ops Q rest n ((d, pc, .bool (b || c)) :: env) w0 R E) (hg : gpc ops env o = some pc := by exact rfl) (hd : o.dst = some d := by exact rfl) (hdn : d < n := by decide) (ho : o.op = .pick x (.const (.bool true)) y := by exact rfl) (hx : ev env x = some (p, .bool b) := by exact rfl) (hy : ev env y = some (q, .bool c) := by exact rfl) (hp : pc = true → p = true := by first | exact fun _ => rfl | exact fun h => h | (intro h; simp_all)) (hq : pc = true → b = false → q = true := by intro h1 h2; simp_all <;> omega) : WG draw P ops Q (o :: rest) n env w0 R E := WG.y hg hd hdn (Yl.por ho hx hy hp hq) h
theorem yN {P : Program} {n : Nat} {env : Env} {w0 : World} {R : Ro} {E : List Ent} {o : Oper} {pc : Bool} {p : Bool} {q : Bool} {draw : Bool} {ops : List Oper} {rest : List Oper} {Q : Exit → Act → World → Prop} {x y : Operand} {b c : Bool} {d : Nat} (h : WG draw P ops Q rest n ((d, pc, .bool (b && c)) :: env) w0 R E) (hg : gpc ops env o = some pc := by exact rfl) (hd : o.dst = some d := by exact rfl) (hdn : d < n := by decide) (ho : o.op = .pick x y (.const (.bool false)) := by exact rfl) (hx : ev env x = some (p, .bool b) := by exact rfl) (hy : ev env y = some (q, .bool c) := by exact rfl) (hp : pc = true → p = true := by first | exact fun _ => rfl | exact fun h => h | (intro h; simp_all)) (hq : pc = true → b = true → q = true := by intro h1 h2; simp_all <;> omega) : WG draw P ops Q (o :: rest) n env w0 R E := WG.y hg hd hdn (Yl.pand ho hx hy hp hq) h
theorem yG {P : Program} {T : Tab} {n : Nat} {env : Env} {w0 : World} {R : Ro} {E : List Ent} {o : Oper} {pc : Bool} {p : Bool} {draw : Bool} {ops : List Oper} {rest : List Oper} {Q : Exit → Act → World → Prop} {t : TypeId} {x : Operand} {ad : Addr} {cs : List Value} {dd : TD} {v : Value} {d : Nat} (hrd : True → Rd R E ad cs) (h : WG draw P ops Q rest n ((d, pc, v) :: env) w0 R E) (hT : TabOk P T := by exact tab_ok) (hg : gpc ops env o = some pc := by exact rfl) (hd : o.dst = some d := by exact rfl) (hdn : d < n := by decide) (ho : o.op = .load t x := by exact rfl) (hdt : T.at t = some dd := by exact rfl) (hx : ev env x = some (p, .pointer (some ad)) := by exact rfl) (hp : pc = true → p = true := by first | exact fun _ => rfl | exact fun h => h | (intro h; simp_all)) (hk : dd.k.known = true := by exact rfl) (hv : loadV dd cs = some v := by exact rfl) : WG draw P ops Q (o :: rest) n env w0 R E := WG.y hg hd hdn (Yl.loadG hT ho hdt hx hp hrd hk hv (fun _ => trivial)) h
theorem yR {P : Program} {T : Tab} {n : Nat} {env : Env} {w0 : World} {R : Ro} {E : List Ent} {o : Oper} {pc : Bool} {p : Bool} {draw : Bool} {ops : List Oper} {rest : List Oper} {Q : Exit → Act → World → Prop} {t : TypeId} {x : Operand} {ad : Addr} {cs : List Value} {dd : TD} {v : Value} {d : Nat} (h : WG draw P ops Q rest n ((d, pc, v) :: env) w0 R E) (hT : TabOk P T := by exact tab_ok) (hg : gpc ops env o = some pc := by exact rfl) (hd : o.dst = some d := by exact rfl) (hdn : d < n := by decide) (ho : o.op = .load t x := by exact rfl) (hdt : T.at t = some dd := by exact rfl) (hx : ev env x = some (p, .pointer (some ad)) := by exact rfl) (hp : pc = true → p = true := by exact fun _ => rfl) (hrd : Rd R E ad cs := by (apply RS.rdD; assumption; ((try dsimp only) <;> omega))) (hk : dd.k.known = true := by exact rfl) (hv : loadV dd cs = some v := by exact rfl) : WG draw P ops Q (o :: rest) n env w0 R E := WG.y hg hd hdn (Yl.load1 hT ho hdt hx hp hrd hk hv) h
theorem sE {n : Nat} {env : Env} {w0 : World} {R : Ro} {E : List Ent} {ES : List Ent} {Q : Exit → Act → World → Prop} {x : Exit} (h : WE Q x n env w0 R E) (hE : E.Sublist ES := by (repeat (first | exact List.Sublist.refl _ | exact List.nil_sublist _ | apply List.Sublist.cons_cons | apply List.Sublist.cons)); done) : WE Q x n env w0 R ES := WE.subE hE h
theorem qB {P : Prop} (h : P := by first | exact Rd.blk 0 rfl | exact Rd.blk 1 rfl | exact Rd.blk 2 rfl | exact Rd.blk 3 rfl | exact Rd.blk 4 rfl | exact Rd.blk 5 rfl | exact Rd.blk 6 rfl | exact Rd.blk 7 rfl | exact Rd.blk 8 rfl | exact Rd.blk 9 rfl | exact Rd.blk 10 rfl | exact Rd.blk 11 rfl | exact Rd.blk 12 rfl) : P := h
end Go.Proofs.YthpblaoehlgpfaaGreat
set_option maxRecDepth 4000
set_option linter.unusedSimpArgs false
set_option linter.unusedVariables false
namespace Go.Proofs.YthpblaoehlgpfaaGreat
open Go Go.RowKit Go.Proofs.YthpblaoehlgpfaaGreat.K Go.Proofs.YthpblaoehlgpfaaGreat.M

theorem Ints_V {R : Ro} {a b : Option Addr} {ca cb : Nat} {xs ys : List Int} (ha : RS R 1 encI a xs) (hb : RS R 1 encI b ys) :
  FnV Tryz.prog 51 [.slice a xs.length ca, .slice b ys.length cb] R (.bool (decide (xs = ys))) := by
 have hla := ha.len
 have hlb := hb.len
 refine Fn.toV (fun w0 E => ?_)
 refine fE 26 Tryz.func51 ?_
 refine zQ (zG (zR 1 rfl (zN (zU (zQ (zQ (zG (zR 5 rfl (zN (zU ?_))))))))))
 refine W.condN rfl (fun hc0 => ?_) (fun hc0 => ?_)
 ·try dsimp only at hc0
  refine zQ (zG (zR 1 rfl (zN (zU (zT (wt ?_))))))
  refine WE.retF tab_ok [_] rfl ⟨rfl, trivial⟩ (RLe.refl _) ?_
  exact ⟨congrArg Value.bool (by symm; apply decide_eq_false; rintro rfl; exact hc0 rfl), rfl⟩
 ·try dsimp only at hc0
  refine zK (zU (zQ (zQ (zG (zR 1 rfl (zN (zU (zB ?_))))))))
  refine W.loop (β := Nat) (fun k => k ≤ xs.length ∧ ∀ i, i < k → nth xs i = nth ys i) (fun k => [(0, true, .slice a xs.length ca), (1, true, .slice b ys.length cb), (5, true, .int .i64 k)]) (fun _ => R) (fun _ => E) (fun k => xs.length - k) 0 ⟨Nat.zero_le _, fun i hi => absurd hi (Nat.not_lt_zero i)⟩ ⟨rfl, rfl, rfl, rfl⟩ (RLe.refl _) (List.Sublist.refl _) ?_
  intro st hst
  obtain ⟨hk, hpre⟩ := hst
  refine zQ (zQ (zG (zR 4 rfl (zN (zU ?_)))))
  refine W.condD rfl (fun hc1 => ?_) (fun hc1 => ?_)
  ·try dsimp only at hc1
   refine zK (zU (zQ (zB (zQ ?_))))
   refine W.regionQ _ mixed qK ?_
   refine zR 2 rfl ?_
   refine WG.y rfl rfl qD (Yl.indexN tab_ok rfl rfl rfl rfl rfl rfl (fun _ => rfl) qN qH) ?_
   refine yR ?_
   refine zR 2 rfl ?_
   refine WG.y rfl rfl qD (Yl.indexN tab_ok rfl rfl rfl rfl rfl rfl (fun _ => rfl) qN qH) ?_
   refine yR ?_
   refine zR 1 rfl (zN (zU ?_))
   refine W.condN rfl (fun hc2 => ?_) (fun hc2 => ?_)
   ·try dsimp only at hc2
    refine zQ (zG (zR 1 rfl (zN (zU (zT (wb (wt (wt (wb (wt ?_))))))))))
    refine WE.retF tab_ok [_] rfl ⟨rfl, trivial⟩ (RLe.refl _) ?_
    exact ⟨congrArg Value.bool (by symm; apply decide_eq_false; rintro rfl; exact hc2 rfl), rfl⟩
   ·try dsimp only at hc2
    refine zK (zL (zU (zG (zR 1 rfl ?_))))
    refine yA ?_
    refine zR 1 rfl (zN ?_)
    refine WE.again (st + 1) ⟨by omega, fun i hi => ?_⟩ qO ⟨rfl, rfl, rfl, rfl⟩ (RLe.refl _) (List.Sublist.refl _)
    rcases Nat.lt_or_ge i st with h | h
    ·exact hpre i h
    ·obtain rfl : i = st := by omega
     exact hc2
  ·try dsimp only at hc1
   refine zX ?_
   refine wx (wx (zY (zU (zQ (zG (zR 1 rfl (zN (zU (zT ?_)))))))))
   refine WE.retF tab_ok [_] rfl ⟨rfl, trivial⟩ (RLe.refl _) ?_
   exact ⟨congrArg Value.bool (by symm; apply decide_eq_true; exact nth_ext qO (fun i hi => hpre i qO)), rfl⟩



theorem tmod_gt (x : Int) {n : Int} (h : 0 < n) : -n < x.tmod n := by
 rcases Int.le_total 0 x with h0 | h0
 ·have := Int.tmod_nonneg n h0; omega
 ·have h1 := Int.neg_tmod (a := x) (b := n)
  have h2 := Int.tmod_lt_of_pos (-x) h
  omega
theorem mod_pos {x n : Int} (h : 1 ≤ n) (hc : ¬ x.tmod n < 0) : x.tmod n = x % n := by
 rw [Int.tmod_eq_emod] at hc ⊢
 split at hc
 ·rename_i h1; rw [if_pos h1]; omega
 ·rename_i h1
  rw [if_neg h1]
  have := Int.emod_lt_of_pos x (show 0 < n by omega)
  have h2 : (n.natAbs : Int) = n := by omega
  omega
theorem mod_neg {x n : Int} (h : 1 ≤ n) (hc : x.tmod n < 0) : x.tmod n + n = x % n := by
 rw [Int.tmod_eq_emod] at hc ⊢
 split at hc
 ·rename_i h1
  have := Int.emod_nonneg x (show n ≠ 0 by omega)
  omega
 ·rename_i h1; rw [if_neg h1]
  have h2 : (n.natAbs : Int) = n := by omega
  omega
theorem src_end {b : Nat} {a : Option Addr} {cp : Nat} {xs : List Int} {c : Nat} (h : xs.length ≤ c) : srcE b a cp xs c = srcE b a cp xs (c + 1) := by
 unfold srcE
 rw [show min c xs.length = min (c + 1) xs.length by omega]
theorem src_next {b : Nat} {a : Option Addr} {cp : Nat} {xs : List Int} {c : Nat} (h : c < xs.length) : Ent.blk b [.slice a xs.length cp, .int .i64 (((min c xs.length : Nat) : Int) + 1)] = srcE b a cp xs (c + 1) := by
 unfold srcE
 rw [show ((min c xs.length : Nat) : Int) + 1 = ((min (c + 1) xs.length : Nat) : Int) by omega]

theorem Mod_V {R : Ro} {x n : Int} (hn : InR n) : FnV Tryz.prog 56 [.int .i64 x, .int .i64 n] R (.int .i64 (mod x n)) := by
 refine Fn.toV (fun w0 E => ?_)
 refine fE 16 Tryz.func56 ?_
 refine zQ (zG (zR 1 rfl (zN (zU (zQ (zQ (zG (zR 2 rfl (zN (zU ?_))))))))))
 refine W.condD rfl (fun hc0 => ?_) (fun hc0 => ?_)
 ·try dsimp only at hc0
  refine zQ (zG (zR 1 rfl (zN (zU (zT (wt ?_))))))
  refine WE.retF tab_ok [_] rfl ⟨rfl, trivial⟩ (RLe.refl _) ?_
  exact ⟨by unfold mod; rw [if_pos hc0]; rfl, rfl⟩
 ·try dsimp only at hc0
  refine zK (zU (zQ (zG (zR 2 rfl ?_))))
  refine WG.y rfl rfl qD (Yl.tmod rfl rfl rfl (fun _ => rfl) (by intro _; omega)) ?_
  refine zR 1 rfl (zN (zU (zQ (zQ (zG (zR 2 rfl (zN (zU ?_))))))))
  refine W.condD rfl (fun hc1 => ?_) (fun hc1 => ?_)
  ·try dsimp only at hc1
   refine zG (zR 2 rfl ?_)
   refine WG.y rfl rfl qD (Yl.add rfl rfl rfl (fun _ => rfl) (by intro _; have h9 := tmod_gt x (show (0 : Int) < n by omega); constructor <;> omega)) ?_
   refine zR 1 rfl (zN (zU (zQ (zG (zR 2 rfl (zN (zU (zT ?_))))))))
   refine WE.retF tab_ok [_] rfl ⟨rfl, trivial⟩ (RLe.refl _) ?_
   refine ⟨congrArg (Value.int .i64) ?_, rfl⟩
   unfold mod; rw [if_neg hc0]; exact mod_neg (by omega) hc1
  ·try dsimp only at hc1
   refine zK (zU (zQ (zG (zR 2 rfl (zN (zU (zT ?_)))))))
   refine WE.retF tab_ok [_] rfl ⟨rfl, trivial⟩ (RLe.refl _) ?_
   refine ⟨congrArg (Value.int .i64) ?_, rfl⟩
   unfold mod; rw [if_neg hc0]; exact mod_pos (by omega) hc1

theorem Raw_C {R : Ro} {b : Nat} {a : Option Addr} {cp : Nat} {xs : List Int} {c : Nat} (w0 : World) (ha : RS R 1 encI a xs) : FnAt Tryz.prog 57 [.pointer (some ⟨b, 0, none⟩)] w0 R (srcE b a cp xs c) (RdPost (.int .i64 (nth xs c)) R (srcE b a cp xs (c + 1))) := by
 intro F
 have hla := ha.len
 refine fE 31 Tryz.func57 ?_
 refine zQ (zG (zR 1 rfl (zN (zU (zQ (zQ ?_))))))
 refine W.regionQ _ mixed qK ?_
 refine zR 3 rfl ?_
 refine yL (Rd.add (Rd.blk 0 rfl) _) ?_
 refine zR 3 rfl ?_
 refine yL (Rd.add (Rd.blk 0 rfl) _) ?_
 refine zR 2 rfl (zN (zU ?_))
 refine W.condD rfl (fun hc0 => ?_) (fun hc0 => ?_)
 ·try dsimp only at hc0
  refine zQ (zG (zR 1 rfl (zN (zU (zT (wt ?_))))))
  refine WE.retF tab_ok [_] rfl ⟨rfl, trivial⟩ (RLe.refl _) ?_
  exact ⟨_, [], rfl, by rw [nth_out (by omega)]; rfl, rfl, src_end (by omega), rfl⟩
 ·try dsimp only at hc0
  refine zK (zU (zQ (zG (zR 3 rfl ?_))))
  refine yL (Rd.add (Rd.blk 0 rfl) _) ?_
  refine yA ?_
  refine zR 2 rfl ?_
  refine zF 0 ?_
  refine zN (zU (zQ ?_))
  refine W.regionQ _ mixed qK ?_
  refine zR 3 rfl ?_
  refine yL (Rd.add (Rd.blk 0 rfl) _) ?_
  refine zR 3 rfl ?_
  refine yL (Rd.add (Rd.blk 0 rfl) _) ?_
  refine yS ?_
  refine WG.y rfl rfl qD (Yl.index tab_ok rfl rfl rfl rfl rfl rfl (fun _ => rfl) qA qH) ?_
  refine yR ?_
  refine zR 1 rfl (zN (zU (zT ?_)))
  refine WE.retF tab_ok [_] rfl ⟨rfl, trivial⟩ (RLe.refl _) ?_
  exact ⟨_, [], rfl, congrArg (fun i => Value.int .i64 (nth xs i)) (show _ = c by omega), rfl, src_next qO, rfl⟩

theorem N_C {R : Ro} {b : Nat} {a : Option Addr} {cp : Nat} {xs : List Int} {c : Nat} (w0 : World) {n : Int} (ha : RS R 1 encI a xs) (hn : InR n) : FnAt Tryz.prog 23 [.pointer (some ⟨b, 0, none⟩), .int .i64 n] w0 R (srcE b a cp xs c) (RdPost (.int .i64 (mod (nth xs c) n)) R (srcE b a cp xs (c + 1))) := by
 intro F
 refine fE 9 Tryz.func23 ?_
 refine zQ (zG (zR 1 rfl (zN (zU (zQ (zG (zR 1 rfl ?_)))))))
 refine WL.callAt 0 en57 rfl rfl qD (CallOp.mkT rfl rfl rfl rfl) rfl (Raw_C w0 ha _) ?_
 rintro _ _ _ _ - ⟨rfl, rfl, rfl, rfl⟩
 refine zR 1 rfl ?_
 refine WG.callV en56 rfl rfl qD (CallOp.mk' rfl rfl rfl rfl) (fun _ => rfl) (fun hg => Mod_V hn) ?_
 refine zR 1 rfl (zN (zU (zT ?_)))
 refine WE.retF tab_ok [_] rfl ⟨rfl, trivial⟩ (RLe.refl _) ?_
 exact ⟨_, [], rfl, rfl, rfl, rfl, rfl⟩

theorem Pick_C {R : Ro} {b : Nat} {a : Option Addr} {cp : Nat} {xs : List Int} {c : Nat} (w0 : World) {a2 : Option Addr} {c2 : Nat} {ys : List Int} {j : Nat} {F : List Ent} (ha : RS R 1 encI a xs) (hy : F[j]? = some (.sl 3 1 a2 c2 (ys.map encI))) (hne : 0 < ys.length) (hl : ys.length ≤ 1000000) :
  K.Fn Tryz.prog 32 [.pointer (some ⟨b, 0, none⟩), .slice a2 ys.length c2] w0 R (srcE b a cp xs c :: F) (fun v R' E' => ∃ e' N, E' = N ++ e' :: F ∧ RdPost (.int .i64 (nth ys (mod (nth xs c) ys.length).toNat)) R (srcE b a cp xs (c + 1)) v R' e' N) := by
 have hr := mod_range (nth xs c) (show (1 : Int) ≤ ys.length by omega)
 refine fE 12 Tryz.func32 ?_
 refine zQ (zG (zR 1 rfl (zN (zU (zQ (zG (zR 4 rfl ?_)))))))
 refine WL.callAt 0 en23 rfl rfl qD (CallOp.mkT rfl rfl rfl rfl) rfl (N_C w0 ha (by constructor <;> omega) _) ?_
 rintro _ _ _ _ - ⟨rfl, rfl, rfl, rfl⟩
 refine WG.y rfl rfl qD (Yl.index tab_ok rfl rfl rfl rfl rfl rfl (fun _ => rfl) qA (by intro _; first | exact HasMem.ownD (j + 1) hy | exact qI)) ?_
 refine' WG.y rfl rfl qD (Yl.load1 tab_ok rfl rfl rfl (fun _ => rfl) ?r1 rfl ?h1) ?_
 case r1 => (exact Rd.slD (j + 1) hy qO)
 case h1 => rfl
 refine zR 1 rfl (zN (zU (zT ?_)))
 refine WE.retF tab_ok [_] rfl ⟨rfl, trivial⟩ (RLe.refl _) ?_
 exact ⟨_, [], rfl, rfl, rfl, rfl, rfl⟩

theorem New_C {R : Ro} {a : Option Addr} {cp : Nat} {l : List Int} (w0 : World) (E : List Ent) (hc : l.length ≤ cp) :
  K.Fn Tryz.prog 8 [.slice a l.length cp] w0 R E (fun v R' E' => ∃ b, v = .pointer (some ⟨b, 0, none⟩) ∧ R = R' ∧ E' = srcE b a cp (l.take 2000) 0 :: E) := by
 refine fE 10 Tryz.func8 ?_
 refine zQ (zG (zR 1 rfl (zN (zU (zQ (zG (zR 4 rfl ?_)))))))
 refine WG.y rfl rfl qD (Yl.sliceH tab_ok rfl rfl rfl rfl rfl (fun _ => rfl) (by intro _; split <;> constructor <;> omega) rfl) ?_
 -- build
 refine WG.y rfl rfl qD (Yl.build (parts := [(0, .tmp 7)]) tab_ok rfl rfl rfl rfl (fun _ => rfl) rfl rfl) ?_
 refine zO fun b9 => ?_
 refine zR 1 rfl (zN (zU (zT ?_)))
 refine WE.retF tab_ok [_] rfl ⟨rfl, trivial⟩ (RLe.refl _) ?_
 refine ⟨_, rfl, rfl, ?_⟩
 unfold srcE
 rw [List.length_take, Nat.min_comm 0, Nat.min_zero]
 have e1 : ((if (2000 : Int) < (l.length : Int) then 2000 else (l.length : Int))).toNat = min 2000 l.length := by split <;> omega
 exact congrArg (fun n => Ent.blk _ [Value.slice a n cp, .int .i64 0] :: E) e1

theorem Pick7_C {R : Ro} {b : Nat} {a : Option Addr} {cp : Nat} {xs : List Int} {c : Nat} (w0 : World) {a2 : Option Addr} {c2 : Nat} {j : Nat} {F : List Ent} (ha : RS R 1 encI a xs) (hy : F[j]? = some (.sl 3 1 a2 c2 ([0, 0, 0, 1, 1, 2, 7].map encI))) :
  K.Fn Tryz.prog 32 [.pointer (some ⟨b, 0, none⟩), .slice a2 7 c2] w0 R (srcE b a cp xs c :: F) (fun v R' E' => ∃ e' N, E' = N ++ e' :: F ∧ RdPost (.int .i64 (pick7 (mod (nth xs c) 7))) R (srcE b a cp xs (c + 1)) v R' e' N) :=
 Pick_C (ys := [0, 0, 0, 1, 1, 2, 7]) w0 ha hy (by decide) (by decide)

theorem Traffic_C {R : Ro} {b : Nat} {a : Option Addr} {cp : Nat} {xs : List Int} {c : Nat} (w0 : World) {n flows most : Int} (ha : RS R 1 encI a xs) (hn : 0 ≤ n ∧ n ≤ 1000) (hf : InR flows) (hm : 1 ≤ most ∧ most ≤ 1000000) (F : List Ent) :
  K.Fn Tryz.prog 10 [.pointer (some ⟨b, 0, none⟩), .int .i64 n, .int .i64 flows, .int .i64 most] w0 R (srcE b a cp xs c :: F) (fun v R' E' => ∃ e' N, E' = N ++ e' :: F ∧
   ∃ a2 c2, v = .slice a2 (traffic xs n flows most c).length c2 ∧ R = R' ∧ e' = srcE b a cp xs (c + 1 + 3 * trafficK xs n c) ∧ N = [.sl 51 3 a2 c2 ((traffic xs n flows most c).map encP)]) := by
 have hr := mod_range (nth xs c) (show (1 : Int) ≤ n + 1 by omega)
 have hK : (trafficK xs n c : Int) = mod (nth xs c) (n + 1) := by unfold trafficK; omega
 refine fE 38 Tryz.func10 ?_
 refine zQ (zG (zR 1 rfl (zN (zU (zQ (zG (zR 1 rfl (zN (zU (zQ (zG (zR 1 rfl (zN (zU (zQ (zQ (zG (zR 2 rfl ?_))))))))))))))))))
 refine yA ?_
 refine WL.callAt 0 en23 rfl rfl qD (CallOp.mkT rfl rfl rfl rfl) rfl (N_C w0 ha (by constructor <;> omega) _) ?_
 rintro _ _ _ _ - ⟨rfl, rfl, rfl, rfl⟩
 refine zR 1 rfl (zN (zU (zB ?_)))
 refine W.nil 51 3 qD ?_
 refine W.loop (β := Nat × Nat × Int × List Pkt × Option Addr × Nat) (fun (k, c1, t, acc, a2, c2) => acc ++ trafficGo xs flows most k c1 t = traffic xs n flows most c ∧ c1 + 3 * k = c + 1 + 3 * trafficK xs n c ∧ 0 ≤ t ∧ t + 7 * k ≤ 7 * trafficK xs n c ∧ acc.length + k = trafficK xs n c) (fun (k, c1, t, acc, a2, c2) => [(0, true, .pointer (some ⟨b, 0, none⟩)), (1, true, .int .i64 n), (2, true, .int .i64 flows), (3, true, .int .i64 most), (9, true, .slice a2 acc.length c2), (10, true, .int .i64 t), (11, true, .int .i64 (k : Int))]) (fun _ => R) (fun (k, c1, t, acc, a2, c2) => .sl 51 3 a2 c2 (acc.map encP) :: srcE b a cp xs c1 :: F) (fun (k, c1, t, acc, a2, c2) => k) ((trafficK xs n c, c + 1, 0, [], none, 0)) (⟨rfl, rfl, Int.le_refl _, by omega, by simp⟩) ⟨rfl, rfl, rfl, rfl, rfl, rfl, vint hK.symm, rfl⟩ (RLe.refl _) qS ?_
 intro st hst
 obtain ⟨k, c1, t, acc, a2, c2⟩ := st
 obtain ⟨h1, h2, h3, h4, h5⟩ := hst
 dsimp only
 refine zQ (zQ (zG (zR 2 rfl (zN (zU ?_)))))
 refine W.condD rfl (fun hc0 => ?_) (fun hc0 => ?_)
 ·try dsimp only at hc0
  obtain ⟨k, rfl⟩ : ∃ m, k = m + 1 := ⟨k - 1, by omega⟩
  have hr1 := mod_range (nth xs (c1 + 1)) (show (1 : Int) ≤ most by omega)
  have hr2 := pick7_range (mod (nth xs (c1 + 1 + 1)) 7)
  have hr3 := pick7_range (mod (nth xs (c1 + 2)) 7)
  refine zK (zU (zQ (zB (zQ (zG (zR 3 rfl ?_))))))
  refine WL.callAt 1 en23 rfl rfl qD (CallOp.mkT rfl rfl rfl rfl) rfl (N_C w0 ha hf _) ?_
  rintro _ _ _ _ - ⟨rfl, rfl, rfl, rfl⟩
  refine zR 3 rfl ?_
  refine WL.callAt 1 en23 rfl rfl qD (CallOp.mkT rfl rfl rfl rfl) rfl (N_C w0 ha (by constructor <;> omega) _) ?_
  rintro _ _ _ _ - ⟨rfl, rfl, rfl, rfl⟩
  refine yA ?_
  -- build
  refine WG.y rfl rfl qD (Yl.build (parts := [(0, .tmp 23), (1, .tmp 24), (2, .tmp 28)]) tab_ok rfl rfl rfl rfl (fun _ => rfl) rfl rfl) ?_
  refine WL.ef rfl rfl qD (Ef.buildSliceD (enc := encP) (parts := [.tmp 29]) [⟨_, _, _⟩] tab_ok rfl rfl rfl rfl rfl rfl rfl rfl qD qD (fun a30 => ?_))
  refine WL.ef rfl rfl (by decide) (Ef.appendD 1 0 tab_ok rfl rfl rfl rfl rfl rfl rfl rfl rfl rfl rfl (fun _ _ => rfl) (by simp only [List.length_cons, List.length_nil]; omega) (by simp only [List.length_cons, List.length_nil]; omega) (fun a31 c31 ha31 => ?_))
  refine zR 1 rfl (zN (zU (zG (zR 2 rfl ?_))))
  refine WL.ef rfl rfl qD (Ef.buildSliceD (enc := encI) (parts := [.const (.int .i64 0), .const (.int .i64 0), .const (.int .i64 0), .const (.int .i64 1), .const (.int .i64 1), .const (.int .i64 2), .const (.int .i64 7)]) [_, _, _, _, _, _, _] tab_ok rfl rfl rfl rfl rfl rfl rfl rfl qD qD (fun a34 => ?_))
  refine WL.callAt 3 en32 rfl rfl qD (CallOp.mkT rfl rfl rfl rfl) rfl (Pick7_C (j := 0) w0 ha rfl) ?_
  rintro _ _ _ _ - ⟨rfl, rfl, rfl, rfl⟩
  refine yA ?_
  refine zR 1 rfl (zN (zL (zU (zG (zR 1 rfl ?_)))))
  refine yS ?_
  refine zR 1 rfl (zN ?_)
  refine WE.again ((k, c1 + 3, t + pick7 (mod (nth xs (c1 + 2)) 7), acc ++ [⟨mod (nth xs c1) flows, t, 1 + mod (nth xs (c1 + 1)) most⟩], a31, c31)) (⟨by dsimp only; rw [← h1]; simp [trafficGo], by dsimp only; omega, by dsimp only; omega, by dsimp only; omega, by simp; omega⟩) (by (try dsimp only); omega) ⟨rfl, rfl, rfl, rfl, rfl, rfl, vint (by omega), rfl⟩ (RLe.refl _) qS
 ·try dsimp only at hc0
  obtain rfl : k = 0 := by omega
  simp only [trafficGo, List.append_nil] at h1
  subst h1
  refine zX ?_
  refine wx (wx (zY (zU (zQ (zG (zR 2 rfl (zN (zU (zT ?_)))))))))
  refine WE.retF tab_ok [_] rfl ⟨rfl, trivial⟩ (RLe.refl _) ?_
  exact ⟨_, [_], rfl, _, _, rfl, rfl, congrArg (srcE b a cp xs) qO, rfl⟩



theorem Validate_V {R : Ro} {a : Option Addr} {c : Nat} {ps : List Pkt} (ha : RS R 3 encP a ps) : FnV Tryz.prog 79 [.slice a ps.length c] R (.int .i64 (validate ps)) := by
 have hla := ha.len
 refine Fn.toV (fun w0 E => ?_)
 refine fE 50 Tryz.func79 ?_
 refine zQ (zG (zR 1 rfl (zN (zU (zQ (zQ (zG (zR 3 rfl (zN (zU ?_))))))))))
 refine W.condD rfl (fun hc0 => ?_) (fun hc0 => ?_)
 ·try dsimp only at hc0
  refine zQ (zG (zR 1 rfl (zN (zU (zT (wt ?_))))))
  refine sE (E := E) ?_
  refine WE.retF tab_ok [_] rfl ⟨rfl, trivial⟩ (RLe.refl _) ?_
  exact ⟨by unfold validate; rw [if_pos (show 60 < ps.length by omega)]; rfl, rfl⟩
 ·try dsimp only at hc0
  refine zK (zU (zQ (zG (zR 1 rfl (zN (zU (zQ (zQ (zG (zR 3 rfl (zN (zU (zB ?_)))))))))))))
  refine W.loop (β := Nat × Int) (fun (k, last) => k ≤ ps.length ∧ valGo last (ps.drop k) = valGo 0 ps) (fun (k, last) => [(0, true, .slice a ps.length c), (3, true, .int .i64 last), (9, true, .slice a ps.length c), (10, true, .int .i64 ps.length), (11, true, .int .i64 (k : Int))]) (fun _ => R) (fun _ => E) (fun (k, last) => ps.length - k) ((0, 0)) (⟨Nat.zero_le _, rfl⟩) ⟨rfl, rfl, rfl, rfl, rfl, rfl⟩ (RLe.refl _) qS ?_
  intro st hst
  obtain ⟨k, last⟩ := st
  obtain ⟨hk, hv⟩ := hst
  dsimp only
  refine zQ (zG (zR 1 rfl (zN (zU (zQ ?_)))))
  refine W.condD rfl (fun hc1 => ?_) (fun hc1 => ?_)
  ·try dsimp only at hc1
   have hd := drop_nth (xs := ps) (k := k) (by omega)
   rw [hd, valGo] at hv
   refine zK (zU (zQ (zB (zQ (zG ?_)))))
   refine WG.y rfl rfl qD (Yl.indexN tab_ok rfl rfl rfl rfl rfl rfl (fun _ => rfl) qN qH) ?_
   refine yR ?_
   refine zA fun b5 => ?_
   refine zE 0 ?_
   refine zN (zU (zQ (zQ (zG (zR 1 rfl ?_)))))
   refine yL (Rd.add (Rd.blk 0 rfl) _) ?_
   refine zR 2 rfl ?_
   refine yP ?_
   refine yG (Rd.addC (Rd.blkC 0 rfl) _) ?_
   refine yP ?_
   refine yO ?_
   refine zR 1 rfl ?_
   refine yP ?_
   refine yG (Rd.addC (Rd.blkC 0 rfl) _) ?_
   refine yP ?_
   refine yO ?_
   refine zR 1 rfl ?_
   refine yP ?_
   refine yG (Rd.addC (Rd.blkC 0 rfl) _) ?_
   refine yP ?_
   refine yO ?_
   refine zR 1 rfl ?_
   refine yP ?_
   refine yG (Rd.addC (Rd.blkC 0 rfl) _) ?_
   refine yP ?_
   refine yO ?_
   refine zR 1 rfl ?_
   refine yP ?_
   refine yG (Rd.addC (Rd.blkC 0 rfl) _) ?_
   refine yP ?_
   refine yO ?_
   refine zN (zU ?_)
   refine W.cond rfl (fun hc2 => ?_) (fun hc2 => ?_)
   ·try simp only [zk] at hc2
    rw [if_pos (show BadP (nth ps k) by unfold BadP; omega)] at hv
    refine zQ (zG (zR 1 rfl (zN (zU (zT (wt (wb (wt (wt (wb (wt ?_)))))))))))
    refine sE (E := E) ?_
    refine WE.retF tab_ok [_] rfl ⟨rfl, trivial⟩ (RLe.refl _) ?_
    exact ⟨by unfold validate; rw [if_neg (show ¬ 60 < ps.length by omega), ← hv]; rfl, rfl⟩
   ·try simp only [zk] at hc2
    rw [if_neg (show ¬ BadP (nth ps k) by unfold BadP; omega)] at hv
    refine zK (zU (zQ (zQ (zG (zR 1 rfl ?_)))))
    refine yL (Rd.add (Rd.blk 0 rfl) _) ?_
    refine zR 2 rfl (zN (zU ?_))
    refine W.condD rfl (fun hc3 => ?_) (fun hc3 => ?_)
    ·try dsimp only at hc3
     rw [if_pos hc3] at hv
     refine zQ (zG (zR 1 rfl (zN (zU (zT (wt (wb (wt (wt (wb (wt ?_)))))))))))
     refine sE (E := E) ?_
     refine WE.retF tab_ok [_] rfl ⟨rfl, trivial⟩ (RLe.refl _) ?_
     exact ⟨by unfold validate; rw [if_neg (show ¬ 60 < ps.length by omega), ← hv]; rfl, rfl⟩
    ·try dsimp only at hc3
     rw [if_neg hc3] at hv
     refine zK (zU (zG (zR 1 rfl ?_)))
     refine yL (Rd.add (Rd.blk 0 rfl) _) ?_
     refine zR 1 rfl (zN (zL (zU (zG ?_))))
     refine yA ?_
     refine zR 1 rfl (zN ?_)
     refine WE.again ((k + 1, (nth ps k).time)) (⟨by dsimp only; omega, hv⟩) (by (try dsimp only); omega) ⟨rfl, rfl, rfl, rfl, rfl, rfl⟩ (RLe.refl _) qS
  ·try dsimp only at hc1
   obtain rfl : k = ps.length := by omega
   simp only [List.drop_length, valGo] at hv
   refine zX ?_
   refine wx (wx (zY (zU (zQ (zG (zR 1 rfl (zN (zU (zT ?_)))))))))
   refine sE (E := E) ?_
   refine WE.retF tab_ok [_] rfl ⟨rfl, trivial⟩ (RLe.refl _) ?_
   exact ⟨by unfold validate; rw [if_neg (show ¬ 60 < ps.length by omega), ← hv]; rfl, rfl⟩

theorem ValidateR_V {R : Ro} {a : Option Addr} {c : Nat} {ps : List Pkt} (ha : RS R 3 encP a ps) : FnV Tryz.prog 93 [.slice a ps.length c] R (.int .i64 (validate ps)) := by
 have hla := ha.len
 refine Fn.toV (fun w0 E => ?_)
 refine fE 59 Tryz.func93 ?_
 refine zQ (zG (zR 1 rfl (zN (zU (zQ (zQ (zG (zR 3 rfl (zN (zU ?_))))))))))
 refine W.condD rfl (fun hc0 => ?_) (fun hc0 => ?_)
 ·try dsimp only at hc0
  refine zQ (zG (zR 1 rfl (zN (zU (zT (wt ?_))))))
  refine sE (E := E) ?_
  refine WE.retF tab_ok [_] rfl ⟨rfl, trivial⟩ (RLe.refl _) ?_
  exact ⟨by unfold validate; rw [if_pos (show 60 < ps.length by omega)]; rfl, rfl⟩
 ·try dsimp only at hc0
  refine zK (zU (zQ (zQ (zG (zR 1 rfl (zN (zU (zB ?_))))))))
  refine W.loop (β := Nat) (fun k => k ≤ ps.length ∧ valGo (if k = 0 then 0 else (nth ps (k - 1)).time) (ps.drop k) = valGo 0 ps) (fun k => [(0, true, .slice a ps.length c), (3, true, .int .i64 (k : Int))]) (fun _ => R) (fun _ => E) (fun k => ps.length - k) (0) (⟨Nat.zero_le _, rfl⟩) ⟨rfl, rfl, rfl⟩ (RLe.refl _) qS ?_
  intro st hst
  obtain ⟨hk, hv⟩ := hst
  have hk0 : st ≠ 0 → ((st : Int) - 1).toNat = st - 1 := by omega
  refine zQ (zQ (zG (zR 4 rfl (zN (zU ?_)))))
  refine W.condD rfl (fun hc1 => ?_) (fun hc1 => ?_)
  ·try dsimp only at hc1
   have hd := drop_nth (xs := ps) (k := st) (by omega)
   rw [hd, valGo] at hv
   refine zK (zU (zQ (zB (zQ (zG (zR 2 rfl ?_))))))
   refine WG.y rfl rfl qD (Yl.indexN tab_ok rfl rfl rfl rfl rfl rfl (fun _ => rfl) qN qH) ?_
   refine yR ?_
   refine zA fun b4 => ?_
   refine zE 0 ?_
   refine zN (zU (zQ (zQ (zG (zR 1 rfl ?_)))))
   refine yL (Rd.add (Rd.blk 0 rfl) _) ?_
   refine zR 2 rfl ?_
   refine yP ?_
   refine yG (Rd.addC (Rd.blkC 0 rfl) _) ?_
   refine yP ?_
   refine yO ?_
   refine zR 1 rfl ?_
   refine yP ?_
   refine yG (Rd.addC (Rd.blkC 0 rfl) _) ?_
   refine yP ?_
   refine yO ?_
   refine zR 1 rfl ?_
   refine yP ?_
   refine yG (Rd.addC (Rd.blkC 0 rfl) _) ?_
   refine yP ?_
   refine yO ?_
   refine zR 1 rfl ?_
   refine yP ?_
   refine yG (Rd.addC (Rd.blkC 0 rfl) _) ?_
   refine yP ?_
   refine yO ?_
   refine zR 1 rfl ?_
   refine yP ?_
   refine yG (Rd.addC (Rd.blkC 0 rfl) _) ?_
   refine yP ?_
   refine yO ?_
   refine zN (zU ?_)
   refine W.cond rfl (fun hc2 => ?_) (fun hc2 => ?_)
   ·try simp only [zk] at hc2
    rw [if_pos (show BadP (nth ps st) by unfold BadP; omega)] at hv
    refine zQ (zG (zR 1 rfl (zN (zU (zT (wt (wb (wt (wt (wb (wt ?_)))))))))))
    refine sE (E := E) ?_
    refine WE.retF tab_ok [_] rfl ⟨rfl, trivial⟩ (RLe.refl _) ?_
    exact ⟨by unfold validate; rw [if_neg (show ¬ 60 < ps.length by omega), ← hv]; rfl, rfl⟩
   ·try simp only [zk] at hc2
    rw [if_neg (show ¬ BadP (nth ps st) by unfold BadP; omega)] at hv
    refine zK (zU (zQ ?_))
    refine W.regionQ _ mixed qK ?_
    refine zR 3 rfl ?_
    refine yP ?_
    refine yG (Rd.addC (Rd.blkC 0 rfl) _) ?_
    refine yP ?_
    refine yP ?_
    refine WG.y rfl rfl (by decide) (Yl.sub rfl rfl rfl qE (by intro hg; (try simp only [zk] at hg); constructor <;> (try dsimp only) <;> omega)) ?_
    refine WG.y rfl rfl (by decide) (Yl.index tab_ok rfl rfl rfl rfl rfl rfl qE (by intro hg; (try simp only [zk] at hg); constructor <;> (try dsimp only) <;> omega) (by intro hg; (try simp only [zk] at hg); first | exact qI)) ?_
    refine yP ?_
    refine' WG.y rfl rfl qD (Yl.loadG tab_ok rfl rfl rfl qE ?r9 rfl ?h9 ?g9) ?_
    case r9 => apply Rd.addC; ((apply RS.rdC; assumption))
    case h9 => rfl
    case g9 => (intro hg; (try simp only [zk] at hg); (try dsimp only); omega)
    refine yP ?_
    refine yN ?_
    refine zN (zU ?_)
    refine W.cond rfl (fun hc3 => ?_) (fun hc3 => ?_)
    ·try simp only [zk] at hc3
     obtain ⟨hc4, hc5⟩ := hc3
     rw [hk0 (by omega)] at hc5
     rw [if_neg (show ¬ st = 0 by omega), if_pos hc5] at hv
     refine zQ (zG (zR 1 rfl (zN (zU (zT (wb (wt (wt (wb (wt ?_))))))))))
     refine sE (E := E) ?_
     refine WE.retF tab_ok [_] rfl ⟨rfl, trivial⟩ (RLe.refl _) ?_
     exact ⟨by unfold validate; rw [if_neg (show ¬ 60 < ps.length by omega), ← hv]; rfl, rfl⟩
    ·try simp only [zk] at hc3
     have hc4 : ¬ (nth ps st).time < (if st = 0 then 0 else (nth ps (st - 1)).time) := by
      split
      ·have hb : ¬ BadP (nth ps st) := by unfold BadP; omega
       unfold BadP at hb; omega
      ·rw [← hk0 (by omega)]
       have := hc3 (by omega); omega
     rw [if_neg hc4] at hv
     refine zK (zL (zU (zG (zR 1 rfl ?_))))
     refine yA ?_
     refine zR 1 rfl (zN ?_)
     refine WE.again (st + 1) (⟨by omega, by simpa using hv⟩) (by (try dsimp only); omega) ⟨rfl, rfl, rfl⟩ (RLe.refl _) qS
  ·try dsimp only at hc1
   obtain rfl : st = ps.length := by omega
   simp only [List.drop_length, valGo] at hv
   refine zX ?_
   refine wx (wx (zY (zU (zQ (zG (zR 1 rfl (zN (zU (zT ?_)))))))))
   refine sE (E := E) ?_
   refine WE.retF tab_ok [_] rfl ⟨rfl, trivial⟩ (RLe.refl _) ?_
   exact ⟨by unfold validate; rw [if_neg (show ¬ 60 < ps.length by omega)]; exact congrArg (Value.int .i64) hv, rfl⟩



theorem WaitsR_V {R : Ro} {pa ga da oa : Option Addr} {pc gc dl dc ol oc : Nat} {ps : List Pkt} {st : St} (hp : RS R 3 encP pa ps) (hgv : RS R 1 encI ga st.given) (hgl : st.given.length = ps.length) {i : Nat} (hi : i < ps.length) : FnV Tryz.prog 155 [.agg #[.int .i64 st.time, .slice ga st.given.length gc, .int .i64 st.now, .slice da dl dc, .slice oa ol oc], .slice pa ps.length pc, .int .i64 i] R (.bool (waits ps st i)) := by
 have hla := hp.len
 refine Fn.toV (fun w0 E => ?_)
 refine fE 29 Tryz.func155 ?_
 refine zQ (zG ?_)
 refine zO fun b3 => ?_
 refine zR 1 rfl (zN (zU (zQ ?_)))
 refine W.regionQ _ mixed qK ?_
 refine zR 2 rfl ?_
 refine WG.y rfl rfl qD (Yl.indexN tab_ok rfl rfl rfl rfl rfl rfl (fun _ => rfl) qN qH) ?_
 refine zR 1 rfl ?_
 refine' WG.y rfl rfl qD (Yl.load1 tab_ok rfl rfl rfl (fun _ => rfl) ?r1 rfl ?h1) ?_
 case r1 => apply Rd.add; ((apply RS.rdD; assumption; ((try dsimp only) <;> omega)))
 case h1 => rfl
 refine zR 1 rfl ?_
 refine yL (Rd.add (Rd.blk 0 rfl) _) ?_
 refine zR 2 rfl ?_
 refine yP ?_
 refine yG (Rd.addC (Rd.blkC 0 rfl) _) ?_
 refine yP ?_
 refine WG.y rfl rfl (by decide) (Yl.indexN tab_ok rfl rfl rfl rfl rfl rfl qE (by intro hg; (try simp only [zk] at hg); (try dsimp only) <;> omega) (by intro hg; (try simp only [zk] at hg); first | exact qI)) ?_
 refine' WG.y rfl rfl qD (Yl.loadG tab_ok rfl rfl rfl qE ?r4 rfl ?h4 ?g4) ?_
 case r4 => ((apply RS.rdC; assumption))
 case h4 => rfl
 case g4 => (intro hg; (try simp only [zk] at hg); (try dsimp only); omega)
 refine yP ?_
 refine yN ?_
 refine zR 1 rfl ?_
 refine yP ?_
 refine yG (Rd.addC (Rd.blkC 0 rfl) _) ?_
 refine yP ?_
 refine yP ?_
 refine yN ?_
 refine zR 1 rfl (zN (zU (zT ?_)))
 refine sE (E := E) ?_
 refine WE.retF tab_ok [_] rfl ⟨rfl, trivial⟩ (RLe.refl _) ?_
 exact ⟨rfl, rfl⟩

theorem FirstR_V {R : Ro} {pa ga da oa : Option Addr} {pc gc dl dc ol oc : Nat} {ps : List Pkt} {st : St} (hp : RS R 3 encP pa ps) (hgv : RS R 1 encI ga st.given) (hgl : st.given.length = ps.length) {cls : Int} : FnV Tryz.prog 112 [.agg #[.int .i64 st.time, .slice ga st.given.length gc, .int .i64 st.now, .slice da dl dc, .slice oa ol oc], .slice pa ps.length pc, .int .i64 cls] R (.int .i64 (firstW ps st cls)) := by
 have hla := hp.len
 refine Fn.toV (fun w0 E => ?_)
 refine fE 32 Tryz.func112 ?_
 refine zQ (zG ?_)
 refine zO fun b3 => ?_
 refine zR 1 rfl (zN (zU (zQ (zQ (zG (zR 1 rfl (zN (zU (zB ?_)))))))))
 refine W.loopK (β := Nat) (fun i => i ≤ ps.length ∧ ∀ j, j < i → ((cls == -1 || (nth ps j).flow == cls) && waits ps st j) = false) (fun i => [(7, true, .int .i64 (i : Int))]) [1, 2, 3] [_, _, _] [] _ rfl (fun i => []) (fun i => ps.length - i) (0) (⟨Nat.zero_le _, fun j hj => by omega⟩) ⟨rfl, rfl, rfl, rfl, rfl⟩ qS ?_
 intro i hst
 dsimp only [zipE, setAll, List.cons_append, List.nil_append, List.set_cons_zero, List.set_cons_succ] at hst ⊢
 
 refine zQ (zQ (zG (zR 4 rfl (zN (zU ?_)))))
 refine W.condD rfl (fun hc0 => ?_) (fun hc0 => ?_)
 ·try dsimp only at hc0
  refine zK (zU (zQ (zB (zQ (zG (zR 3 rfl ?_))))))
  refine yP ?_
  refine yP ?_
  refine WG.y rfl rfl (by decide) (Yl.indexN tab_ok rfl rfl rfl rfl rfl rfl qE (by intro hg; (try simp only [zk] at hg); (try dsimp only) <;> omega) (by intro hg; (try simp only [zk] at hg); first | exact qI)) ?_
  refine yP ?_
  refine' WG.y rfl rfl qD (Yl.loadG tab_ok rfl rfl rfl qE ?r1 rfl ?h1 ?g1) ?_
  case r1 => apply Rd.addC; ((apply RS.rdC; assumption))
  case h1 => rfl
  case g1 => (intro hg; (try simp only [zk] at hg); (try dsimp only); omega)
  refine yP ?_
  refine yP ?_
  refine yO ?_
  refine zR 1 rfl ?_
  refine yG (Rd.blkC 0 rfl) ?_
  refine yP ?_
  refine yP ?_
  refine WG.callV en155 rfl rfl qD (CallOp.mk' rfl rfl rfl rfl) qE (fun hg => WaitsR_V hp hgv hgl (i := i) qO) ?_
  refine yN ?_
  refine zN (zU ?_)
  refine W.cond rfl (fun hc1 => ?_) (fun hc1 => ?_)
  ·try simp only [zk] at hc1
   have hP : ((cls == -1 || (nth ps i).flow == cls) && waits ps st i) = true := by simpa using hc1
   refine zQ (zG (zR 2 rfl (zN (zU (zT (wb (wt (wt (wb (wt ?_))))))))))
   refine sE (E := E) ?_
   refine WE.retF tab_ok [_] rfl ⟨rfl, trivial⟩ (RLe.refl _) ?_
   exact ⟨by rw [show firstW ps st cls = (i : Int) from findN_some (by omega) hP hst.2]; rfl, rfl⟩
  ·try simp only [zk] at hc1
   have hP : ((cls == -1 || (nth ps i).flow == cls) && waits ps st i) = false := by
    rw [← Bool.not_eq_true]; intro h; simp at h; simp [h] at hc1
   refine zK (zL (zU (zG (zR 1 rfl ?_))))
   refine yA ?_
   refine zR 1 rfl (zN ?_)
   refine WE.again (i + 1) (⟨by omega, fun j hj => by
    by_cases e : j = i
    ·subst e; exact hP
    ·exact hst.2 j (by omega)⟩) (by (try dsimp only); omega) ⟨rfl, rfl, rfl, rfl, rfl⟩ (RLe.refl _) qS
 ·try dsimp only at hc0
  refine zX ?_
  refine wx (wx (zY (zU (zQ (zG (zR 1 rfl (zN (zU (zT ?_)))))))))
  refine sE (E := E) ?_
  refine WE.retF tab_ok [_] rfl ⟨rfl, trivial⟩ (RLe.refl _) ?_
  exact ⟨by rw [show firstW ps st cls = -1 from findN_none (fun j hj => hst.2 j (by omega))]; rfl, rfl⟩

theorem BeginR_C {R : Ro} {ga da oa : Option Addr} {gl gc dl dc oc : Nat} {time now : Int} {rows : List Sl} (w0 : World) (hoa : oa.isSome = true) (hra : ∀ r ∈ rows, r.a.isSome = true ∧ 0 < r.xs.length ∧ r.xs.length ≤ 1000000) (hrl : rows.length ≤ 1000) (F : List Ent) :
 K.Fn Tryz.prog 107 [.agg #[.int .i64 time, .slice ga gl gc, .int .i64 now, .slice da dl dc, .slice oa rows.length oc]] w0 R (.sl 22 1 oa oc (rows.map encS) :: (rows.map (rowE 3) ++ F)) (fun v R' E' => ∃ rows' : List Sl, v = .agg #[.int .i64 time, .slice ga gl gc, .int .i64 now, .slice da dl dc, .slice oa rows.length oc] ∧ R = R' ∧ rows'.map Sl.xs = (rows.map Sl.xs).map (fun l : List Int => l ++ [nth l (l.length - 1)]) ∧ (∀ r ∈ rows', r.a.isSome = true) ∧ (.sl 22 1 oa oc (rows'.map encS) :: (rows'.map (rowE 3) ++ F)).Sublist E') := by
 refine fE 34 Tryz.func107 ?_
 refine zQ (zG ?_)
 refine zO fun b1 => ?_
 refine zA fun b2 => ?_
 refine zN (zU (zQ (zQ (zG (zR 1 rfl (zN (zU (zB ?_))))))))
 refine W.loop (β := Nat × List Sl) (fun (c, rws) => c ≤ rows.length ∧ rws.map Sl.xs = ((rows.map Sl.xs).take c).map (fun l : List Int => l ++ [nth l (l.length - 1)]) ++ (rows.map Sl.xs).drop c ∧ ∀ r ∈ rws, r.a.isSome = true) (fun (c, rws) => [(1, true, .pointer (some ⟨b1, 0, none⟩)), (2, true, .pointer (some ⟨b2, 0, none⟩)), (3, true, .int .i64 (c : Int))]) (fun _ => R) (fun (c, rws) => .blk b2 [.int .i64 0, .slice none 0 0, .int .i64 0, .slice none 0 0, .slice none 0 0] :: .blk b1 [.int .i64 time, .slice ga gl gc, .int .i64 now, .slice da dl dc, .slice oa rows.length oc] :: .sl 22 1 oa oc (rws.map encS) :: (rws.map (rowE 3) ++ F)) (fun (c, rws) => rows.length - c) ((0, rows)) (⟨Nat.zero_le _, by simp, fun r hr => (hra r hr).1⟩) ⟨rfl, rfl, rfl, rfl⟩ (RLe.refl _) qS ?_
 intro st hst
 obtain ⟨c, rws⟩ := st
 obtain ⟨g1, g2, g3⟩ := hst
 dsimp only at g1 g2 g3 ⊢
 have hlen : rws.length = rows.length := by
  have := congrArg List.length g2
  simp only [List.length_map, List.length_append, List.length_take, List.length_drop] at this
  omega
 refine zQ (zQ (zG (zR 3 rfl ?_)))
 refine yL (Rd.add (Rd.add (Rd.blk 1 rfl) _) _) ?_
 refine zR 2 rfl (zN (zU ?_))
 refine W.condD rfl (fun hc0 => ?_) (fun hc0 => ?_)
 ·try dsimp only at hc0
  have hcl : c < rws.length := by omega
  have hsome : (nth rws c).a.isSome = true := g3 _ (nth_mem hcl)
  have hxs : (nth rws c).xs = (nth rows c).xs := by
   rw [nth_map_xs g2 hcl, ext_nth (by simp; omega), nth_map_lt _ (by omega)]
  have hl0 := hra _ (nth_mem (xs := rows) (k := c) (by omega))
  have hxl : (nth rws c).xs.length = (nth rows c).xs.length := by rw [hxs]
  have hrow := rows_get (e := 3) (G := F) (rows := rws) (c := c) hcl
  have et : (((nth rws c).xs.length : Int) - 1).toNat = (nth rws c).xs.length - 1 := by omega
  refine zK (zU (zQ (zB (zQ (zG (zR 2 rfl ?_))))))
  refine yL (Rd.add (Rd.add (Rd.blk 1 rfl) _) _) ?_
  refine zR 1 rfl ?_
  refine WG.y rfl rfl qD (Yl.indexN tab_ok rfl rfl rfl rfl rfl rfl (fun _ => rfl) qN qH) ?_
  refine' WG.y rfl rfl qD (Yl.load1 tab_ok rfl rfl rfl (fun _ => rfl) ?r3 rfl ?h3) ?_
  case r3 => (exact Rd.slD 2 rfl qX)
  case h3 => rfl
  refine zR 1 rfl (zN (zU ?_))
  refine W.regionH _ (ES := [.blk b1 [.int .i64 time, .slice ga gl gc, .int .i64 now, .slice da dl dc, .slice oa rows.length oc]]) mixed ?_
  refine tP 0 ?_
  refine tP 1 ?_
  refine tL 2 (Rd.add (Rd.add (Rd.blk 0 rfl) _) _) ?_
  refine tP 3 ?_
  refine tP 4 ?_
  refine tP 5 ?_
  refine tP 6 ?_
  refine tP 7 ?_
  refine tS 8 ?_
  refine WA.take 9 rfl qK qK qK rfl rfl qD (Yl.index tab_ok rfl rfl rfl rfl rfl rfl (fun _ => rfl) qA qH) qS qR ?_
  refine' WA.yl 10 rfl qK rfl rfl qD (Yl.load1 tab_ok rfl rfl rfl (fun _ => rfl) ?r5 rfl ?h5) qS qR ?_
  case r5 => exact Rd.slD (c + 3) hrow qO
  case h5 => rfl
  refine WA.eff 11 rfl qK rfl rfl qD (Ef.buildSliceD (enc := encI) (parts := [.tmp 29]) [_] tab_ok rfl rfl rfl rfl rfl rfl rfl rfl qD qD (fun a30 => ?_))
  refine ⟨qR, qS, ?_⟩
  refine WA.eff 12 rfl (by kernel_rfl) rfl rfl (by decide) (Ef.appendD (c + 4) 0 tab_ok rfl rfl rfl rfl rfl rfl hrow rfl rfl rfl rfl (fun _ _ => rfl) (by simp only [List.length_cons, List.length_nil]; omega) (by simp only [List.length_cons, List.length_nil]; omega) (fun a31 c31 ha31 => ?_))
  refine ⟨qR, qS, ?_⟩
  refine WA.take 13 rfl qK qK qK rfl rfl qD (Yl.indexN tab_ok rfl rfl rfl rfl rfl rfl (fun _ => rfl) qN qH) qS qR ?_
  refine WA.effN 14 rfl qK rfl rfl (Ef.storeD (⟨a31, c31, (nth rws c).xs ++ [nth (nth rws c).xs (((nth rws c).xs.length : Int) - 1).toNat]⟩ : Sl) 3 tab_ok rfl rfl rfl rfl rfl qO rfl rfl rfl rfl ?_)
  refine ⟨qR, qS, ?_⟩
  refine WA.done qK ?_
  refine zL (zU (zG (zR 1 rfl ?_)))
  refine yA ?_
  refine zR 1 rfl (zN ?_)
  refine WE.again (c + 1, rws.set c ⟨a31, c31, (nth rws c).xs ++ [nth (nth rws c).xs (((nth rws c).xs.length : Int) - 1).toNat]⟩) ⟨by dsimp only; omega, by dsimp only; rw [List.map_set, g2, et]; dsimp only; rw [hxs, show (nth rows c).xs = nth (rows.map Sl.xs) c from (nth_map_lt _ (by omega)).symm]; exact ext_step (f := (fun l : List Int => l ++ [nth l (l.length - 1)])) (by simp; omega), all_set g3 (ha31 (by simp))⟩ (by dsimp only; omega) ⟨rfl, rfl, rfl, rfl⟩ (RLe.refl _) (by dsimp only; rw [← rows_set (by omega)]; exact List.Sublist.cons _ (List.Sublist.refl _))
 ·try dsimp only at hc0
  obtain rfl : c = rows.length := by omega
  rw [show (rows.map Sl.xs).take rows.length = rows.map Sl.xs by rw [List.take_of_length_le (by simp)], List.drop_eq_nil_of_le (by simp), List.append_nil] at g2
  refine zX ?_
  refine wx (wx (zY (zU (zQ (zG ?_)))))
  refine yL (Rd.blk 1 rfl) ?_
  refine zE 0 ?_
  refine zN (zU (zT ?_))
  refine WE.retF tab_ok [_] rfl ⟨⟨_, _, _, rfl, rfl, rfl, (Rd.blk 0 rfl), rfl⟩, trivial⟩ (RLe.refl _) ?_
  exact ⟨rws, rfl, rfl, g2, g3, qS⟩

theorem SendR_C {R : Ro} {pa ga da oa : Option Addr} {pc gc dc oc classes : Nat} {B : Int} {len : Nat} {ps : List Pkt} {st : St} {rows : List Sl} {most : Int} (w0 : World) (hoa : oa.isSome = true) (hp : RS R 3 encP pa ps) (hgv : RS R 1 encI ga st.given) (hdn : RS R 1 encI da st.done) (hi : RInv ps classes len B st) (hB : B ≤ 1000000000000) (hlen : 0 < len ∧ len ≤ 1000000) (hrx : rows.map Sl.xs = st.sent) (hra : ∀ r ∈ rows, r.a.isSome = true) (hn : st.now ≠ -1) (hm : 1 ≤ most ∧ most ≤ 1000000)
  (hsz : ∀ p ∈ ps, 1 ≤ p.size ∧ p.size ≤ 1000000) (hfl : ∀ p ∈ ps, 0 ≤ p.flow ∧ p.flow < classes) (hpl : ps.length ≤ 1000000) (F : List Ent) :
  K.Fn Tryz.prog 109 [.agg #[.int .i64 st.time, .slice ga st.given.length gc, .int .i64 st.now, .slice da st.done.length dc, .slice oa rows.length oc], .slice pa ps.length pc, .int .i64 most] w0 R (.sl 22 1 oa oc (rows.map encS) :: (rows.map (rowE 3) ++ F)) (fun v R' E' => ∃ (ga' da' : Option Addr) (gc' dc' : Nat) (rows' : List Sl), v = .tuple #[.agg #[.int .i64 (rsend ps most st).time, .slice ga' (rsend ps most st).given.length gc', .int .i64 (rsend ps most st).now, .slice da' (rsend ps most st).done.length dc', .slice oa rows.length oc], .int .i64 (rsendN ps most st)] ∧ RS R' 1 encI ga' (rsend ps most st).given ∧ RS R' 1 encI da' (rsend ps most st).done ∧ rows'.map Sl.xs = (rsend ps most st).sent ∧ (∀ r ∈ rows', r.a.isSome = true) ∧ (.sl 22 1 oa oc (rows'.map encS) :: (rows'.map (rowE 3) ++ F)).Sublist E') := by
 obtain ⟨n1, n2, n3⟩ := hi.now.resolve_left hn
 have hgl := hi.glen
 have hdl := hi.dlen
 have hit : st.now.toNat < ps.length := by omega
 have hfw := hfl _ (nth_mem hit)
 have hsw := hsz _ (nth_mem hit)
 have hgw := hi.giv _ hit
 have hrl : rows.length = classes := by rw [← hi.slen, ← hrx, List.length_map]
 have hf0 : (nth ps st.now.toNat).flow.toNat < rows.length := by omega
 have hxs := nth_map_xs hrx hf0
 have hsome : (nth rows (nth ps st.now.toNat).flow.toNat).a.isSome = true := hra _ (nth_mem hf0)
 have hrw := hi.rows _ (nth_mem (xs := st.sent) (k := (nth ps st.now.toNat).flow.toNat) (by rw [hi.slen]; omega))
 rw [← hxs] at hrw
 have hlast : 0 ≤ nth (nth rows (nth ps st.now.toNat).flow.toNat).xs ((nth rows (nth ps st.now.toNat).flow.toNat).xs.length - 1) ∧ nth (nth rows (nth ps st.now.toNat).flow.toNat).xs ((nth rows (nth ps st.now.toNat).flow.toNat).xs.length - 1) ≤ B := hrw.2 _ (nth_mem (by omega))
 have hrow := rows_get (e := 3) (G := F) (rows := rows) (c := (nth ps st.now.toNat).flow.toNat) hf0
 have et : (((nth rows (nth ps st.now.toNat).flow.toNat).xs.length : Int) - 1).toNat = (nth rows (nth ps st.now.toNat).flow.toNat).xs.length - 1 := by omega
 have hnn : 1 ≤ (rsendN ps most st) ∧ (rsendN ps most st) ≤ most := (hi.send hfl hlen.1 hn (by omega)).2
 have hnw : (if (nth ps st.now.toNat).size - nth st.given st.now.toNat < most then (nth ps st.now.toNat).size - nth st.given st.now.toNat else most) = (rsendN ps most st) := rfl
 have hgn : nth (st.given.set st.now.toNat (nth st.given st.now.toNat + (rsendN ps most st))) st.now.toNat = nth st.given st.now.toNat + (rsendN ps most st) := nth_set_self (by omega)
 have hglen : (st.given.set st.now.toNat (nth st.given st.now.toNat + (rsendN ps most st))).length = st.given.length := by simp
 have hRW : ((rows.set (nth ps st.now.toNat).flow.toNat ⟨(nth rows (nth ps st.now.toNat).flow.toNat).a, (nth rows (nth ps st.now.toNat).flow.toNat).cap, (nth rows (nth ps st.now.toNat).flow.toNat).xs.set ((nth rows (nth ps st.now.toNat).flow.toNat).xs.length - 1) (nth (nth rows (nth ps st.now.toNat).flow.toNat).xs ((nth rows (nth ps st.now.toNat).flow.toNat).xs.length - 1) + (rsendN ps most st))⟩)).map Sl.xs = (rsend ps most st).sent := by rw [List.map_set, hrx]; unfold rsend; dsimp only; rw [hxs]
 have hRA : ∀ r ∈ (rows.set (nth ps st.now.toNat).flow.toNat ⟨(nth rows (nth ps st.now.toNat).flow.toNat).a, (nth rows (nth ps st.now.toNat).flow.toNat).cap, (nth rows (nth ps st.now.toNat).flow.toNat).xs.set ((nth rows (nth ps st.now.toNat).flow.toNat).xs.length - 1) (nth (nth rows (nth ps st.now.toNat).flow.toNat).xs ((nth rows (nth ps st.now.toNat).flow.toNat).xs.length - 1) + (rsendN ps most st))⟩), r.a.isSome = true := all_set hra hsome
 have hRE : encS ⟨(nth rows (nth ps st.now.toNat).flow.toNat).a, (nth rows (nth ps st.now.toNat).flow.toNat).cap, (nth rows (nth ps st.now.toNat).flow.toNat).xs.set ((nth rows (nth ps st.now.toNat).flow.toNat).xs.length - 1) (nth (nth rows (nth ps st.now.toNat).flow.toNat).xs ((nth rows (nth ps st.now.toNat).flow.toNat).xs.length - 1) + (rsendN ps most st))⟩ = encS (nth rows (nth ps st.now.toNat).flow.toNat) := by unfold encS; simp
 have hRS : rows.map encS = ((rows.set (nth ps st.now.toNat).flow.toNat ⟨(nth rows (nth ps st.now.toNat).flow.toNat).a, (nth rows (nth ps st.now.toNat).flow.toNat).cap, (nth rows (nth ps st.now.toNat).flow.toNat).xs.set ((nth rows (nth ps st.now.toNat).flow.toNat).xs.length - 1) (nth (nth rows (nth ps st.now.toNat).flow.toNat).xs ((nth rows (nth ps st.now.toNat).flow.toNat).xs.length - 1) + (rsendN ps most st))⟩)).map encS := (encS_set hf0 (by simp)).symm
 have hrs : (rows.map (rowE 3) ++ F).set (nth ps st.now.toNat).flow.toNat (.sl 3 1 (nth rows (nth ps st.now.toNat).flow.toNat).a (nth rows (nth ps st.now.toNat).flow.toNat).cap (((nth rows (nth ps st.now.toNat).flow.toNat).xs.set (((nth rows (nth ps st.now.toNat).flow.toNat).xs.length : Int) - 1).toNat (nth (nth rows (nth ps st.now.toNat).flow.toNat).xs ((nth rows (nth ps st.now.toNat).flow.toNat).xs.length - 1) + (rsendN ps most st))).map encI)) = ((rows.set (nth ps st.now.toNat).flow.toNat ⟨(nth rows (nth ps st.now.toNat).flow.toNat).a, (nth rows (nth ps st.now.toNat).flow.toNat).cap, (nth rows (nth ps st.now.toNat).flow.toNat).xs.set ((nth rows (nth ps st.now.toNat).flow.toNat).xs.length - 1) (nth (nth rows (nth ps st.now.toNat).flow.toNat).xs ((nth rows (nth ps st.now.toNat).flow.toNat).xs.length - 1) + (rsendN ps most st))⟩)).map (rowE 3) ++ F := by rw [et, ← rows_set hf0]; rfl
 refine fE 90 Tryz.func109 ?_
 refine zQ (zG ?_)
 refine zO fun b3 => ?_
 refine zA fun b6 => ?_
 refine zR 1 rfl (zN (zU (zQ (zG (zR 1 rfl ?_)))))
 refine yL (Rd.add (Rd.blk 1 rfl) _) ?_
 refine zR 1 rfl (zN (zU (zQ ?_)))
 refine W.regionQ _ mixed qK ?_
 refine zR 3 rfl ?_
 refine WG.y rfl rfl qD (Yl.index tab_ok rfl rfl rfl rfl rfl rfl (fun _ => rfl) qA (by intro _; first | exact fun _ _ _ h => ha30 h | exact fun _ _ _ h => ha78 h | exact qI)) ?_
 refine zR 1 rfl ?_
 refine' WG.y rfl rfl qD (Yl.load1 tab_ok rfl rfl rfl (fun _ => rfl) ?r2 rfl ?h2) ?_
 case r2 => apply Rd.add; ((apply RS.rdD; assumption; ((try dsimp only) <;> omega)))
 case h2 => rfl
 refine zR 1 rfl ?_
 refine yL (Rd.add (Rd.blk 1 rfl) _) ?_
 refine zR 1 rfl ?_
 refine WG.y rfl rfl qD (Yl.index tab_ok rfl rfl rfl rfl rfl rfl (fun _ => rfl) qA (by intro _; first | exact fun _ _ _ h => ha30 h | exact fun _ _ _ h => ha78 h | exact qI)) ?_
 refine yR ?_
 refine yS ?_
 refine zR 2 rfl (zN (zU ?_))
 refine W.nil 3 1 qD ?_
 refine zQ (zG (zR 1 rfl ?_))
 refine yL (Rd.add (Rd.blk 2 rfl) _) ?_
 refine WL.ef rfl rfl qD (Ef.cloneR (enc := encI) 0 tab_ok rfl rfl rfl rfl rfl rfl rfl rfl rfl rfl hgv (fun _ _ => rfl) (by dsimp only; omega) qO (fun a30 c30 ha30 => ?_))
 refine zR 1 rfl (zN (zU (zQ (zG (zR 4 rfl ?_)))))
 refine WG.y rfl rfl qD (Yl.index tab_ok rfl rfl rfl rfl rfl rfl (fun _ => rfl) qA (by intro _; first | exact fun _ _ _ h => ha30 h | exact fun _ _ _ h => ha78 h | exact qI)) ?_
 refine' WG.y rfl rfl qD (Yl.load1 tab_ok rfl rfl rfl (fun _ => rfl) ?r6 rfl ?h6) ?_
 case r6 => exact Rd.slD 0 rfl (show (st.now).toNat < st.given.length by omega)
 case h6 => rfl
 refine zR 1 rfl ?_
 refine yA ?_
 refine WG.y rfl rfl qD (Yl.index tab_ok rfl rfl rfl rfl rfl rfl (fun _ => rfl) qA (by intro _; first | exact fun _ _ _ h => ha30 h | exact fun _ _ _ h => ha78 h | exact qI)) ?_
 refine WL.efN rfl rfl (Ef.storeD (enc := encI) (xs := st.given) (nth st.given st.now.toNat + (rsendN ps most st)) 0 tab_ok rfl rfl rfl rfl rfl qO rfl rfl rfl rfl ?_)
 refine zN (zU (zQ (zG (zR 2 rfl ?_))))
 refine zF 2 ?_
 refine zN (zU (zQ ?_))
 refine W.regionQ _ mixed qK ?_
 refine zR 2 rfl ?_
 refine yL (Rd.add (Rd.add (Rd.blk 2 rfl) _) _) ?_
 refine zR 2 rfl ?_
 refine WG.y rfl rfl qD (Yl.index tab_ok rfl rfl rfl rfl rfl rfl (fun _ => rfl) qA (by intro _; first | exact fun _ _ _ h => ha30 h | exact fun _ _ _ h => ha78 h | exact qI)) ?_
 refine zR 1 rfl ?_
 refine' WG.y rfl rfl qD (Yl.load1 tab_ok rfl rfl rfl (fun _ => rfl) ?r8 rfl ?h8) ?_
 case r8 => apply Rd.add; ((apply RS.rdD; assumption; ((try dsimp only) <;> omega)))
 case h8 => rfl
 refine WG.y rfl rfl qD (Yl.index tab_ok rfl rfl rfl rfl rfl rfl (fun _ => rfl) qA (by intro _; first | exact fun _ _ _ h => ha30 h | exact fun _ _ _ h => ha78 h | exact qI)) ?_
 refine' WG.y rfl rfl qD (Yl.load1 tab_ok rfl rfl rfl (fun _ => rfl) ?r9 rfl ?h9) ?_
 case r9 => exact Rd.slD 3 rfl qO
 case h9 => rfl
 refine zR 1 rfl (zN (zU (zQ (zG (zR 3 rfl ?_)))))
 refine yS ?_
 refine zR 3 rfl ?_
 refine yS ?_
 refine WG.y rfl rfl qD (Yl.index tab_ok rfl rfl rfl rfl rfl rfl (fun _ => rfl) qA (by intro _; first | exact fun _ _ _ h => ha30 h | exact fun _ _ _ h => ha78 h | exact qI)) ?_
 refine' WG.y rfl rfl qD (Yl.load1 tab_ok rfl rfl rfl (fun _ => rfl) ?r10 rfl ?h10) ?_
 case r10 => exact Rd.slD ((nth ps st.now.toNat).flow.toNat + 4) hrow qO
 case h10 => rfl
 refine zR 1 rfl ?_
 refine WG.y rfl rfl (by decide) (Yl.add rfl rfl rfl (fun _ => rfl) (by intro _; rw [et]; constructor <;> (try dsimp only) <;> omega)) ?_
 refine WG.y rfl rfl qD (Yl.index tab_ok rfl rfl rfl rfl rfl rfl (fun _ => rfl) qA (by intro _; first | exact fun _ _ _ h => ha30 h | exact fun _ _ _ h => ha78 h | exact qI)) ?_
 refine WL.efN rfl rfl (Ef.storeD (enc := encI) (xs := (nth rows (nth ps st.now.toNat).flow.toNat).xs) (nth (nth rows (nth ps st.now.toNat).flow.toNat).xs ((nth rows (nth ps st.now.toNat).flow.toNat).xs.length - 1) + (rsendN ps most st)) ((nth ps st.now.toNat).flow.toNat + 4) tab_ok rfl rfl rfl rfl hrow (by omega) (by rw [← et]; rfl) rfl rfl rfl ?_)
 refine zN (zU (zQ (zQ ?_)))
 refine W.regionQ _ mixed qK ?_
 refine zR 2 rfl ?_
 refine WG.y rfl rfl qD (Yl.index tab_ok rfl rfl rfl rfl rfl rfl (fun _ => rfl) qA (by intro _; first | exact fun _ _ _ h => ha30 h | exact fun _ _ _ h => ha78 h | exact qI)) ?_
 refine' WG.y rfl rfl qD (Yl.load1 tab_ok rfl rfl rfl (fun _ => rfl) ?r11 rfl ?h11) ?_
 case r11 => exact Rd.slD 0 rfl (show st.now.toNat < ((st.given.set st.now.toNat (nth st.given st.now.toNat + (rsendN ps most st)))).length by simp; omega)
 case h11 => rfl
 refine zR 2 rfl ?_
 refine WG.y rfl rfl qD (Yl.index tab_ok rfl rfl rfl rfl rfl rfl (fun _ => rfl) qA (by intro _; first | exact fun _ _ _ h => ha30 h | exact fun _ _ _ h => ha78 h | exact qI)) ?_
 refine zR 1 rfl ?_
 refine' WG.y rfl rfl qD (Yl.load1 tab_ok rfl rfl rfl (fun _ => rfl) ?r12 rfl ?h12) ?_
 case r12 => apply Rd.add; ((apply RS.rdD; assumption; ((try dsimp only) <;> omega)))
 case h12 => rfl
 refine zR 1 rfl (zN (zU ?_))
 refine W.condE rfl (fun hc0 => ?_) (fun hc0 => ?_)
 ·try dsimp only at hc0
  have he : nth st.given st.now.toNat + (rsendN ps most st) = (nth ps st.now.toNat).size := by rw [← hgn]; exact hc0
  refine W.freeze (enc := encI) (xs := (st.given.set st.now.toNat (nth st.given st.now.toNat + (rsendN ps most st)))) 0 rfl ?_
  intro R1 hR1 hgz
  have hdn := hdn.mono hR1
  refine W.nil 3 1 qD ?_
  refine zQ (zG (zR 2 rfl ?_))
  refine yL (Rd.add (Rd.add (Rd.blk 2 rfl) _) _) ?_
  refine WL.ef rfl rfl qD (Ef.cloneR (enc := encI) 0 tab_ok rfl rfl rfl rfl rfl rfl rfl rfl rfl rfl hdn (fun _ _ => rfl) (by dsimp only; omega) qO (fun a78 c78 ha78 => ?_))
  refine zR 1 rfl (zN (zU (zQ (zG (zR 3 rfl ?_)))))
  refine yL (Rd.add (Rd.blk 2 rfl) _) ?_
  refine WG.y rfl rfl qD (Yl.index tab_ok rfl rfl rfl rfl rfl rfl (fun _ => rfl) qA (by intro _; first | exact fun _ _ _ h => ha30 h | exact fun _ _ _ h => ha78 h | exact qI)) ?_
  refine WL.efN rfl rfl (Ef.storeD (enc := encI) (xs := st.done) (st.time : Int) 0 tab_ok rfl rfl rfl rfl rfl qO rfl rfl rfl rfl ?_)
  refine WL.freeze (enc := encI) (xs := st.done.set st.now.toNat (st.time : Int)) 0 rfl ?_
  intro R2 hR2 hdz
  refine zN (zU (zG (zR 3 rfl ?_)))
  refine WL.efN rfl rfl (Ef.store2 1 tab_ok rfl rfl rfl rfl rfl rfl rfl rfl ?_)
  refine zR 1 rfl ?_
  refine zF 1 ?_
  refine zN (zU (zQ (zG ?_)))
  refine yL (Rd.blk 1 rfl) ?_
  refine zR 1 rfl ?_
  refine zE 0 ?_
  refine zR 1 rfl (zN (zU (zT ?_)))
  refine WE.retF tab_ok [_, _] rfl ⟨⟨_, _, _, rfl, rfl, rfl, qB, rfl⟩, rfl, trivial⟩ ((by first | exact hR1.trans hR2 | exact hR1)) ?_
  exact ⟨a30, a78, c30, c78, _, by unfold rsend; dsimp only; simp only [if_pos he, List.length_set]; rfl, by unfold rsend; exact hgz.mono hR2, by unfold rsend; dsimp only; rw [if_pos he]; exact hdz, hRW, hRA, by rw [← hRS, ← hrs]; exact qS⟩
 ·try dsimp only at hc0
  have he : ¬ nth st.given st.now.toNat + (rsendN ps most st) = (nth ps st.now.toNat).size := by rw [← hgn]; exact hc0
  refine W.freeze (enc := encI) (xs := (st.given.set st.now.toNat (nth st.given st.now.toNat + (rsendN ps most st)))) 0 rfl ?_
  intro R1 hR1 hgz
  have hdn := hdn.mono hR1
  refine zK (zU (zQ (zG ?_)))
  refine yL (Rd.blk 1 rfl) ?_
  refine zR 1 rfl ?_
  refine zE 0 ?_
  refine zR 1 rfl (zN (zU (zT ?_)))
  refine WE.retF tab_ok [_, _] rfl ⟨⟨_, _, _, rfl, rfl, rfl, qB, rfl⟩, rfl, trivial⟩ ((by first | exact hR1.trans hR2 | exact hR1)) ?_
  exact ⟨a30, da, c30, dc, _, by unfold rsend; dsimp only; simp only [if_neg he, List.length_set]; rfl, by unfold rsend; exact hgz, by unfold rsend; dsimp only; rw [if_neg he]; exact hdn, hRW, hRA, by rw [← hRS, ← hrs]; exact qS⟩



theorem First_C {R : Ro} {sb : Nat} {pa : Option Addr} {pc bg : Nat} {ps : List Pkt} {ms : MS} (w0 : World) (hp : RS R 3 encP pa ps) (hb : ms.begun.length = ps.length) (hbf : ms.before ≤ ps.length) (F : List Ent) :
  K.Fn Tryz.prog 192 [.pointer (some ⟨sb, 0, none⟩)] w0 R (stE sb pa ps.length pc bg ms :: .sl 4 1 (some ⟨bg, 0, none⟩) ps.length (ms.begun.map encB) :: F)
   (fun v R' E' => v = .int .i64 (firstR ps ms) ∧ R = R' ∧ E' = stE sb pa ps.length pc bg { ms with before := skipTo ms.begun ms.before } :: .sl 4 1 (some ⟨bg, 0, none⟩) ps.length (ms.begun.map encB) :: F) := by
 have hla := hp.len
 refine fE 64 Tryz.func192 ?_
 refine zQ (zG (zR 1 rfl (zN (zU (zQ (zB ?_))))))
 refine W.loop (β := Nat) (fun k => k ≤ ps.length ∧ skipTo ms.begun k = skipTo ms.begun ms.before) (fun k => [(0, true, .pointer (some ⟨sb, 0, none⟩))]) (fun _ => R) (fun k => stE sb pa ps.length pc bg { ms with before := k } :: .sl 4 1 (some ⟨bg, 0, none⟩) ps.length (ms.begun.map encB) :: F) (fun k => ps.length - k) (ms.before) (⟨hbf, rfl⟩) ⟨rfl, rfl⟩ (RLe.refl _) qS ?_
 intro st hst
 obtain ⟨hk, hsk⟩ := hst
 refine zQ (zQ ?_)
 refine W.regionQ _ mixed qK ?_
 refine zR 3 rfl ?_
 refine yL (Rd.add (Rd.blk 0 rfl) _) ?_
 refine zR 3 rfl ?_
 refine yL (Rd.add (Rd.blk 0 rfl) _) ?_
 refine zR 3 rfl ?_
 refine yP ?_
 refine yP ?_
 refine yP ?_
 refine yG (Rd.addC (Rd.blkC 0 rfl) _) ?_
 refine yP ?_
 refine yP ?_
 refine yP ?_
 refine yG (Rd.addC (Rd.blkC 0 rfl) _) ?_
 refine WG.y rfl rfl (by decide) (Yl.indexN tab_ok rfl rfl rfl rfl rfl rfl qE (by intro hg; (try simp only [zk] at hg); (try dsimp only) <;> omega) (by intro hg; (try simp only [zk] at hg); first | exact qI)) ?_
 refine' WG.y rfl rfl qD (Yl.loadG tab_ok rfl rfl rfl qE ?r5 rfl ?h5 ?g5) ?_
 case r5 => (exact Rd.slC 1 rfl)
 case h5 => rfl
 case g5 => (intro hg; (try simp only [zk] at hg); (try dsimp only); omega)
 refine yN ?_
 refine zN (zU ?_)
 refine W.cond rfl (fun hc0 => ?_) (fun hc0 => ?_)
 ·try simp only [zk] at hc0
  obtain ⟨hc1, hc2⟩ := hc0
  have hs := skipTo_true (l := ms.begun) (b := st) (by omega) hc2
  refine zK (zU (zB (zG (zR 3 rfl ?_))))
  refine yL (Rd.add (Rd.blk 0 rfl) _) ?_
  refine yA ?_
  refine zR 2 rfl ?_
  refine zF 0 ?_
  refine zN (zL ?_)
  refine WE.again (st + 1) (⟨by omega, by rw [hs, hsk]⟩) (by (try dsimp only); omega) ⟨rfl, rfl⟩ (RLe.refl _) qS
 ·try simp only [zk] at hc0
  have hs : skipTo ms.begun st = st := by
   by_cases hlt : st < ps.length
   ·exact skipTo_false (by omega) (hc0 (by omega))
   ·exact skipTo_end (by omega)
  rw [hs] at hsk
  have hfr : firstR ps ms = if st < ps.length ∧ (nth ps st).time ≤ ms.now then (st : Int) else -1 := by unfold firstR; rw [← hsk]
  refine zX ?_
  refine wx (wx (zY (zU (zQ (zQ ?_)))))
  refine W.regionQ _ mixed qK ?_
  refine zR 3 rfl ?_
  refine yL (Rd.add (Rd.blk 0 rfl) _) ?_
  refine zR 3 rfl ?_
  refine yL (Rd.add (Rd.blk 0 rfl) _) ?_
  refine zR 3 rfl ?_
  refine yP ?_
  refine yP ?_
  refine yP ?_
  refine yG (Rd.addC (Rd.blkC 0 rfl) _) ?_
  refine yP ?_
  refine yP ?_
  refine yP ?_
  refine yG (Rd.addC (Rd.blkC 0 rfl) _) ?_
  refine WG.y rfl rfl (by decide) (Yl.indexN tab_ok rfl rfl rfl rfl rfl rfl qE (by intro hg; (try simp only [zk] at hg); (try dsimp only) <;> omega) (by intro hg; (try simp only [zk] at hg); first | exact qI)) ?_
  refine yP ?_
  refine' WG.y rfl rfl qD (Yl.loadG tab_ok rfl rfl rfl qE ?r11 rfl ?h11 ?g11) ?_
  case r11 => apply Rd.addC; ((apply RS.rdC; assumption))
  case h11 => rfl
  case g11 => (intro hg; (try simp only [zk] at hg); (try dsimp only); omega)
  refine yP ?_
  refine yP ?_
  refine yP ?_
  refine yG (Rd.addC (Rd.blkC 0 rfl) _) ?_
  refine yP ?_
  refine yN ?_
  refine zN (zU ?_)
  refine W.cond rfl (fun hc1 => ?_) (fun hc1 => ?_)
  ·try simp only [zk] at hc1
   refine zQ (zG (zR 3 rfl ?_))
   refine yL (Rd.add (Rd.blk 0 rfl) _) ?_
   refine zR 1 rfl (zN (zU (zT (wt ?_))))
   refine WE.retF tab_ok [_] rfl ⟨rfl, trivial⟩ (RLe.refl _) ?_
   exact ⟨by rw [hfr, if_pos (by omega)]; rfl, rfl, by rw [← hsk]⟩
  ·try simp only [zk] at hc1
   refine zK (zU (zQ (zG (zR 1 rfl (zN (zU (zT ?_)))))))
   refine WE.retF tab_ok [_] rfl ⟨rfl, trivial⟩ (RLe.refl _) ?_
   exact ⟨by rw [hfr, if_neg (by omega)]; rfl, rfl, by rw [← hsk]⟩

theorem MRun_C {R : Ro} {pa : Option Addr} {pc : Nat} {ps : List Pkt} {cap : Int} {classes ticks : Nat} {g : FuncId} {first capd : Array Value} {σ : Type} {ch : MS → σ → Int × Nat × σ} {good : MS → σ → Prop} {X : σ → List Ent} {sg : σ} (w0 : World)
  (hp : RS R 3 encP pa ps) (hg : M.Good ps ch good) (hf : Fit ps classes) (h0 : good (M.start ps classes sg).ms sg) (hcap : 1 ≤ cap ∧ cap ≤ 1000000) (hcl : classes ≤ 1000) (htk : ticks ≤ 1000000) (hen : Enters Tryz.prog g)
  (hch : ∀ (sb bg : Nat) (ms : MS) (sg : σ) (F : List Ent), good ms sg → ms.begun.length = ps.length → 0 < ms.left → ms.left ≤ cap → 0 ≤ ms.now → ms.now < ticks →
   K.Fn Tryz.prog g (first.toList ++ [.pointer (some ⟨sb, 0, none⟩)] ++ capd.toList) w0 R (stE sb pa ps.length pc bg ms :: .sl 4 1 (some ⟨bg, 0, none⟩) ps.length (ms.begun.map encB) :: (X sg ++ F))
    (fun v R' E' => v = .int .i64 (ch ms sg).1 ∧ R = R' ∧ E' = stE sb pa ps.length pc bg { ms with before := (ch ms sg).2.1 } :: .sl 4 1 (some ⟨bg, 0, none⟩) ps.length (ms.begun.map encB) :: (X (ch ms sg).2.2 ++ F)))
  (F : List Ent) :
  K.Fn Tryz.prog 191 [.int .i64 cap, .int .i64 classes, .slice pa ps.length pc, .int .i64 ticks, .func (.func g) first capd] w0 R (X sg ++ F)
   (fun v R' E' => ∃ (rows : List Sl) (gd go : Nat) (s : M.RS σ), s = mrun ps ch cap classes ticks sg ∧ v = .agg #[.slice (some ⟨gd, 0, none⟩) ps.length ps.length, .slice (some ⟨go, 0, none⟩) classes classes] ∧ R = R' ∧ rows.map Sl.xs = s.sent ∧ (∀ r ∈ rows, r.a.isSome = true) ∧ Inv ps classes good (ticks + 1) (ticks * cap) s ∧
    (.sl 3 1 (some ⟨gd, 0, none⟩) ps.length (s.done.map encI) :: .sl 22 1 (some ⟨go, 0, none⟩) classes (rows.map encS) :: (rows.map (rowE 3) ++ (X s.sg ++ F))).Sublist E') := by
 have hlp := hf.len
 refine fE 160 Tryz.func191 ?_
 refine zQ (zG ?_)
 refine zA fun b10 => ?_
 refine zN (zU ?_)
 refine W.seqCut (β := Nat × Nat × Nat) (fun (b11, gd, go) => True) (fun (b11, gd, go) => [(0, true, .int .i64 cap), (1, true, .int .i64 classes), (2, true, .slice pa ps.length pc), (3, true, .int .i64 ticks), (4, true, .func (.func g) first capd), (10, true, .pointer (some ⟨b10, 0, none⟩)), (11, true, .pointer (some ⟨b11, 0, none⟩))]) (fun _ => R) (fun (b11, gd, go) => .blk b11 [.slice (some ⟨gd, 0, none⟩) ps.length ps.length, .slice (some ⟨go, 0, none⟩) classes classes] :: .sl 3 1 (some ⟨gd, 0, none⟩) ps.length ((List.replicate ps.length 0).map encI) :: .sl 22 1 (some ⟨go, 0, none⟩) classes ((List.replicate classes (⟨none, 0, []⟩ : Sl)).map encS) :: .blk b10 [.slice none 0 0, .slice none 0 0] :: (X sg ++ F)) ?_ ?_
 ·
  intro st hst
  obtain ⟨b11, gd, go⟩ := st
  dsimp only
  refine zQ (zQ (zG (zR 1 rfl ?_)))
  refine yL (Rd.add (Rd.blk 0 rfl) _) ?_
  refine zR 2 rfl (zN (zU (zB ?_)))
  refine W.loop (β := Nat × List Int) (fun (k, l) => l.length = ps.length ∧ k ≤ ps.length ∧ ∀ j, j < k → nth l j = -1) (fun (k, l) => [(0, true, .int .i64 cap), (1, true, .int .i64 classes), (2, true, .slice pa ps.length pc), (3, true, .int .i64 ticks), (4, true, .func (.func g) first capd), (10, true, .pointer (some ⟨b10, 0, none⟩)), (11, true, .pointer (some ⟨b11, 0, none⟩)), (28, true, .int .i64 ps.length), (29, true, .int .i64 (k : Int))]) (fun _ => R) (fun (k, l) => .blk b11 [.slice (some ⟨gd, 0, none⟩) ps.length ps.length, .slice (some ⟨go, 0, none⟩) classes classes] :: .sl 3 1 (some ⟨gd, 0, none⟩) ps.length (l.map encI) :: .sl 22 1 (some ⟨go, 0, none⟩) classes ((List.replicate classes (⟨none, 0, []⟩ : Sl)).map encS) :: .blk b10 [.slice none 0 0, .slice none 0 0] :: (X sg ++ F)) (fun (k, l) => ps.length - k) ((0, List.replicate ps.length 0)) (⟨by simp, Nat.zero_le _, fun j hj => by omega⟩) ⟨rfl, rfl, rfl, rfl, rfl, rfl, rfl, rfl, rfl, rfl⟩ (RLe.refl _) qS ?_
  intro st hst
  obtain ⟨k, l⟩ := st
  obtain ⟨h1, h2, h3⟩ := hst
  dsimp only at h1 h2 h3 ⊢
  refine zQ (zG (zR 1 rfl (zN (zU (zQ ?_)))))
  refine W.condD rfl (fun hc0 => ?_) (fun hc0 => ?_)
  ·try dsimp only at hc0
   refine zK (zU (zQ (zB (zQ (zG (zR 2 rfl (zN (zU (zG (zR 1 rfl ?_))))))))))
   refine yL (Rd.add (Rd.blk 0 rfl) _) ?_
   refine zR 1 rfl ?_
   refine WG.y rfl rfl qD (Yl.indexN tab_ok rfl rfl rfl rfl rfl rfl (fun _ => rfl) qN qH) ?_
   refine WL.efN rfl rfl (Ef.storeD _ 1 tab_ok rfl rfl rfl rfl rfl qX rfl rfl rfl rfl ?_)
   refine zN (zL (zU (zG ?_)))
   refine yA ?_
   refine zR 1 rfl (zN ?_)
   refine WE.again ((k + 1, l.set k (-1))) (⟨by simp [h1], by omega, fill_step (p := (· = -1)) (by omega) h3 rfl⟩) (by (try dsimp only); omega) ⟨rfl, rfl, rfl, rfl, rfl, rfl, rfl, rfl, rfl, rfl⟩ (RLe.refl _) qS
  ·try dsimp only at hc0
   have hk : k = ps.length := by omega
   subst k
   obtain rfl := replicate_of h1 h3
   refine zX ?_
   refine wx (wx (zY (zU (zQ (zQ (zG (zR 1 rfl ?_)))))))
   refine yL (Rd.add (Rd.blk 0 rfl) _) ?_
   refine zR 2 rfl (zN (zU (zB ?_)))
   refine W.loop (β := Nat × List Sl) (fun (k, rows) => rows.length = classes ∧ k ≤ classes ∧ ∀ j, j < k → (nth (rows : List Sl) j).a.isSome = true ∧ (nth rows j).xs = [0]) (fun (k, rows) => [(0, true, .int .i64 cap), (1, true, .int .i64 classes), (2, true, .slice pa ps.length pc), (3, true, .int .i64 ticks), (4, true, .func (.func g) first capd), (10, true, .pointer (some ⟨b10, 0, none⟩)), (11, true, .pointer (some ⟨b11, 0, none⟩)), (39, true, .int .i64 classes), (40, true, .int .i64 (k : Int))]) (fun _ => R) (fun (k, rows) => .blk b11 [.slice (some ⟨gd, 0, none⟩) ps.length ps.length, .slice (some ⟨go, 0, none⟩) classes classes] :: .sl 3 1 (some ⟨gd, 0, none⟩) ps.length ((List.replicate ps.length (-1)).map encI) :: .sl 22 1 (some ⟨go, 0, none⟩) classes (rows.map encS) :: .blk b10 [.slice none 0 0, .slice none 0 0] :: ((rows.take k).map (rowE 3) ++ (X sg ++ F))) (fun (k, rows) => classes - k) ((0, List.replicate classes ⟨none, 0, []⟩)) (⟨by simp, Nat.zero_le _, fun j hj => by omega⟩) ⟨rfl, rfl, rfl, rfl, rfl, rfl, rfl, rfl, rfl, rfl⟩ (RLe.refl _) qS ?_
   intro st hst
   obtain ⟨k, rows⟩ := st
   obtain ⟨h1, h2, h3⟩ := hst
   dsimp only at h1 h2 h3 ⊢
   refine zQ (zG (zR 1 rfl (zN (zU (zQ ?_)))))
   refine W.condD rfl (fun hc1 => ?_) (fun hc1 => ?_)
   ·try dsimp only at hc1
    refine zK (zU (zQ (zB (zQ (zG (zR 2 rfl (zN (zU ?_))))))))
    refine W.regionH _ (ES := [.blk b11 [.slice (some ⟨gd, 0, none⟩) ps.length ps.length, .slice (some ⟨go, 0, none⟩) classes classes]]) mixed ?_
    refine tP 0 ?_
    refine tL 1 (Rd.add (Rd.blk 0 rfl) _) ?_
    refine tP 2 ?_
    refine tP 3 ?_
    refine tA 4 ?_
    refine WA.eff 5 rfl qK rfl rfl qD (Ef.makeSliceD (enc := encI) 0 tab_ok rfl rfl rfl rfl rfl rfl qX qX qX qX qD rfl rfl (fun a48 => ?_))
    refine ⟨qR, qS, ?_⟩
    refine WA.take 6 rfl qK qK qK rfl rfl qD (Yl.indexN tab_ok rfl rfl rfl rfl rfl rfl (fun _ => rfl) qN qH) qS qR ?_
    refine WA.effN 7 rfl qK rfl rfl (Ef.storeD (⟨some ⟨a48, 0, none⟩, ticks + 1, [0]⟩ : Sl) 3 tab_ok rfl rfl rfl rfl rfl qO rfl rfl rfl rfl ?_)
    refine ⟨qR, qS, ?_⟩
    refine WA.done qK ?_
    refine zL (zU (zG ?_))
    refine yA ?_
    refine zR 1 rfl (zN ?_)
    refine WE.againP (k + 1, rows.set k ⟨some ⟨a48, 0, none⟩, ticks + 1, [0]⟩) ⟨by simp [h1], by omega, fill_step (p := fun r : Sl => r.a.isSome = true ∧ r.xs = [0]) (by omega) h3 ⟨rfl, rfl⟩⟩ (by dsimp only; omega) ⟨rfl, rfl, rfl, rfl, rfl, rfl, rfl, rfl, rfl, rfl⟩ (RLe.refl _) ⟨_, perm_row, by dsimp only; rw [← take_set_map (by omega)]; exact List.Sublist.refl _⟩
   ·try dsimp only at hc1
    have hk : k = classes := by omega
    subst k
    rw [List.take_of_length_le (by omega)]
    have hra : ∀ r ∈ rows, r.a.isSome = true := all_of_nth (fun j hj => (h3 j (by omega)).1)
    have hrx : rows.map Sl.xs = (M.start ps classes sg).sent := List.eq_replicate_iff.2 ⟨by simp [h1], fun x hx => by
     obtain ⟨r, hr, rfl⟩ := List.mem_map.1 hx
     exact all_of_nth (p := fun r => r.xs = [0]) (fun j hj => (h3 j qO).2) r hr⟩
    refine zX ?_
    refine wx (wx (zY (zU (zQ (zG (zR 3 rfl ?_))))))
    refine WL.ef rfl rfl qD (Ef.makeSliceD (enc := encB) false tab_ok rfl rfl rfl rfl rfl rfl qX qX qX qX qD rfl rfl (fun a54 => ?_))
    -- build
    refine WG.y rfl rfl qD (Yl.build (parts := [(2, .tmp 51), (3, .tmp 54)]) tab_ok rfl rfl rfl rfl (fun _ => rfl) rfl rfl) ?_
    refine zO fun b56 => ?_
    refine zR 1 rfl (zN (zU (zQ (zG (zR 2 rfl (zN (zU (zQ (zQ (zG (zR 2 rfl (zN (zU (zB ?_))))))))))))))
    refine W.loop (β := Nat × M.RS σ × List Sl) (fun (t, s, rows) => t ≤ ticks ∧ ticksFrom ps ch cap t (ticks - t) s = mrun ps ch cap classes ticks sg ∧ Inv ps classes good (t + 1) (t * cap) s ∧ rows.map Sl.xs = s.sent ∧ ∀ r ∈ rows, r.a.isSome = true) (fun (t, s, rows) => [(0, true, .int .i64 cap), (1, true, .int .i64 classes), (2, true, .slice pa ps.length pc), (3, true, .int .i64 ticks), (4, true, .func (.func g) first capd), (10, true, .pointer (some ⟨b10, 0, none⟩)), (11, true, .pointer (some ⟨b11, 0, none⟩)), (14, true, .pointer (some ⟨b56, 0, none⟩)), (15, true, .int .i64 s.cur), (16, true, .int .i64 s.rest), (57, true, .int .i64 ticks), (58, true, .int .i64 (t : Int))]) (fun _ => R) (fun (t, s, rows) => stE b56 pa ps.length pc a54 s.ms :: .sl 4 1 (some ⟨a54, 0, none⟩) ps.length (s.ms.begun.map encB) :: .blk b11 [.slice (some ⟨gd, 0, none⟩) ps.length ps.length, .slice (some ⟨go, 0, none⟩) classes classes] :: .sl 3 1 (some ⟨gd, 0, none⟩) ps.length (s.done.map encI) :: .sl 22 1 (some ⟨go, 0, none⟩) classes (rows.map encS) :: .blk b10 [.slice none 0 0, .slice none 0 0] :: (rows.map (rowE 3) ++ (X s.sg ++ F))) (fun (t, s, rows) => ticks - t) ((0, M.start ps classes sg, rows)) (⟨Nat.zero_le _, rfl, by simpa using Inv.start h0, hrx, hra⟩) ⟨rfl, rfl, rfl, rfl, rfl, rfl, rfl, rfl, rfl, rfl, rfl, rfl, rfl⟩ (RLe.refl _) qS ?_
    intro st hst
    obtain ⟨t, s, rows⟩ := st
    obtain ⟨h1, h2, h3, h4, h5⟩ := hst
    dsimp only at h1 h2 h3 h4 h5 ⊢
    refine zQ (zG (zR 1 rfl (zN (zU (zQ ?_)))))
    refine W.condD rfl (fun hc2 => ?_) (fun hc2 => ?_)
    ·try dsimp only at hc2
     have hbig : ((t : Int) + 1) * cap ≤ 1000000 * 1000000 := Int.mul_le_mul (by omega) hcap.2 (by omega) (by omega)
     refine zK (zU (zQ (zB (zQ (zG (zR 2 rfl (zN (zU (zQ (zG (zR 6 rfl ?_)))))))))))
     refine zF 0 ?_
     refine zR 2 rfl ?_
     refine zF 0 ?_
     refine zN (zU (zQ (zQ (zG (zR 1 rfl ?_)))))
     refine yL (Rd.add (Rd.blk 2 rfl) _) ?_
     refine zR 2 rfl (zN (zU (zB ?_)))
     refine W.loop (β := Nat × List Sl) (fun (c, rws) => c ≤ classes ∧ rws.map Sl.xs = (s.sent.take c).map (fun l => l ++ [nth l t]) ++ s.sent.drop c ∧ ∀ r ∈ rws, r.a.isSome = true) (fun (c, rws) => [(0, true, .int .i64 cap), (1, true, .int .i64 classes), (2, true, .slice pa ps.length pc), (3, true, .int .i64 ticks), (4, true, .func (.func g) first capd), (10, true, .pointer (some ⟨b10, 0, none⟩)), (11, true, .pointer (some ⟨b11, 0, none⟩)), (14, true, .pointer (some ⟨b56, 0, none⟩)), (15, true, .int .i64 s.cur), (16, true, .int .i64 s.rest), (57, true, .int .i64 ticks), (58, true, .int .i64 (t : Int)), (17, true, .int .i64 (t : Int)), (71, true, .int .i64 classes), (72, true, .int .i64 (c : Int))]) (fun _ => R) (fun (c, rws) => stE b56 pa ps.length pc a54 { s.ms with now := (t : Int), left := cap } :: .sl 4 1 (some ⟨a54, 0, none⟩) ps.length (s.ms.begun.map encB) :: .blk b11 [.slice (some ⟨gd, 0, none⟩) ps.length ps.length, .slice (some ⟨go, 0, none⟩) classes classes] :: .sl 3 1 (some ⟨gd, 0, none⟩) ps.length (s.done.map encI) :: .sl 22 1 (some ⟨go, 0, none⟩) classes (rws.map encS) :: .blk b10 [.slice none 0 0, .slice none 0 0] :: (rws.map (rowE 3) ++ (X s.sg ++ F))) (fun (c, rws) => classes - c) ((0, rows)) (⟨Nat.zero_le _, by simpa using h4, h5⟩) ⟨rfl, rfl, rfl, rfl, rfl, rfl, rfl, rfl, rfl, rfl, rfl, rfl, rfl, rfl, rfl, rfl⟩ (RLe.refl _) qS ?_
     intro st hst
     obtain ⟨c, rws⟩ := st
     obtain ⟨g1, g2, g3⟩ := hst
     dsimp only at g1 g2 g3 ⊢
     have hsl := h3.sent
     have hlen : rws.length = classes := by
      have := congrArg List.length g2
      simp only [List.length_map, List.length_append, List.length_take, List.length_drop] at this
      omega
     refine zQ (zG (zR 1 rfl (zN (zU (zQ ?_)))))
     refine W.condD rfl (fun hc3 => ?_) (fun hc3 => ?_)
     ·try dsimp only at hc3
      have hxs : (nth rws c).xs = nth s.sent c := by rw [nth_map_xs g2 (by omega), ext_nth (by omega)]
      have hsome : (nth rws c).a.isSome = true := g3 _ (nth_mem (by omega))
      have hxl : (nth rws c).xs.length = t + 1 := by rw [hxs]; exact (h3.row (by omega)).1
      have hrow := rows_get (e := 3) (G := X s.sg ++ F) (rows := rws) (c := c) (by omega)
      refine zK (zU (zQ (zB (zQ (zG (zR 2 rfl (zN (zU ?_))))))))
      refine W.regionH _ (ES := [.blk b11 [.slice (some ⟨gd, 0, none⟩) ps.length ps.length, .slice (some ⟨go, 0, none⟩) classes classes]]) mixed ?_
      refine tP 0 ?_
      refine tL 1 (Rd.add (Rd.blk 0 rfl) _) ?_
      refine tP 2 ?_
      refine tP 3 ?_
      refine tL 4 (Rd.add (Rd.blk 0 rfl) _) ?_
      refine tP 5 ?_
      refine WA.take 6 rfl qK qK qK rfl rfl qD (Yl.indexN tab_ok rfl rfl rfl rfl rfl rfl (fun _ => rfl) qN qH) qS qR ?_
      refine tP 8 ?_
      refine tL 9 (Rd.add (Rd.blk 0 rfl) _) ?_
      refine tP 10 ?_
      refine WA.take 11 rfl qK qK qK rfl rfl qD (Yl.indexN tab_ok rfl rfl rfl rfl rfl rfl (fun _ => rfl) qN qH) qS qR ?_
      refine tP 13 ?_
      refine WA.br2 (i := 7) (j := 12) qK ?_ ?_
      ·
       refine' WS.yl rfl rfl rfl qD (Yl.load1 tab_ok rfl rfl rfl (fun _ => rfl) ?r9 rfl ?h9) qS qR ?_
       case r9 => (exact Rd.slD 4 rfl qX)
       case h9 => rfl
       refine' WA.yl 12 rfl qK rfl rfl qD (Yl.load1 tab_ok rfl rfl rfl (fun _ => rfl) ?r10 rfl ?h10) qS qR ?_
       case r10 => (exact Rd.slD 4 rfl qX)
       case h10 => rfl
       refine WA.take 14 rfl qK qK qK rfl rfl qD (Yl.indexN tab_ok rfl rfl rfl rfl rfl rfl (fun _ => rfl) qN qH) qS qR ?_
       refine' WA.yl 15 rfl qK rfl rfl qD (Yl.load1 tab_ok rfl rfl rfl (fun _ => rfl) ?r11 rfl ?h11) qS qR ?_
       case r11 => exact Rd.slD (c + 6) hrow qO
       case h11 => rfl
       refine WA.eff 16 rfl qK rfl rfl qD (Ef.buildSliceD (enc := encI) (parts := [.tmp 90]) [_] tab_ok rfl rfl rfl rfl rfl rfl rfl rfl qD qD (fun a91 => ?_))
       refine ⟨qR, qS, ?_⟩
       refine WA.eff 17 rfl (by kernel_rfl) rfl rfl (by decide) (Ef.appendD (c + 7) 0 tab_ok rfl rfl rfl rfl rfl rfl hrow rfl rfl rfl rfl (fun _ _ => rfl) (by simp only [List.length_cons, List.length_nil]; omega) (by simp only [List.length_cons, List.length_nil]; omega) (fun a92 c92 ha92 => ?_))
       refine ⟨qR, qS, ?_⟩
       refine WA.take 18 rfl qK qK qK rfl rfl qD (Yl.indexN tab_ok rfl rfl rfl rfl rfl rfl (fun _ => rfl) qN qH) qS qR ?_
       refine WA.effN 19 rfl qK rfl rfl (Ef.storeD (⟨a92, c92, (nth rws c).xs ++ [nth (nth rws c).xs t]⟩ : Sl) 5 tab_ok rfl rfl rfl rfl rfl qO rfl rfl rfl rfl ?_)
       refine ⟨qR, qS, ?_⟩
       refine WA.done qK ?_
       refine zL (zU (zG ?_))
       refine yA ?_
       refine zR 1 rfl (zN ?_)
       refine WE.again (c + 1, rws.set c ⟨a92, c92, (nth rws c).xs ++ [nth (nth rws c).xs t]⟩) ⟨by dsimp only; omega, by dsimp only; rw [List.map_set, g2]; dsimp only; rw [hxs]; exact ext_step (by omega), all_set g3 (ha92 (by simp))⟩ (by dsimp only; omega) ⟨rfl, rfl, rfl, rfl, rfl, rfl, rfl, rfl, rfl, rfl, rfl, rfl, rfl, rfl, rfl, rfl⟩ (RLe.refl _) (by dsimp only; rw [← rows_set (by omega)]; exact List.Sublist.cons _ (List.Sublist.refl _))
      ·
       refine' WS.yl rfl rfl rfl qD (Yl.load1 tab_ok rfl rfl rfl (fun _ => rfl) ?r12 rfl ?h12) qS qR ?_
       case r12 => (exact Rd.slD 4 rfl qX)
       case h12 => rfl
       refine WA.take 14 rfl qK qK qK rfl rfl qD (Yl.indexN tab_ok rfl rfl rfl rfl rfl rfl (fun _ => rfl) qN qH) qS qR ?_
       refine WA.br2 (i := 7) (j := 15) qK ?_ ?_
       ·
        refine' WS.yl rfl rfl rfl qD (Yl.load1 tab_ok rfl rfl rfl (fun _ => rfl) ?r13 rfl ?h13) qS qR ?_
        case r13 => (exact Rd.slD 4 rfl qX)
        case h13 => rfl
        refine' WA.yl 15 rfl qK rfl rfl qD (Yl.load1 tab_ok rfl rfl rfl (fun _ => rfl) ?r14 rfl ?h14) qS qR ?_
        case r14 => exact Rd.slD (c + 6) hrow qO
        case h14 => rfl
        refine WA.eff 16 rfl qK rfl rfl qD (Ef.buildSliceD (enc := encI) (parts := [.tmp 90]) [_] tab_ok rfl rfl rfl rfl rfl rfl rfl rfl qD qD (fun a91 => ?_))
        refine ⟨qR, qS, ?_⟩
        refine WA.eff 17 rfl (by kernel_rfl) rfl rfl (by decide) (Ef.appendD (c + 7) 0 tab_ok rfl rfl rfl rfl rfl rfl hrow rfl rfl rfl rfl (fun _ _ => rfl) (by simp only [List.length_cons, List.length_nil]; omega) (by simp only [List.length_cons, List.length_nil]; omega) (fun a92 c92 ha92 => ?_))
        refine ⟨qR, qS, ?_⟩
        refine WA.take 18 rfl qK qK qK rfl rfl qD (Yl.indexN tab_ok rfl rfl rfl rfl rfl rfl (fun _ => rfl) qN qH) qS qR ?_
        refine WA.effN 19 rfl qK rfl rfl (Ef.storeD (⟨a92, c92, (nth rws c).xs ++ [nth (nth rws c).xs t]⟩ : Sl) 5 tab_ok rfl rfl rfl rfl rfl qO rfl rfl rfl rfl ?_)
        refine ⟨qR, qS, ?_⟩
        refine WA.done qK ?_
        refine zL (zU (zG ?_))
        refine yA ?_
        refine zR 1 rfl (zN ?_)
        refine WE.again (c + 1, rws.set c ⟨a92, c92, (nth rws c).xs ++ [nth (nth rws c).xs t]⟩) ⟨by dsimp only; omega, by dsimp only; rw [List.map_set, g2]; dsimp only; rw [hxs]; exact ext_step (by omega), all_set g3 (ha92 (by simp))⟩ (by dsimp only; omega) ⟨rfl, rfl, rfl, rfl, rfl, rfl, rfl, rfl, rfl, rfl, rfl, rfl, rfl, rfl, rfl, rfl⟩ (RLe.refl _) (by dsimp only; rw [← rows_set (by omega)]; exact List.Sublist.cons _ (List.Sublist.refl _))
       ·
        refine' WS.yl rfl rfl rfl qD (Yl.load1 tab_ok rfl rfl rfl (fun _ => rfl) ?r15 rfl ?h15) qS qR ?_
        case r15 => exact Rd.slD (c + 6) hrow qO
        case h15 => rfl
        refine WA.br2 (i := 7) (j := 16) qK ?_ ?_
        ·
         refine' WS.yl rfl rfl rfl qD (Yl.load1 tab_ok rfl rfl rfl (fun _ => rfl) ?r16 rfl ?h16) qS qR ?_
         case r16 => (exact Rd.slD 4 rfl qX)
         case h16 => rfl
         refine WA.eff 16 rfl qK rfl rfl qD (Ef.buildSliceD (enc := encI) (parts := [.tmp 90]) [_] tab_ok rfl rfl rfl rfl rfl rfl rfl rfl qD qD (fun a91 => ?_))
         refine ⟨qR, qS, ?_⟩
         refine WA.eff 17 rfl (by kernel_rfl) rfl rfl (by decide) (Ef.appendD (c + 7) 0 tab_ok rfl rfl rfl rfl rfl rfl hrow rfl rfl rfl rfl (fun _ _ => rfl) (by simp only [List.length_cons, List.length_nil]; omega) (by simp only [List.length_cons, List.length_nil]; omega) (fun a92 c92 ha92 => ?_))
         refine ⟨qR, qS, ?_⟩
         refine WA.take 18 rfl qK qK qK rfl rfl qD (Yl.indexN tab_ok rfl rfl rfl rfl rfl rfl (fun _ => rfl) qN qH) qS qR ?_
         refine WA.effN 19 rfl qK rfl rfl (Ef.storeD (⟨a92, c92, (nth rws c).xs ++ [nth (nth rws c).xs t]⟩ : Sl) 5 tab_ok rfl rfl rfl rfl rfl qO rfl rfl rfl rfl ?_)
         refine ⟨qR, qS, ?_⟩
         refine WA.done qK ?_
         refine zL (zU (zG ?_))
         refine yA ?_
         refine zR 1 rfl (zN ?_)
         refine WE.again (c + 1, rws.set c ⟨a92, c92, (nth rws c).xs ++ [nth (nth rws c).xs t]⟩) ⟨by dsimp only; omega, by dsimp only; rw [List.map_set, g2]; dsimp only; rw [hxs]; exact ext_step (by omega), all_set g3 (ha92 (by simp))⟩ (by dsimp only; omega) ⟨rfl, rfl, rfl, rfl, rfl, rfl, rfl, rfl, rfl, rfl, rfl, rfl, rfl, rfl, rfl, rfl⟩ (RLe.refl _) (by dsimp only; rw [← rows_set (by omega)]; exact List.Sublist.cons _ (List.Sublist.refl _))
        ·
         refine WS.eff rfl rfl rfl qD (Ef.buildSliceD (enc := encI) (parts := [.tmp 90]) [_] tab_ok rfl rfl rfl rfl rfl rfl rfl rfl qD qD (fun a91 => ?_))
         refine ⟨qR, qS, ?_⟩
         refine' WA.yl 7 rfl qK rfl rfl qD (Yl.load1 tab_ok rfl rfl rfl (fun _ => rfl) ?r17 rfl ?h17) qS qR ?_
         case r17 => (exact Rd.slD 5 rfl qX)
         case h17 => rfl
         refine WA.eff 17 rfl (by kernel_rfl) rfl rfl (by decide) (Ef.appendD (c + 7) 0 tab_ok rfl rfl rfl rfl rfl rfl hrow rfl rfl rfl rfl (fun _ _ => rfl) (by simp only [List.length_cons, List.length_nil]; omega) (by simp only [List.length_cons, List.length_nil]; omega) (fun a92 c92 ha92 => ?_))
         refine ⟨qR, qS, ?_⟩
         refine WA.take 18 rfl qK qK qK rfl rfl qD (Yl.indexN tab_ok rfl rfl rfl rfl rfl rfl (fun _ => rfl) qN qH) qS qR ?_
         refine WA.effN 19 rfl qK rfl rfl (Ef.storeD (⟨a92, c92, (nth rws c).xs ++ [nth (nth rws c).xs t]⟩ : Sl) 5 tab_ok rfl rfl rfl rfl rfl qO rfl rfl rfl rfl ?_)
         refine ⟨qR, qS, ?_⟩
         refine WA.done qK ?_
         refine zL (zU (zG ?_))
         refine yA ?_
         refine zR 1 rfl (zN ?_)
         refine WE.again (c + 1, rws.set c ⟨a92, c92, (nth rws c).xs ++ [nth (nth rws c).xs t]⟩) ⟨by dsimp only; omega, by dsimp only; rw [List.map_set, g2]; dsimp only; rw [hxs]; exact ext_step (by omega), all_set g3 (ha92 (by simp))⟩ (by dsimp only; omega) ⟨rfl, rfl, rfl, rfl, rfl, rfl, rfl, rfl, rfl, rfl, rfl, rfl, rfl, rfl, rfl, rfl⟩ (RLe.refl _) (by dsimp only; rw [← rows_set (by omega)]; exact List.Sublist.cons _ (List.Sublist.refl _))
     ·try dsimp only at hc3
      have hc : c = classes := by omega
      subst c
      have hrx1 : rws.map Sl.xs = s.sent.map (fun l => l ++ [nth l t]) := by rw [g2, List.take_of_length_le (by omega), List.drop_eq_nil_of_le (by omega), List.append_nil]
      refine zX ?_
      refine wx (wx (zY (zU (zB ?_))))
      refine W.loop (β := M.RS σ × List Sl) (fun (s1, rws) => (∃ k : Nat, inner ps ch t k s1 = tick ps ch cap t s ∧ s1.ms.left ≤ k) ∧ (∃ B, Inv ps classes good (t + 2) B s1 ∧ B + s1.ms.left ≤ (t + 1) * cap) ∧ 0 ≤ s1.ms.left ∧ s1.ms.left ≤ cap ∧ s1.ms.now = t ∧ rws.map Sl.xs = s1.sent ∧ ∀ r ∈ rws, r.a.isSome = true) (fun (s1, rws) => [(0, true, .int .i64 cap), (1, true, .int .i64 classes), (2, true, .slice pa ps.length pc), (3, true, .int .i64 ticks), (4, true, .func (.func g) first capd), (10, true, .pointer (some ⟨b10, 0, none⟩)), (11, true, .pointer (some ⟨b11, 0, none⟩)), (14, true, .pointer (some ⟨b56, 0, none⟩)), (15, true, .int .i64 s1.cur), (16, true, .int .i64 s1.rest), (57, true, .int .i64 ticks), (58, true, .int .i64 (t : Int)), (17, true, .int .i64 (t : Int))]) (fun _ => R) (fun (s1, rws) => stE b56 pa ps.length pc a54 s1.ms :: .sl 4 1 (some ⟨a54, 0, none⟩) ps.length (s1.ms.begun.map encB) :: .blk b11 [.slice (some ⟨gd, 0, none⟩) ps.length ps.length, .slice (some ⟨go, 0, none⟩) classes classes] :: .sl 3 1 (some ⟨gd, 0, none⟩) ps.length (s1.done.map encI) :: .sl 22 1 (some ⟨go, 0, none⟩) classes (rws.map encS) :: .blk b10 [.slice none 0 0, .slice none 0 0] :: (rws.map (rowE 3) ++ (X s1.sg ++ F))) (fun (s1, rws) => s1.ms.left.toNat) ((({ s with ms := { s.ms with now := (t : Int), left := cap }, sent := s.sent.map fun l => l ++ [nth l t] } : M.RS σ), rws)) (⟨⟨cap.toNat, rfl, by dsimp only; omega⟩, ⟨_, h3.open hg.free, by dsimp only; rw [Int.add_mul]; omega⟩, by dsimp only; omega, by dsimp only; omega, rfl, hrx1, g3⟩) ⟨rfl, rfl, rfl, rfl, rfl, rfl, rfl, rfl, rfl, rfl, rfl, rfl, rfl, rfl⟩ (RLe.refl _) qS ?_
      intro st hst
      obtain ⟨s1, rws⟩ := st
      obtain ⟨⟨k, hin, hkk⟩, ⟨B, hinv, hB⟩, hl0, hlc, hnow, hrx1, hra1⟩ := hst
      dsimp only at hin hkk hinv hB hl0 hlc hnow hrx1 hra1 ⊢
      refine zQ (zQ (zG (zR 3 rfl ?_)))
      refine yL (Rd.add (Rd.blk 0 rfl) _) ?_
      refine zR 1 rfl (zN (zU ?_))
      refine W.condD rfl (fun hc4 => ?_) (fun hc4 => ?_)
      ·try dsimp only at hc4
       refine zK (zU (zB ?_))
       refine W.seqCut (β := M.RS σ) (fun s2 => s2 = pickup ps ch s1 ∧ 0 ≤ s2.cur) (fun s2 => [(0, true, .int .i64 cap), (1, true, .int .i64 classes), (2, true, .slice pa ps.length pc), (3, true, .int .i64 ticks), (4, true, .func (.func g) first capd), (10, true, .pointer (some ⟨b10, 0, none⟩)), (11, true, .pointer (some ⟨b11, 0, none⟩)), (14, true, .pointer (some ⟨b56, 0, none⟩)), (15, true, .int .i64 s2.cur), (16, true, .int .i64 s2.rest), (57, true, .int .i64 ticks), (58, true, .int .i64 (t : Int)), (17, true, .int .i64 (t : Int))]) (fun _ => R) (fun s2 => stE b56 pa ps.length pc a54 s2.ms :: .sl 4 1 (some ⟨a54, 0, none⟩) ps.length (s2.ms.begun.map encB) :: .blk b11 [.slice (some ⟨gd, 0, none⟩) ps.length ps.length, .slice (some ⟨go, 0, none⟩) classes classes] :: .sl 3 1 (some ⟨gd, 0, none⟩) ps.length (s2.done.map encI) :: .sl 22 1 (some ⟨go, 0, none⟩) classes (rws.map encS) :: .blk b10 [.slice none 0 0, .slice none 0 0] :: (rws.map (rowE 3) ++ (X s2.sg ++ F))) ?_ ?_
       ·
        intro s2 hst
        obtain ⟨hs2, hcur⟩ := hst
        obtain ⟨e1, e2, e3, e4⟩ := pickup_same ps ch s1
        have hI : Inv ps classes good (t + 2) B s2 := by rw [hs2]; exact hinv.pickup hg hf
        rw [← hs2] at e1 e2 e3 e4
        obtain ⟨c1, c2, c3⟩ := hI.cur hcur
        have hat := hf.at (i := s2.cur.toNat) (by omega)
        have hrx2 : rws.map Sl.xs = s2.sent := by rw [e3]; exact hrx1
        have hlen : rws.length = classes := by rw [← hI.sent, ← hrx2, List.length_map]
        have hf0 : (nth ps s2.cur.toNat).flow.toNat < rws.length := by omega
        have hxs := nth_map_xs hrx2 hf0
        have hsome : (nth rws (nth ps s2.cur.toNat).flow.toNat).a.isSome = true := hra1 _ (nth_mem hf0)
        have hrw := hI.row (i := (nth ps s2.cur.toNat).flow.toNat) (by omega)
        have hxl : (nth rws (nth ps s2.cur.toNat).flow.toNat).xs.length = t + 2 := by rw [hxs]; exact hrw.1
        have hcell : 0 ≤ nth (nth rws (nth ps s2.cur.toNat).flow.toNat).xs (t + 1) ∧ nth (nth rws (nth ps s2.cur.toNat).flow.toNat).xs (t + 1) ≤ B := by rw [hxs]; exact hrw.2 _ (nth_mem (by rw [hrw.1]; omega))
        have hrow := rows_get (e := 3) (G := X s2.sg ++ F) (rows := rws) (c := (nth ps s2.cur.toNat).flow.toNat) hf0
        have hn0 : 1 ≤ (if s2.ms.left < s2.rest then s2.ms.left else s2.rest) ∧ (if s2.ms.left < s2.rest then s2.ms.left else s2.rest) ≤ s2.rest ∧ (if s2.ms.left < s2.rest then s2.ms.left else s2.rest) ≤ s2.ms.left := by split <;> omega
        have hdl := hI.done
        refine zQ (zG (zR 4 rfl ?_))
        refine yL (Rd.add (Rd.blk 0 rfl) _) ?_
        refine zR 2 rfl (zN (zU (zQ ?_)))
        refine W.regionH _ (ES := [.blk b11 [.slice (some ⟨gd, 0, none⟩) ps.length ps.length, .slice (some ⟨go, 0, none⟩) classes classes], .sl 22 1 (some ⟨go, 0, none⟩) classes (rws.map encS)]) mixed ?_
        refine tP 0 ?_
        refine tL 1 (Rd.add (Rd.blk 0 rfl) _) ?_
        refine tP 2 ?_
        refine tP 3 ?_
        refine WA.take 4 rfl qK qK qK rfl rfl qD (Yl.index tab_ok rfl rfl rfl rfl rfl rfl (fun _ => rfl) qA qH) qS qR ?_
        refine tP 5 ?_
        refine' WA.take 6 rfl qK qK qK rfl rfl qD (Yl.load1 tab_ok rfl rfl rfl (fun _ => rfl) ?r21 rfl ?h21) qS qR ?_
        case r21 => apply Rd.add; ((apply RS.rdD; assumption; ((try dsimp only) <;> omega)))
        case h21 => rfl
        refine WA.take 7 rfl qK qK qK rfl rfl qD (Yl.index tab_ok rfl rfl rfl rfl rfl rfl (fun _ => rfl) qA qH) qS qR ?_
        refine' WA.take 8 rfl qK qK qK rfl rfl qD (Yl.load1 tab_ok rfl rfl rfl (fun _ => rfl) ?r22 rfl ?h22) qS qR ?_
        case r22 => (exact Rd.slD 1 rfl qX)
        case h22 => rfl
        refine tP 9 ?_
        refine tA 10 ?_
        refine WA.take 11 rfl qK qK qK rfl rfl qD (Yl.index tab_ok rfl rfl rfl rfl rfl rfl (fun _ => rfl) qA qH) qS qR ?_
        refine tP 13 ?_
        refine' WA.yl 12 rfl qK rfl rfl qD (Yl.load1 tab_ok rfl rfl rfl (fun _ => rfl) ?r23 rfl ?h23) qS qR ?_
        case r23 => exact Rd.slD ((nth ps s2.cur.toNat).flow.toNat + 6) hrow (show ((t : Int) + 1).toNat < _ by omega)
        case h23 => rfl
        refine WA.take 14 rfl (by kernel_rfl) (by kernel_rfl) (by kernel_rfl) rfl rfl (by decide) (Yl.add rfl rfl rfl (fun _ => rfl) (by intro _; have hq : ((t : Int) + 1).toNat = t + 1 := (by omega); constructor <;> (rw [hq]; omega))) qS (by first | exact RLe.refl _ | assumption) ?_
        refine WA.take 15 rfl qK qK qK rfl rfl qD (Yl.index tab_ok rfl rfl rfl rfl rfl rfl (fun _ => rfl) qA qH) qS qR ?_
        refine WA.effN 16 rfl qK rfl rfl (Ef.storeD (enc := encI) (xs := (nth rws (nth ps s2.cur.toNat).flow.toNat).xs) (nth (nth rws (nth ps s2.cur.toNat).flow.toNat).xs (t + 1) + (if s2.ms.left < s2.rest then s2.ms.left else s2.rest)) ((nth ps s2.cur.toNat).flow.toNat + 6) tab_ok rfl rfl rfl rfl hrow (show ((t : Int) + 1).toNat < _ by omega) rfl rfl rfl rfl ?_)
        refine ⟨qR, qS, ?_⟩
        refine WA.done qK ?_
        refine zU ?_
        refine W.perm (E' := stE b56 pa ps.length pc a54 s2.ms :: .sl 4 1 (some ⟨a54, 0, none⟩) ps.length (s2.ms.begun.map encB) :: .blk b11 [.slice (some ⟨gd, 0, none⟩) ps.length ps.length, .slice (some ⟨go, 0, none⟩) classes classes] :: .sl 3 1 (some ⟨gd, 0, none⟩) ps.length (s2.done.map encI) :: .sl 22 1 (some ⟨go, 0, none⟩) classes ((rws.set (nth ps s2.cur.toNat).flow.toNat ⟨(nth rws (nth ps s2.cur.toNat).flow.toNat).a, (nth rws (nth ps s2.cur.toNat).flow.toNat).cap, (nth rws (nth ps s2.cur.toNat).flow.toNat).xs.set (t + 1) (nth (nth rws (nth ps s2.cur.toNat).flow.toNat).xs (t + 1) + (if s2.ms.left < s2.rest then s2.ms.left else s2.rest))⟩).map encS) :: .blk b10 [.slice none 0 0, .slice none 0 0] :: ((rws.set (nth ps s2.cur.toNat).flow.toNat ⟨(nth rws (nth ps s2.cur.toNat).flow.toNat).a, (nth rws (nth ps s2.cur.toNat).flow.toNat).cap, (nth rws (nth ps s2.cur.toNat).flow.toNat).xs.set (t + 1) (nth (nth rws (nth ps s2.cur.toNat).flow.toNat).xs (t + 1) + (if s2.ms.left < s2.rest then s2.ms.left else s2.rest))⟩).map (rowE 3) ++ (X s2.sg ++ F))) (by rw [← rows_set hf0, encS_set hf0 (by simp)] <;> exact List.Perm.refl _) ?_
        refine zQ (zG (zR 2 rfl ?_))
        refine yS ?_
        refine zR 1 rfl (zN (zU (zQ (zG (zR 3 rfl ?_)))))
        refine yL (Rd.add (Rd.blk 0 rfl) _) ?_
        refine zR 1 rfl ?_
        refine yS ?_
        refine zR 2 rfl ?_
        refine zF 0 ?_
        refine zN (zU (zQ (zG (zR 2 rfl (zN (zU ?_))))))
        refine W.condE rfl (fun hc5 => ?_) (fun hc5 => ?_)
        ·try dsimp only at hc5
         refine zQ (zG (zR 1 rfl ?_))
         refine yL (Rd.add (Rd.blk 2 rfl) _) ?_
         refine zR 2 rfl ?_
         refine WG.y rfl rfl qD (Yl.index tab_ok rfl rfl rfl rfl rfl rfl (fun _ => rfl) qA qH) ?_
         refine WL.efN rfl rfl (Ef.storeD _ 3 tab_ok rfl rfl rfl rfl rfl qX rfl rfl rfl rfl ?_)
         refine zN (zU (zG (zR 1 rfl (zN (zL ?_)))))
         have hsend : send ps t s2 = ({ s2 with sent := s2.sent.set (nth ps s2.cur.toNat).flow.toNat ((nth s2.sent (nth ps s2.cur.toNat).flow.toNat).set (t + 1) (nth (nth s2.sent (nth ps s2.cur.toNat).flow.toNat) (t + 1) + (if s2.ms.left < s2.rest then s2.ms.left else s2.rest))), rest := s2.rest - (if s2.ms.left < s2.rest then s2.ms.left else s2.rest), ms := { s2.ms with left := s2.ms.left - (if s2.ms.left < s2.rest then s2.ms.left else s2.rest) }, done := s2.done.set s2.cur.toNat t, cur := -1 } : M.RS σ) := by unfold M.send; dsimp only; simp only [if_pos hc5]
         refine WE.again (({ s2 with sent := s2.sent.set (nth ps s2.cur.toNat).flow.toNat ((nth s2.sent (nth ps s2.cur.toNat).flow.toNat).set (t + 1) (nth (nth s2.sent (nth ps s2.cur.toNat).flow.toNat) (t + 1) + (if s2.ms.left < s2.rest then s2.ms.left else s2.rest))), rest := s2.rest - (if s2.ms.left < s2.rest then s2.ms.left else s2.rest), ms := { s2.ms with left := s2.ms.left - (if s2.ms.left < s2.rest then s2.ms.left else s2.rest) }, done := s2.done.set s2.cur.toNat t, cur := -1 } : M.RS σ), (rws.set (nth ps s2.cur.toNat).flow.toNat ⟨(nth rws (nth ps s2.cur.toNat).flow.toNat).a, (nth rws (nth ps s2.cur.toNat).flow.toNat).cap, (nth rws (nth ps s2.cur.toNat).flow.toNat).xs.set (t + 1) (nth (nth rws (nth ps s2.cur.toNat).flow.toNat).xs (t + 1) + (if s2.ms.left < s2.rest then s2.ms.left else s2.rest))⟩)) ⟨⟨k - 1, by dsimp only; rw [← hsend, hs2, ← inner_some hkk hc4 (by rw [← hs2]; exact hcur)]; exact hin, by dsimp only; omega⟩, ⟨_, by dsimp only; rw [← hsend]; exact (hI.send hf hg.free (t := t) (by omega) hcur (by omega)).1, by dsimp only; rw [hsend]; dsimp only; omega⟩, by dsimp only; omega, by dsimp only; omega, by dsimp only; omega, by dsimp only; rw [List.map_set, hrx2, ← hxs], all_set hra1 hsome⟩ (by dsimp only; omega) ⟨rfl, rfl, rfl, rfl, rfl, rfl, rfl, rfl, rfl, rfl, rfl, rfl, rfl, rfl⟩ (RLe.refl _) qS
        ·try dsimp only at hc5
         refine zK (zL ?_)
         have hsend : send ps t s2 = ({ s2 with sent := s2.sent.set (nth ps s2.cur.toNat).flow.toNat ((nth s2.sent (nth ps s2.cur.toNat).flow.toNat).set (t + 1) (nth (nth s2.sent (nth ps s2.cur.toNat).flow.toNat) (t + 1) + (if s2.ms.left < s2.rest then s2.ms.left else s2.rest))), rest := s2.rest - (if s2.ms.left < s2.rest then s2.ms.left else s2.rest), ms := { s2.ms with left := s2.ms.left - (if s2.ms.left < s2.rest then s2.ms.left else s2.rest) }, done := s2.done, cur := s2.cur } : M.RS σ) := by unfold M.send; dsimp only; simp only [if_neg hc5]
         refine WE.again (({ s2 with sent := s2.sent.set (nth ps s2.cur.toNat).flow.toNat ((nth s2.sent (nth ps s2.cur.toNat).flow.toNat).set (t + 1) (nth (nth s2.sent (nth ps s2.cur.toNat).flow.toNat) (t + 1) + (if s2.ms.left < s2.rest then s2.ms.left else s2.rest))), rest := s2.rest - (if s2.ms.left < s2.rest then s2.ms.left else s2.rest), ms := { s2.ms with left := s2.ms.left - (if s2.ms.left < s2.rest then s2.ms.left else s2.rest) }, done := s2.done, cur := s2.cur } : M.RS σ), (rws.set (nth ps s2.cur.toNat).flow.toNat ⟨(nth rws (nth ps s2.cur.toNat).flow.toNat).a, (nth rws (nth ps s2.cur.toNat).flow.toNat).cap, (nth rws (nth ps s2.cur.toNat).flow.toNat).xs.set (t + 1) (nth (nth rws (nth ps s2.cur.toNat).flow.toNat).xs (t + 1) + (if s2.ms.left < s2.rest then s2.ms.left else s2.rest))⟩)) ⟨⟨k - 1, by dsimp only; rw [← hsend, hs2, ← inner_some hkk hc4 (by rw [← hs2]; exact hcur)]; exact hin, by dsimp only; omega⟩, ⟨_, by dsimp only; rw [← hsend]; exact (hI.send hf hg.free (t := t) (by omega) hcur (by omega)).1, by dsimp only; rw [hsend]; dsimp only; omega⟩, by dsimp only; omega, by dsimp only; omega, by dsimp only; omega, by dsimp only; rw [List.map_set, hrx2, ← hxs], all_set hra1 hsome⟩ (by dsimp only; omega) ⟨rfl, rfl, rfl, rfl, rfl, rfl, rfl, rfl, rfl, rfl, rfl, rfl, rfl, rfl⟩ (RLe.refl _) qS
       ·
        refine zQ (zG (zR 2 rfl (zN (zU ?_))))
        refine W.condD rfl (fun hc6 => ?_) (fun hc6 => ?_)
        ·try dsimp only at hc6
         refine zQ (zQ (zG (zR 2 rfl ?_)))
         refine WL.perm perm_choice ?_
         refine WL.call hen rfl rfl qD (CallOp.mkT rfl rfl rfl rfl) (hch _ _ s1.ms s1.sg _ hinv.good hinv.begun hc4 hlc qO qO) ?_
         rintro _ _ _ - ⟨rfl, rfl, rfl⟩
         refine WL.perm perm_choice.symm ?_
         refine zR 1 rfl (zN (zU (zQ (zG (zR 2 rfl (zN (zU ?_)))))))
         refine W.condD rfl (fun hc7 => ?_) (fun hc7 => ?_)
         ·try dsimp only at hc7
          have hpick : pickup ps ch s1 = ({ s1 with cur := (ch s1.ms s1.sg).1, ms := { s1.ms with before := (ch s1.ms s1.sg).2.1 }, sg := (ch s1.ms s1.sg).2.2 } : M.RS σ) := by unfold M.pickup; rw [if_neg (by omega)]; dsimp only; rw [if_pos hc7]
          have htk1 : tick ps ch cap t s = ({ s1 with cur := (ch s1.ms s1.sg).1, ms := { s1.ms with before := (ch s1.ms s1.sg).2.1 }, sg := (ch s1.ms s1.sg).2.2 } : M.RS σ) := by rw [← hpick, ← hin, inner_none hkk hc4 (by rw [hpick]; exact hc7)]
          refine zX ?_
          refine wx (wx ?_)
          refine WE.blk_other rfl ?_
          refine wx (zY (zL (zU (zG ?_))))
          refine yA ?_
          refine zR 1 rfl (zN ?_)
          have hI2 : Inv ps classes good (t + 2) ((t + 1) * cap) ({ s1 with cur := (ch s1.ms s1.sg).1, ms := { s1.ms with before := (ch s1.ms s1.sg).2.1 }, sg := (ch s1.ms s1.sg).2.2 } : M.RS σ) := by rw [← hpick]; exact (hinv.pickup hg hf).mono (by omega)
          refine WE.again (t + 1, ({ s1 with cur := (ch s1.ms s1.sg).1, ms := { s1.ms with before := (ch s1.ms s1.sg).2.1 }, sg := (ch s1.ms s1.sg).2.2 } : M.RS σ), rws) ⟨by dsimp only; omega, by dsimp only; rw [← htk1, ← h2, show ticks - t = (ticks - (t + 1)) + 1 by omega, ticksFrom], by dsimp only; simpa using hI2, hrx1, hra1⟩ (by dsimp only; omega) ⟨rfl, rfl, rfl, rfl, rfl, rfl, rfl, rfl, rfl, rfl, rfl, rfl, rfl⟩ (RLe.refl _) qS
         ·try dsimp only at hc7
          have hpick : pickup ps ch s1 = ({ s1 with cur := (ch s1.ms s1.sg).1, rest := (nth ps (ch s1.ms s1.sg).1.toNat).size, ms := { s1.ms with before := (ch s1.ms s1.sg).2.1, begun := s1.ms.begun.set (ch s1.ms s1.sg).1.toNat true }, sg := (ch s1.ms s1.sg).2.2 } : M.RS σ) := by unfold M.pickup; rw [if_neg (by omega)]; dsimp only; rw [if_neg hc7]
          have hidx := hg.idx _ _ hinv.good hinv.begun (by omega)
          have hbl := hinv.begun
          refine zK (zU ?_)
          refine W.regionH _ (ES := [stE b56 pa ps.length pc a54 { s1.ms with before := (ch s1.ms s1.sg).2.1 }]) mixed ?_
          refine tP 0 ?_
          refine tP 1 ?_
          refine tP 2 ?_
          refine tL 3 (Rd.add (Rd.blk 0 rfl) _) ?_
          refine tP 4 ?_
          refine tP 5 ?_
          refine tP 6 ?_
          refine WA.take 7 rfl qK qK qK rfl rfl qD (Yl.index tab_ok rfl rfl rfl rfl rfl rfl (fun _ => rfl) qA qH) qS qR ?_
          refine tP 8 ?_
          refine' WA.take 9 rfl qK qK qK rfl rfl qD (Yl.load1 tab_ok rfl rfl rfl (fun _ => rfl) ?r27 rfl ?h27) qS qR ?_
          case r27 => apply Rd.add; ((apply RS.rdD; assumption; ((try dsimp only) <;> omega)))
          case h27 => rfl
          refine WA.take 10 rfl qK qK qK rfl rfl qD (Yl.index tab_ok rfl rfl rfl rfl rfl rfl (fun _ => rfl) qA qH) qS qR ?_
          refine WA.effN 11 rfl qK rfl rfl (Ef.storeD _ 1 tab_ok rfl rfl rfl rfl rfl qX rfl rfl rfl rfl ?_)
          refine ⟨qR, qS, ?_⟩
          refine tP 12 ?_
          refine WA.done qK ?_
          refine WE.cut ({ s1 with cur := (ch s1.ms s1.sg).1, rest := (nth ps (ch s1.ms s1.sg).1.toNat).size, ms := { s1.ms with before := (ch s1.ms s1.sg).2.1, begun := s1.ms.begun.set (ch s1.ms s1.sg).1.toNat true }, sg := (ch s1.ms s1.sg).2.2 } : M.RS σ) ⟨hpick.symm, by dsimp only; omega⟩ ⟨rfl, rfl, rfl, rfl, rfl, rfl, rfl, rfl, rfl, rfl, rfl, rfl, rfl, rfl⟩ (RLe.refl _) qS
        ·try dsimp only at hc6
         refine zK ?_
         refine WE.cut s1 ⟨by unfold M.pickup; rw [if_pos (by omega)], by omega⟩ ⟨rfl, rfl, rfl, rfl, rfl, rfl, rfl, rfl, rfl, rfl, rfl, rfl, rfl, rfl⟩ (RLe.refl _) qS
      ·try dsimp only at hc4
       have htk1 : tick ps ch cap t s = s1 := by rw [← hin, inner_stop (by omega)]
       refine zX ?_
       refine wx (wx (zY (zL (zU (zG ?_)))))
       refine yA ?_
       refine zR 1 rfl (zN ?_)
       have hI2 : Inv ps classes good (t + 2) ((t + 1) * cap) s1 := hinv.mono (by omega)
       refine WE.again (t + 1, s1, rws) ⟨by dsimp only; omega, by dsimp only; rw [← htk1, ← h2, show ticks - t = (ticks - (t + 1)) + 1 by omega, ticksFrom], by dsimp only; simpa using hI2, hrx1, hra1⟩ (by dsimp only; omega) ⟨rfl, rfl, rfl, rfl, rfl, rfl, rfl, rfl, rfl, rfl, rfl, rfl, rfl⟩ (RLe.refl _) qS
    ·try dsimp only at hc2
     have ht : t = ticks := by omega
     subst t
     rw [Nat.sub_self] at h2
     refine zX ?_
     refine wx (wx (zY (zU (zQ (zG ?_)))))
     refine yL (Rd.blk 2 rfl) ?_
     refine zE 5 ?_
     refine zN (zU (zT ?_))
     refine WE.retF tab_ok [_] rfl ⟨⟨_, _, _, rfl, rfl, rfl, (Rd.blk 5 rfl), rfl⟩, trivial⟩ (RLe.refl _) ?_
     exact ⟨rows, gd, go, s, h2, rfl, rfl, h4, h5, h3, qS⟩
 ·
  refine W.regionH _ (ES := []) mixed ?_
  refine tP 0 ?_
  refine tP 1 ?_
  refine tP 3 ?_
  refine WA.br3 (i := 2) (j := 4) (k := 6) qK ?_ ?_ ?_
  ·
   refine WS.eff rfl rfl rfl qD (Ef.makeSliceD (enc := encI) 0 tab_ok rfl rfl rfl rfl rfl rfl qX qX qX qX qD rfl rfl (fun a22 => ?_))
   refine ⟨qR, qS, ?_⟩
   refine WA.br2 (i := 4) (j := 6) qK ?_ ?_
   ·
    refine WS.eff rfl rfl rfl qD (Ef.makeSliceD (enc := encS) ⟨none, 0, []⟩ tab_ok rfl rfl rfl rfl rfl rfl qX qX qX qX qD rfl rfl (fun a24 => ?_))
    refine ⟨qR, qS, ?_⟩
    -- build
    refine WA.take 5 rfl qK qK qK rfl rfl qD (Yl.build (parts := [(0, .tmp 22), (1, .tmp 24)]) tab_ok rfl rfl rfl rfl (fun _ => rfl) rfl rfl) qS qR ?_
    refine WA.eff 6 rfl qK rfl rfl qD (Ef.alloc tab_ok rfl rfl (fun b11 => ?_))
    refine ⟨qR, qS, ?_⟩
    refine zCE 7 0 ?_
    refine WA.done qK ?_
    refine WE.cutP (b11, a22, a24) trivial ⟨rfl, rfl, rfl, rfl, rfl, rfl, rfl, rfl⟩ (RLe.refl _) (by first | exact List.Perm.refl _ | exact perm3a _ _ _ _ | exact perm3b _ _ _ _ | exact perm3c _ _ _ _ | exact perm3d _ _ _ _ | exact perm3e _ _ _ _)
   ·
    refine WS.eff rfl rfl rfl qD (Ef.alloc tab_ok rfl rfl (fun b11 => ?_))
    refine ⟨qR, qS, ?_⟩
    refine WA.eff 4 rfl qK rfl rfl qD (Ef.makeSliceD (enc := encS) ⟨none, 0, []⟩ tab_ok rfl rfl rfl rfl rfl rfl qX qX qX qX qD rfl rfl (fun a24 => ?_))
    refine ⟨qR, qS, ?_⟩
    -- build
    refine WA.take 5 rfl qK qK qK rfl rfl qD (Yl.build (parts := [(0, .tmp 22), (1, .tmp 24)]) tab_ok rfl rfl rfl rfl (fun _ => rfl) rfl rfl) qS qR ?_
    refine zCE 7 1 ?_
    refine WA.done qK ?_
    refine WE.cutP (b11, a22, a24) trivial ⟨rfl, rfl, rfl, rfl, rfl, rfl, rfl, rfl⟩ (RLe.refl _) (by first | exact List.Perm.refl _ | exact perm3a _ _ _ _ | exact perm3b _ _ _ _ | exact perm3c _ _ _ _ | exact perm3d _ _ _ _ | exact perm3e _ _ _ _)
  ·
   refine WS.eff rfl rfl rfl qD (Ef.makeSliceD (enc := encS) ⟨none, 0, []⟩ tab_ok rfl rfl rfl rfl rfl rfl qX qX qX qX qD rfl rfl (fun a24 => ?_))
   refine ⟨qR, qS, ?_⟩
   refine WA.br2 (i := 2) (j := 6) qK ?_ ?_
   ·
    refine WS.eff rfl rfl rfl qD (Ef.makeSliceD (enc := encI) 0 tab_ok rfl rfl rfl rfl rfl rfl qX qX qX qX qD rfl rfl (fun a22 => ?_))
    refine ⟨qR, qS, ?_⟩
    -- build
    refine WA.take 5 rfl qK qK qK rfl rfl qD (Yl.build (parts := [(0, .tmp 22), (1, .tmp 24)]) tab_ok rfl rfl rfl rfl (fun _ => rfl) rfl rfl) qS qR ?_
    refine WA.eff 6 rfl qK rfl rfl qD (Ef.alloc tab_ok rfl rfl (fun b11 => ?_))
    refine ⟨qR, qS, ?_⟩
    refine zCE 7 0 ?_
    refine WA.done qK ?_
    refine WE.cutP (b11, a22, a24) trivial ⟨rfl, rfl, rfl, rfl, rfl, rfl, rfl, rfl⟩ (RLe.refl _) (by first | exact List.Perm.refl _ | exact perm3a _ _ _ _ | exact perm3b _ _ _ _ | exact perm3c _ _ _ _ | exact perm3d _ _ _ _ | exact perm3e _ _ _ _)
   ·
    refine WS.eff rfl rfl rfl qD (Ef.alloc tab_ok rfl rfl (fun b11 => ?_))
    refine ⟨qR, qS, ?_⟩
    refine WA.eff 2 rfl qK rfl rfl qD (Ef.makeSliceD (enc := encI) 0 tab_ok rfl rfl rfl rfl rfl rfl qX qX qX qX qD rfl rfl (fun a22 => ?_))
    refine ⟨qR, qS, ?_⟩
    -- build
    refine WA.take 5 rfl qK qK qK rfl rfl qD (Yl.build (parts := [(0, .tmp 22), (1, .tmp 24)]) tab_ok rfl rfl rfl rfl (fun _ => rfl) rfl rfl) qS qR ?_
    refine zCE 7 1 ?_
    refine WA.done qK ?_
    refine WE.cutP (b11, a22, a24) trivial ⟨rfl, rfl, rfl, rfl, rfl, rfl, rfl, rfl⟩ (RLe.refl _) (by first | exact List.Perm.refl _ | exact perm3a _ _ _ _ | exact perm3b _ _ _ _ | exact perm3c _ _ _ _ | exact perm3d _ _ _ _ | exact perm3e _ _ _ _)
  ·
   refine WS.eff rfl rfl rfl qD (Ef.alloc tab_ok rfl rfl (fun b11 => ?_))
   refine ⟨qR, qS, ?_⟩
   refine WA.br2 (i := 2) (j := 4) qK ?_ ?_
   ·
    refine WS.eff rfl rfl rfl qD (Ef.makeSliceD (enc := encI) 0 tab_ok rfl rfl rfl rfl rfl rfl qX qX qX qX qD rfl rfl (fun a22 => ?_))
    refine ⟨qR, qS, ?_⟩
    refine WA.eff 4 rfl qK rfl rfl qD (Ef.makeSliceD (enc := encS) ⟨none, 0, []⟩ tab_ok rfl rfl rfl rfl rfl rfl qX qX qX qX qD rfl rfl (fun a24 => ?_))
    refine ⟨qR, qS, ?_⟩
    -- build
    refine WA.take 5 rfl qK qK qK rfl rfl qD (Yl.build (parts := [(0, .tmp 22), (1, .tmp 24)]) tab_ok rfl rfl rfl rfl (fun _ => rfl) rfl rfl) qS qR ?_
    refine zCE 7 2 ?_
    refine WA.done qK ?_
    refine WE.cutP (b11, a22, a24) trivial ⟨rfl, rfl, rfl, rfl, rfl, rfl, rfl, rfl⟩ (RLe.refl _) (by first | exact List.Perm.refl _ | exact perm3a _ _ _ _ | exact perm3b _ _ _ _ | exact perm3c _ _ _ _ | exact perm3d _ _ _ _ | exact perm3e _ _ _ _)
   ·
    refine WS.eff rfl rfl rfl qD (Ef.makeSliceD (enc := encS) ⟨none, 0, []⟩ tab_ok rfl rfl rfl rfl rfl rfl qX qX qX qX qD rfl rfl (fun a24 => ?_))
    refine ⟨qR, qS, ?_⟩
    refine WA.eff 2 rfl qK rfl rfl qD (Ef.makeSliceD (enc := encI) 0 tab_ok rfl rfl rfl rfl rfl rfl qX qX qX qX qD rfl rfl (fun a22 => ?_))
    refine ⟨qR, qS, ?_⟩
    -- build
    refine WA.take 5 rfl qK qK qK rfl rfl qD (Yl.build (parts := [(0, .tmp 22), (1, .tmp 24)]) tab_ok rfl rfl rfl rfl (fun _ => rfl) rfl rfl) qS qR ?_
    refine zCE 7 2 ?_
    refine WA.done qK ?_
    refine WE.cutP (b11, a22, a24) trivial ⟨rfl, rfl, rfl, rfl, rfl, rfl, rfl, rfl⟩ (RLe.refl _) (by first | exact List.Perm.refl _ | exact perm3a _ _ _ _ | exact perm3b _ _ _ _ | exact perm3c _ _ _ _ | exact perm3d _ _ _ _ | exact perm3e _ _ _ _)





theorem Check_V {R : Ro} {pa : Option Addr} {pc : Nat} {ps : List Pkt} (hp : RS R 3 encP pa ps) {cap classes ticks : Int} : FnV Tryz.prog 190 [.int .i64 cap, .int .i64 classes, .slice pa ps.length pc, .int .i64 ticks] R (.int .i64 (checkE cap classes ticks ps)) := by
 have hla := hp.len
 refine Fn.toV (fun w0 E => ?_)
 refine fE 44 Tryz.func190 ?_
 refine zQ (zG (zR 1 rfl (zN (zU (zQ (zQ (zG (zR 3 rfl ?_))))))))
 refine yP ?_
 refine yP ?_
 refine yO ?_
 refine zR 1 rfl ?_
 refine yP ?_
 refine yP ?_
 refine yO ?_
 refine zR 1 rfl ?_
 refine yP ?_
 refine yP ?_
 refine yO ?_
 refine zR 1 rfl ?_
 refine yP ?_
 refine yP ?_
 refine yO ?_
 refine zR 1 rfl ?_
 refine yP ?_
 refine yP ?_
 refine yO ?_
 refine zN (zU ?_)
 refine W.cond rfl (fun hc0 => ?_) (fun hc0 => ?_)
 ·try simp only [zk] at hc0
  refine zQ (zG (zR 1 rfl (zN (zU (zT (wt ?_))))))
  refine sE (E := E) ?_
  refine WE.retF tab_ok [_] rfl ⟨rfl, trivial⟩ (RLe.refl _) ?_
  exact ⟨by unfold checkE; rw [if_pos (show BadC cap classes ticks by unfold BadC; omega)]; rfl, rfl⟩
 ·try simp only [zk] at hc0
  have hck : checkE cap classes ticks ps = flowGo classes ps := by unfold checkE; rw [if_neg (by unfold BadC; omega)]
  refine zK (zU (zQ (zQ (zG (zR 3 rfl (zN (zU (zB ?_))))))))
  refine W.loop (β := Nat) (fun k => k ≤ ps.length ∧ flowGo classes (ps.drop k) = checkE cap classes ticks ps) (fun k => [(1, true, .int .i64 classes), (33, true, .slice pa ps.length pc), (34, true, .int .i64 ps.length), (35, true, .int .i64 (k : Int))]) (fun _ => R) (fun _ => E) (fun k => ps.length - k) (0) (⟨Nat.zero_le _, by rw [List.drop_zero, hck]⟩) ⟨rfl, rfl, rfl, rfl, rfl⟩ (RLe.refl _) qS ?_
  intro st hst
  obtain ⟨hk, hv⟩ := hst
  refine zQ (zG (zR 1 rfl (zN (zU (zQ ?_)))))
  refine W.condD rfl (fun hc1 => ?_) (fun hc1 => ?_)
  ·try dsimp only at hc1
   have hd := drop_nth (xs := ps) (k := st) (by omega)
   rw [hd, flowGo] at hv
   refine zK (zU (zQ (zB (zQ (zG ?_)))))
   refine WG.y rfl rfl qD (Yl.indexN tab_ok rfl rfl rfl rfl rfl rfl (fun _ => rfl) qN qH) ?_
   refine yR ?_
   refine zA fun b10 => ?_
   refine zE 0 ?_
   refine zN (zU (zQ (zG (zR 1 rfl ?_))))
   refine yL (Rd.add (Rd.blk 0 rfl) _) ?_
   refine zR 2 rfl (zN (zU ?_))
   refine W.condD rfl (fun hc2 => ?_) (fun hc2 => ?_)
   ·try dsimp only at hc2
    rw [if_pos (by omega)] at hv
    refine zQ (zG (zR 1 rfl (zN (zU (zT (wb (wt (wt (wb (wt ?_))))))))))
    refine sE (E := E) ?_
    refine WE.retF tab_ok [_] rfl ⟨rfl, trivial⟩ (RLe.refl _) ?_
    exact ⟨by rw [← hv]; rfl, rfl⟩
   ·try dsimp only at hc2
    rw [if_neg (by omega)] at hv
    refine zK (zL (zU (zG ?_)))
    refine yA ?_
    refine zR 1 rfl (zN ?_)
    refine WE.again (st + 1) (⟨by omega, hv⟩) (by (try dsimp only); omega) ⟨rfl, rfl, rfl, rfl, rfl⟩ (RLe.refl _) qS
  ·try dsimp only at hc1
   obtain rfl : st = ps.length := by omega
   rw [List.drop_length, flowGo] at hv
   refine zX ?_
   refine wx (wx (zY (zU (zQ (zG (zR 1 rfl (zN (zU (zT ?_)))))))))
   refine sE (E := E) ?_
   refine WE.retF tab_ok [_] rfl ⟨rfl, trivial⟩ (RLe.refl _) ?_
   exact ⟨by rw [← hv]; rfl, rfl⟩

theorem LRun_ok {R : Ro} {pa : Option Addr} {pc : Nat} {ps : List Pkt} (hp : RS R 3 encP pa ps) {cap : Int} {classes ticks : Nat} (w0 : World) (hv : Ok ps) (hc : checkE cap classes ticks ps = 0) (E : List Ent) :
  K.Fn Tryz.prog 189 [.int .i64 cap, .int .i64 classes, .slice pa ps.length pc, .int .i64 ticks] w0 R E
   (fun v R' E' => ∃ (rows : List Sl) (gd go : Nat) (s : M.RS Unit), s = mrun ps (fifo ps) cap classes ticks () ∧ v = .tuple #[.agg #[.slice (some ⟨gd, 0, none⟩) ps.length ps.length, .slice (some ⟨go, 0, none⟩) classes classes], .int .i64 0] ∧ R = R' ∧ rows.map Sl.xs = s.sent ∧ (∀ r ∈ rows, r.a.isSome = true) ∧ Inv ps classes (goodF ps) (ticks + 1) (ticks * cap) s ∧
    (.sl 3 1 (some ⟨gd, 0, none⟩) ps.length (s.done.map encI) :: .sl 22 1 (some ⟨go, 0, none⟩) classes (rows.map encS) :: (rows.map (rowE 3) ++ E)).Sublist E') := by
 have hla := hp.len
 have hvv := (validate_ok ps).2 hv
 obtain ⟨hb, hfl⟩ := checkE_ok hc
 unfold BadC at hb
 have hcap : 1 ≤ cap ∧ cap ≤ 1000000 := by omega
 have hcl : classes ≤ 1000 := by omega
 have htk : ticks ≤ 1000000 := by omega
 have hrun := fun F => MRun_C (pc := pc) (g := 192) (first := #[]) (capd := #[]) (ch := fifo ps) (X := fun _ => []) (sg := ()) w0 hp (goodF_good ps) (hv.fit hfl) (Nat.zero_le _) hcap hcl htk en192 (fun sb bg ms sg F hgd hbl _ _ _ _ => First_C w0 hp hbl hgd F) F
 refine fE 32 Tryz.func189 ?_
 refine zQ (zG ?_)
 refine zA fun b8 => ?_
 refine zR 1 rfl (zN (zU (zQ (zQ (zG (zR 1 rfl ?_))))))
 refine WG.callV en79 rfl rfl qD (CallOp.mk' rfl rfl rfl rfl) (fun _ => rfl) (fun hg => hvv ▸ Validate_V hp) ?_
 refine zR 1 rfl (zN (zU (zQ (zG (zR 2 rfl (zN (zU ?_)))))))
 refine W.condN rfl (fun hc0 => ?_) (fun hc0 => ?_)
 ·try dsimp only at hc0
  exact absurd rfl hc0
 ·try dsimp only at hc0
  refine zK (zU (zQ (zQ (zG (zR 4 rfl ?_)))))
  refine WG.callV en190 rfl rfl qD (CallOp.mk' rfl rfl rfl rfl) (fun _ => rfl) (fun hg => hc ▸ Check_V hp) ?_
  refine zR 1 rfl (zN (zU (zQ (zG (zR 2 rfl (zN (zU ?_)))))))
  refine W.condN rfl (fun hc1 => ?_) (fun hc1 => ?_)
  ·try dsimp only at hc1
   exact absurd rfl hc1
  ·try dsimp only at hc1
   refine zK (zU (zQ (zG (zR 4 rfl ?_))))
   refine WL.call en191 rfl rfl qD (CallOp.mkT rfl rfl rfl rfl) (hrun (.blk b8 [.slice none 0 0, .slice none 0 0] :: E)) ?_
   rintro _ _ E2 - ⟨rows, gd, go, s, hs, rfl, rfl, h1, h2, h3, hsub⟩
   refine WL.subE hsub ?_
   refine WL.perm (List.perm_middle (l₁ := _ :: _ :: rows.map (rowE 3))) ?_
   refine zE 0 ?_
   refine zR 1 rfl (zN (zU (zT ?_)))
   refine WE.retF tab_ok [_, _] rfl ⟨⟨_, _, _, rfl, rfl, rfl, (Rd.blk 0 rfl), rfl⟩, rfl, trivial⟩ (RLe.refl _) ?_
   exact ⟨rows, gd, go, s, hs, rfl, rfl, h1, h2, h3, List.Sublist.cons _ (List.Sublist.refl _)⟩

theorem CLine_C {R : Ro} {rate : Int} (w0 : World) (hr : 0 ≤ rate ∧ rate ≤ 1073741824) (E : List Ent) :
  K.Fn Tryz.prog 151 [.int .i64 rate] w0 R E (fun v R' E' => ∃ g : Nat, v = .tuple #[.agg #[.slice (some ⟨g, 0, none⟩) 1 1, .int .i64 1, .int .i64 rate], .int .i64 0] ∧ R = R' ∧ (.sl 3 1 (some ⟨g, 0, none⟩) 1 ([0].map encI) :: E).Sublist E') := by
 refine fE 13 Tryz.func151 ?_
 refine zQ (zG ?_)
 refine zA fun b2 => ?_
 refine zR 1 rfl (zN (zU (zQ (zQ (zG (zR 2 rfl (zN (zU ?_))))))))
 refine W.condD rfl (fun hc0 => ?_) (fun hc0 => ?_)
 ·try dsimp only at hc0
  omega
 ·try dsimp only at hc0
  refine zK (zU (zQ (zQ (zG (zR 2 rfl (zN (zU ?_)))))))
  refine W.condD rfl (fun hc1 => ?_) (fun hc1 => ?_)
  ·try dsimp only at hc1
   omega
  ·try dsimp only at hc1
   refine zK (zU (zQ (zG ?_)))
   refine WL.ef rfl rfl qD (Ef.buildSliceD (enc := encI) (parts := [.const (.int .i64 0)]) [_] tab_ok rfl rfl rfl rfl rfl rfl rfl rfl qD qD (fun a10 => ?_))
   refine zR 1 rfl ?_
   -- build
   refine WG.y rfl rfl qD (Yl.build (parts := [(0, .tmp 10), (1, .const (.int .i64 1)), (2, .tmp 11)]) tab_ok rfl rfl rfl rfl (fun _ => rfl) rfl rfl) ?_
   refine zE 1 ?_
   refine zR 1 rfl (zN (zU (zT ?_)))
   refine WE.retF tab_ok [_, _] rfl ⟨⟨_, _, _, rfl, rfl, rfl, (Rd.blk 1 rfl), rfl⟩, rfl, trivial⟩ (RLe.refl _) ?_
   exact ⟨a10, rfl, rfl, List.Sublist.cons_cons _ (List.Sublist.cons _ (List.Sublist.refl _))⟩

theorem Serve_ok {R : Ro} {cap : Int} (w0 : World) (hr : 1 ≤ cap ∧ cap ≤ 4000) (E : List Ent) :
  K.Fn Tryz.prog 92 [.int .i64 cap] w0 R E (fun v R' E' => ∃ g : Nat, v = .tuple #[.agg #[.slice (some ⟨g, 0, none⟩) 1 1, .int .i64 1, .int .i64 cap], .int .i64 0] ∧ R = R' ∧ (.sl 3 1 (some ⟨g, 0, none⟩) 1 ([0].map encI) :: E).Sublist E') := by
 refine fE 15 Tryz.func92 ?_
 refine zQ (zG ?_)
 refine zA fun b2 => ?_
 refine zR 1 rfl (zN (zU (zQ (zQ (zG (zR 3 rfl ?_))))))
 refine yP ?_
 refine yP ?_
 refine yO ?_
 refine zN (zU ?_)
 refine W.cond rfl (fun hc0 => ?_) (fun hc0 => ?_)
 ·try simp only [zk] at hc0
  omega
 ·try simp only [zk] at hc0
  refine zK (zU (zQ (zG (zR 1 rfl ?_))))
  refine WL.call en151 rfl rfl qD (CallOp.mkT rfl rfl rfl rfl) (CLine_C w0 qO _) ?_
  rintro _ _ E2 - ⟨g, rfl, rfl, hsub⟩
  refine WL.subE hsub ?_
  refine zR 2 rfl ?_
  refine zE 1 ?_
  refine zR 1 rfl (zN (zU (zT ?_)))
  refine WE.retF tab_ok [_, _] rfl ⟨⟨_, _, _, rfl, rfl, rfl, (Rd.blk 1 rfl), rfl⟩, rfl, trivial⟩ (RLe.refl _) ?_
  exact ⟨g, rfl, rfl, List.Sublist.cons_cons _ (List.Sublist.cons _ (List.Sublist.refl _))⟩

theorem Same02_V {R : Ro} {a b : Option Addr} {ca cb : Nat} {xs ys : List Int} {p1 i1 p2 i2 : Int} (ha : RS R 1 encI a xs) (hb : RS R 1 encI b ys) :
  FnV Tryz.prog 39 [.agg #[.slice a xs.length ca, .int .i64 p1, .int .i64 i1], .agg #[.slice b ys.length cb, .int .i64 p2, .int .i64 i2]] R (.bool (decide (xs = ys ∧ p1 = p2 ∧ i1 = i2))) := by
 have hla := ha.len
 have hlb := hb.len
 refine Fn.toV (fun w0 E => ?_)
 refine fE 45 Tryz.func39 ?_
 refine zQ (zG ?_)
 refine zO fun b2 => ?_
 refine zO fun b3 => ?_
 refine zR 1 rfl (zN (zU (zQ (zQ (zG (zR 1 rfl ?_))))))
 refine yL (Rd.add (Rd.blk 1 rfl) _) ?_
 refine zR 2 rfl ?_
 refine yL (Rd.add (Rd.blk 0 rfl) _) ?_
 refine zR 3 rfl ?_
 refine yP ?_
 refine yG (Rd.addC (Rd.blkC 1 rfl) _) ?_
 refine yP ?_
 refine yG (Rd.addC (Rd.blkC 0 rfl) _) ?_
 refine yP ?_
 refine yO ?_
 refine zR 1 rfl ?_
 refine yP ?_
 refine yG (Rd.addC (Rd.blkC 1 rfl) _) ?_
 refine yP ?_
 refine yG (Rd.addC (Rd.blkC 0 rfl) _) ?_
 refine yP ?_
 refine yO ?_
 refine zN (zU ?_)
 refine W.cond rfl (fun hc0 => ?_) (fun hc0 => ?_)
 ·try simp only [zk] at hc0
  refine zQ (zG (zR 1 rfl (zN (zU (zT (wt ?_))))))
  refine sE (E := E) ?_
  refine WE.retF tab_ok [_] rfl ⟨rfl, trivial⟩ (RLe.refl _) ?_
  exact ⟨congrArg Value.bool (decide_eq_false (by rintro ⟨rfl, rfl, rfl⟩; simp at hc0)).symm, rfl⟩
 ·try simp only [zk] at hc0
  refine zK (zU (zQ (zQ (zG (zR 1 rfl (zN (zU (zB ?_))))))))
  refine W.loop (β := Nat) (fun k => k ≤ xs.length ∧ ∀ j, j < k → nth xs j = nth ys j) (fun k => [(2, true, .pointer (some ⟨b2, 0, none⟩)), (3, true, .pointer (some ⟨b3, 0, none⟩)), (5, true, .int .i64 (k : Int))]) (fun _ => R) (fun _ => .blk b3 [.slice b ys.length cb, .int .i64 p2, .int .i64 i2] :: .blk b2 [.slice a xs.length ca, .int .i64 p1, .int .i64 i1] :: E) (fun k => xs.length - k) (0) (⟨Nat.zero_le _, fun j hj => by omega⟩) ⟨rfl, rfl, rfl, rfl⟩ (RLe.refl _) qS ?_
  intro st hst
  obtain ⟨hk, hpre⟩ := hst
  refine zQ (zQ (zG (zR 2 rfl ?_)))
  refine yL (Rd.add (Rd.blk 1 rfl) _) ?_
  refine zR 2 rfl (zN (zU ?_))
  refine W.condD rfl (fun hc1 => ?_) (fun hc1 => ?_)
  ·try dsimp only at hc1
   refine zK (zU (zQ (zB (zQ ?_))))
   refine W.regionQ _ mixed qK ?_
   refine zR 1 rfl ?_
   refine yL (Rd.add (Rd.blk 1 rfl) _) ?_
   refine zR 1 rfl ?_
   refine WG.y rfl rfl qD (Yl.indexN tab_ok rfl rfl rfl rfl rfl rfl (fun _ => rfl) qN qH) ?_
   refine yR ?_
   refine zR 1 rfl ?_
   refine yL (Rd.add (Rd.blk 0 rfl) _) ?_
   refine zR 1 rfl ?_
   refine WG.y rfl rfl qD (Yl.indexN tab_ok rfl rfl rfl rfl rfl rfl (fun _ => rfl) qN qH) ?_
   refine yR ?_
   refine zR 1 rfl (zN (zU ?_))
   refine W.condN rfl (fun hc2 => ?_) (fun hc2 => ?_)
   ·try dsimp only at hc2
    refine zQ (zG (zR 1 rfl (zN (zU (zT (wb (wt (wt (wb (wt ?_))))))))))
    refine sE (E := E) ?_
    refine WE.retF tab_ok [_] rfl ⟨rfl, trivial⟩ (RLe.refl _) ?_
    exact ⟨congrArg Value.bool (decide_eq_false (by rintro ⟨rfl, _⟩; exact hc2 rfl)).symm, rfl⟩
   ·try dsimp only at hc2
    refine zK (zL (zU (zG (zR 1 rfl ?_))))
    refine yA ?_
    refine zR 1 rfl (zN ?_)
    refine WE.again (st + 1) (⟨by omega, fun j hj => by
     by_cases h : j = st
     ·subst h; exact hc2
     ·exact hpre j (by omega)⟩) (by (try dsimp only); omega) ⟨rfl, rfl, rfl, rfl⟩ (RLe.refl _) qS
  ·try dsimp only at hc1
   refine zX ?_
   refine wx (wx (zY (zU (zQ (zG (zR 1 rfl (zN (zU (zT ?_)))))))))
   refine sE (E := E) ?_
   refine WE.retF tab_ok [_] rfl ⟨rfl, trivial⟩ (RLe.refl _) ?_
   exact ⟨congrArg Value.bool (decide_eq_true ⟨nth_ext qO (fun i hi => hpre i qO), by omega, by omega⟩).symm, rfl⟩



theorem NewR_C {R : Ro} {pa : Option Addr} {pc classes : Nat} {ps : List Pkt} (w0 : World) (hpl : ps.length ≤ 1000000) (hcl : 1 ≤ classes ∧ classes ≤ 1000) (E : List Ent) :
  K.Fn Tryz.prog 106 [.int .i64 classes, .slice pa ps.length pc] w0 R E (fun v R' E' => ∃ (ga da oa : Option Addr) (gc dc oc : Nat) (rows : List Sl), v = .agg #[.int .i64 0, .slice ga ps.length gc, .int .i64 (-1), .slice da ps.length dc, .slice oa rows.length oc] ∧ RS R' 1 encI ga (List.replicate ps.length 0) ∧ RS R' 1 encI da (List.replicate ps.length (-1)) ∧ oa.isSome = true ∧ rows.map Sl.xs = List.replicate classes [0] ∧ (∀ r ∈ rows, r.a.isSome = true) ∧ (.sl 22 1 oa oc (rows.map encS) :: (rows.map (rowE 3) ++ E)).Sublist E') := by
 refine fE 39 Tryz.func106 ?_
 refine zQ (zG ?_)
 refine zA fun b4 => ?_
 refine zN (zU (zQ (zG (zR 2 rfl ?_))))
 refine WL.ef rfl rfl qD (Ef.makeSliceD (enc := encI) 0 tab_ok rfl rfl rfl rfl rfl rfl qX qX qX qX qD rfl rfl (fun a10 => ?_))
 -- build
 refine WG.y rfl rfl qD (Yl.build (parts := [(2, .const (.int .i64 (-1))), (1, .tmp 10)]) tab_ok rfl rfl rfl rfl (fun _ => rfl) rfl rfl) ?_
 refine zA fun b5 => ?_
 refine zE 0 ?_
 refine zN (zU (zQ ?_))
 refine W.freeze (enc := encI) (xs := List.replicate ps.length 0) 1 rfl ?_
 intro R1 hR1 hgz
 refine W.nil 3 1 qD ?_
 refine W.nil 22 1 qD ?_
 refine zQ (zG (zR 1 rfl (zN (zU (zB ?_)))))
 refine W.loopK (β := Nat × Option Addr × Nat) (fun (k, a, c) => k ≤ ps.length) (fun (k, a, c) => [(6, true, .int .i64 (k : Int))]) [0, 1, 4, 5] [_, _, _, _] [] _ rfl (fun (k, a, c) => [(1, .sl 3 1 a c ((List.replicate k (-1 : Int)).map encI)), (2, .blk b5 [.int .i64 0, .slice (some ⟨a10, 0, none⟩) ps.length ps.length, .int .i64 (-1), .slice a (List.replicate k (-1 : Int)).length c, .slice none 0 0])]) (fun (k, a, c) => ps.length - k) ((0, none, 0)) (Nat.zero_le _) ⟨rfl, rfl, rfl, rfl, rfl, rfl⟩ qS ?_
 intro st hst
 obtain ⟨k, a, c⟩ := st
 dsimp only [zipE, setAll, List.cons_append, List.nil_append, List.set_cons_zero, List.set_cons_succ] at hst ⊢
 have hrl : (List.replicate k (-1 : Int)).length = k := by simp
 refine zQ (zQ (zG (zR 4 rfl (zN (zU ?_)))))
 refine W.condD rfl (fun hc0 => ?_) (fun hc0 => ?_)
 ·try dsimp only at hc0
  have e1 : List.replicate (k + 1) (-1 : Int) = List.replicate k (-1 : Int) ++ [-1] := List.replicate_succ'
  refine zK (zU (zQ (zB (zG (zR 2 rfl ?_)))))
  refine yL (Rd.add (Rd.add (Rd.blk 2 rfl) _) _) ?_
  refine WL.ef rfl rfl qD (Ef.buildSliceD (enc := encI) (parts := [.const (.int .i64 (-1))]) [_] tab_ok rfl rfl rfl rfl rfl rfl rfl rfl qD qD (fun a21 => ?_))
  refine WL.ef rfl rfl (by decide) (Ef.appendD 2 0 tab_ok rfl rfl rfl rfl rfl rfl rfl rfl rfl rfl rfl (fun _ _ => rfl) (by simp only [List.length_cons, List.length_nil]; omega) (by simp only [List.length_cons, List.length_nil]; omega) (fun a22 c22 ha22 => ?_))
  refine zR 2 rfl ?_
  refine WL.efN rfl rfl (Ef.store2 3 tab_ok rfl rfl rfl rfl rfl rfl rfl rfl ?_)
  refine zN (zL (zU (zG (zR 1 rfl ?_))))
  refine yA ?_
  refine zR 1 rfl (zN ?_)
  refine WE.again ((k + 1, a22, c22)) (by dsimp only; omega) (by (try dsimp only); omega) ⟨rfl, rfl, rfl, rfl, rfl, rfl⟩ (RLe.refl _) (by dsimp only [setAll, List.set_cons_zero, List.set_cons_succ]; rw [e1]; exact List.Sublist.cons _ (List.Sublist.refl _))
 ·try dsimp only at hc0
  obtain rfl : k = ps.length := by omega
  refine zX ?_
  refine wx (wx (zY (zU (zQ (zQ (zG (zR 1 rfl (zN (zU (zB ?_))))))))))
  refine W.loop (β := Nat × Option Addr × Nat × List Sl) (fun (k2, oa, oc, rows) => k2 ≤ classes ∧ rows.map Sl.xs = List.replicate k2 [0] ∧ (∀ r ∈ rows, r.a.isSome = true) ∧ (0 < k2 → oa.isSome = true)) (fun (k2, oa, oc, rows) => [(0, true, .int .i64 classes), (4, true, .pointer (some ⟨b4, 0, none⟩)), (5, true, .pointer (some ⟨b5, 0, none⟩)), (7, true, .int .i64 (k2 : Int))]) (fun _ => R1) (fun (k2, oa, oc, rows) => .sl 22 1 oa oc (rows.map encS) :: .sl 3 1 a c ((List.replicate ps.length (-1 : Int)).map encI) :: .blk b5 [.int .i64 0, .slice (some ⟨a10, 0, none⟩) ps.length ps.length, .int .i64 (-1), .slice a (List.replicate ps.length (-1 : Int)).length c, .slice oa rows.length oc] :: .blk b4 [.int .i64 0, .slice none 0 0, .int .i64 0, .slice none 0 0, .slice none 0 0] :: (rows.map (rowE 3) ++ E)) (fun (k2, oa, oc, rows) => classes - k2) ((0, none, 0, [])) (⟨Nat.zero_le _, rfl, by simp, by omega⟩) ⟨rfl, rfl, rfl, rfl, rfl⟩ (RLe.refl _) qS ?_
  intro st hst
  obtain ⟨k2, oa, oc, rows⟩ := st
  obtain ⟨g1, g2, g3, g4⟩ := hst
  dsimp only at g1 g2 g3 g4 ⊢
  have hlen : rows.length = k2 := by
   have := congrArg List.length g2
   simpa using this
  refine zQ (zQ (zG (zR 3 rfl (zN (zU ?_)))))
  refine W.condD rfl (fun hc1 => ?_) (fun hc1 => ?_)
  ·try dsimp only at hc1
   refine zK (zU (zQ (zB (zG (zR 2 rfl ?_)))))
   refine yL (Rd.add (Rd.add (Rd.blk 2 rfl) _) _) ?_
   refine WL.ef rfl rfl qD (Ef.buildSliceD (enc := encI) (parts := [.const (.int .i64 0)]) [_] tab_ok rfl rfl rfl rfl rfl rfl rfl rfl qD qD (fun a33 => ?_))
   refine WL.ef rfl rfl qD (Ef.buildSliceD (enc := encS) (parts := [.tmp 33]) [(⟨some ⟨a33, 0, none⟩, 1, [0]⟩ : Sl)] tab_ok rfl rfl rfl rfl rfl rfl rfl rfl qD qD (fun a34 => ?_))
   refine WL.ef rfl rfl (by decide) (Ef.appendD (enc := encS) (xs := rows) (ys := [(⟨some ⟨a33, 0, none⟩, 1, [0]⟩ : Sl)]) 2 0 tab_ok rfl rfl rfl rfl rfl rfl rfl rfl rfl rfl rfl (fun _ _ => rfl) (by simp only [List.length_cons, List.length_nil]; omega) (by simp only [List.length_cons, List.length_nil]; omega) (fun a35 c35 ha35 => ?_))
   refine zR 2 rfl ?_
   refine WL.efN rfl rfl (Ef.store2 4 tab_ok rfl rfl rfl rfl rfl rfl rfl rfl ?_)
   refine zN (zL (zU (zG (zR 1 rfl ?_))))
   refine yA ?_
   refine zR 1 rfl (zN ?_)
   refine WE.subE (List.sublist_cons_self _ _) ?_
   refine WE.againP (k2 + 1, a35, c35, rows ++ [(⟨some ⟨a33, 0, none⟩, 1, [0]⟩ : Sl)]) ⟨by dsimp only; omega, by dsimp only; rw [List.map_append, g2, List.replicate_succ']; rfl, fun r hr => (by rcases List.mem_append.1 hr with h | h; exact g3 r h; obtain rfl : r = _ := (by simpa using h); rfl), fun _ => ha35 (by simp)⟩ (by dsimp only; omega) ⟨rfl, rfl, rfl, rfl, rfl⟩ (RLe.refl _) ⟨_, perm_row, by dsimp only; rw [show (rows ++ [(⟨some ⟨a33, 0, none⟩, 1, [0]⟩ : Sl)]).map (rowE 3) ++ E = rows.map (rowE 3) ++ (rowE 3 ⟨some ⟨a33, 0, none⟩, 1, [0]⟩ :: E) by simp]; exact List.Sublist.refl _⟩
  ·try dsimp only at hc1
   obtain rfl : k2 = classes := by omega
   refine zX ?_
   refine wx (wx (zY (zU ?_)))
   refine W.freeze (enc := encI) (xs := List.replicate ps.length (-1)) 1 rfl ?_
   intro R2 hR2 hdz
   refine zQ (zG ?_)
   refine yL (Rd.blk 1 rfl) ?_
   refine zE 2 ?_
   refine zN (zU (zT ?_))
   refine WE.retF tab_ok [_] rfl ⟨⟨_, _, _, rfl, rfl, rfl, qB, rfl⟩, trivial⟩ (hR1.trans hR2) ?_
   exact ⟨some ⟨a10, 0, none⟩, a, oa, ps.length, c, oc, rows, by simp only [List.length_replicate]; rfl, hgz.mono hR2, hdz, g4 (by omega), g2, g3, qS⟩

theorem BadR_V {R : Ro} {pa : Option Addr} {pc : Nat} {ps : List Pkt} (hp : RS R 3 encP pa ps) {cap classes ticks : Int} : FnV Tryz.prog 105 [.int .i64 cap, .int .i64 classes, .slice pa ps.length pc, .int .i64 ticks] R (.int .i64 (if validate ps ≠ 0 then validate ps else checkE cap classes ticks ps)) := by
 have hla := hp.len
 refine Fn.toV (fun w0 E => ?_)
 refine fE 51 Tryz.func105 ?_
 refine zQ (zG (zR 1 rfl (zN (zU (zQ (zQ (zG (zR 1 rfl ?_))))))))
 refine WG.callV en93 rfl rfl qD (CallOp.mk' rfl rfl rfl rfl) (fun _ => rfl) (fun hg => ValidateR_V hp) ?_
 refine zR 1 rfl (zN (zU (zQ (zG (zR 2 rfl (zN (zU ?_)))))))
 refine W.condN rfl (fun hc0 => ?_) (fun hc0 => ?_)
 ·try dsimp only at hc0
  have e : (if validate ps ≠ 0 then validate ps else checkE cap classes ticks ps) = validate ps := if_pos hc0
  refine zQ (zG (zR 2 rfl (zN (zU (zT (wt ?_))))))
  refine sE (E := E) ?_
  refine WE.retF tab_ok [_] rfl ⟨rfl, trivial⟩ (RLe.refl _) ?_
  exact ⟨by rw [e]; rfl, rfl⟩
 ·try dsimp only at hc0
  have e : (if validate ps ≠ 0 then validate ps else checkE cap classes ticks ps) = checkE cap classes ticks ps := if_neg (fun h => h hc0)
  refine zK (zU (zQ (zQ (zG (zR 3 rfl ?_)))))
  refine yP ?_
  refine yP ?_
  refine yO ?_
  refine zR 1 rfl ?_
  refine yP ?_
  refine yP ?_
  refine yO ?_
  refine zR 1 rfl ?_
  refine yP ?_
  refine yP ?_
  refine yO ?_
  refine zR 1 rfl ?_
  refine yP ?_
  refine yP ?_
  refine yO ?_
  refine zR 1 rfl ?_
  refine yP ?_
  refine yP ?_
  refine yO ?_
  refine zN (zU ?_)
  refine W.cond rfl (fun hc1 => ?_) (fun hc1 => ?_)
  ·try simp only [zk] at hc1
   have hck : checkE cap classes ticks ps = 2 := by unfold checkE; rw [if_pos (by unfold BadC; omega)]
   refine zQ (zG (zR 1 rfl (zN (zU (zT (wt ?_))))))
   refine sE (E := E) ?_
   refine WE.retF tab_ok [_] rfl ⟨rfl, trivial⟩ (RLe.refl _) ?_
   exact ⟨by rw [e, hck]; rfl, rfl⟩
  ·try simp only [zk] at hc1
   have hck : checkE cap classes ticks ps = flowGo classes ps := by unfold checkE; rw [if_neg (by unfold BadC; omega)]
   refine zK (zU (zQ (zQ (zG (zR 1 rfl (zN (zU (zB ?_))))))))
   refine W.loopK (β := Nat) (fun k => k ≤ ps.length ∧ flowGo classes (ps.drop k) = checkE cap classes ticks ps) (fun k => [(10, true, .int .i64 (k : Int))]) [1, 2] [_, _] [] _ rfl (fun k => []) (fun k => ps.length - k) (0) (⟨Nat.zero_le _, by rw [List.drop_zero, hck]⟩) ⟨rfl, rfl, rfl, rfl⟩ qS ?_
   intro k hst
   dsimp only [zipE, setAll, List.cons_append, List.nil_append, List.set_cons_zero, List.set_cons_succ] at hst ⊢
   obtain ⟨hk, hv⟩ := hst
   refine zQ (zQ (zG (zR 4 rfl (zN (zU ?_)))))
   refine W.condD rfl (fun hc2 => ?_) (fun hc2 => ?_)
   ·try dsimp only at hc2
    have hd := drop_nth (xs := ps) (k := k) (by omega)
    rw [hd, flowGo] at hv
    refine zK (zU (zQ (zB (zQ (zG (zR 2 rfl ?_))))))
    refine WG.y rfl rfl qD (Yl.indexN tab_ok rfl rfl rfl rfl rfl rfl (fun _ => rfl) qN qH) ?_
    refine zR 1 rfl ?_
    refine' WG.y rfl rfl qD (Yl.load1 tab_ok rfl rfl rfl (fun _ => rfl) ?r1 rfl ?h1) ?_
    case r1 => apply Rd.add; ((apply RS.rdD; assumption; ((try dsimp only) <;> omega)))
    case h1 => rfl
    refine zR 2 rfl (zN (zU ?_))
    refine W.condD rfl (fun hc3 => ?_) (fun hc3 => ?_)
    ·try dsimp only at hc3
     rw [if_pos (by omega)] at hv
     refine zQ (zG (zR 1 rfl (zN (zU (zT (wb (wt (wt (wb (wt ?_))))))))))
     refine sE (E := E) ?_
     refine WE.retF tab_ok [_] rfl ⟨rfl, trivial⟩ (RLe.refl _) ?_
     exact ⟨by rw [e, ← hv]; rfl, rfl⟩
    ·try dsimp only at hc3
     rw [if_neg (by omega)] at hv
     refine zK (zL (zU (zG (zR 1 rfl ?_))))
     refine yA ?_
     refine zR 1 rfl (zN ?_)
     refine WE.again (k + 1) (⟨by omega, hv⟩) (by (try dsimp only); omega) ⟨rfl, rfl, rfl, rfl⟩ (RLe.refl _) qS
   ·try dsimp only at hc2
    obtain rfl : k = ps.length := by omega
    rw [List.drop_length, flowGo] at hv
    refine zX ?_
    refine wx (wx (zY (zU (zQ (zG (zR 1 rfl (zN (zU (zT ?_)))))))))
    refine sE (E := E) ?_
    refine WE.retF tab_ok [_] rfl ⟨rfl, trivial⟩ (RLe.refl _) ?_
    exact ⟨by rw [e, ← hv]; rfl, rfl⟩



theorem RRun16_C {R : Ro} {pa : Option Addr} {pc : Nat} {ps : List Pkt} (hp : RS R 3 encP pa ps) {cap : Int} {classes ticks : Nat} (w0 : World) (hv : validate ps = 0) (hc : checkE cap classes ticks ps = 0) (E : List Ent) :
  K.Fn Tryz.prog 68 [.int .i64 cap, .int .i64 classes, .slice pa ps.length pc, .int .i64 ticks] w0 R E (fun v R' E' => ∃ (da oa : Option Addr) (dc oc : Nat) (rows : List Sl) (st : St), st = rrun ps (fifoR ps) cap classes ticks () ∧ v = .tuple #[.agg #[.slice da st.done.length dc, .slice oa rows.length oc], .int .i64 0] ∧ RS R' 1 encI da st.done ∧ rows.map Sl.xs = st.sent ∧ (∀ r ∈ rows, r.a.isSome = true) ∧ RInv ps classes (ticks + 1) (ticks * cap) st ∧ (.sl 22 1 oa oc (rows.map encS) :: (rows.map (rowE 3) ++ E)).Sublist E') := by
 have hpR := hp
 have hok := (validate_ok ps).1 hv
 obtain ⟨hb, hflc⟩ := checkE_ok hc
 unfold BadC at hb
 have hcap : 1 ≤ cap ∧ cap ≤ 1000000 := by omega
 have hsz : ∀ p ∈ ps, 1 ≤ p.size ∧ p.size ≤ 1000000 := fun p hp => by have := hok.at hp; omega
 have hs1 : ∀ p ∈ ps, 1 ≤ p.size := fun p hp => (hsz p hp).1
 have hfl : ∀ p ∈ ps, 0 ≤ p.flow ∧ p.flow < classes := fun p hp => by have := hok.at hp; have := hflc p hp; omega
 have hpl := hok.len
 have hBt : ∀ k : Nat, k ≤ ticks → (k : Int) * cap ≤ 2000000000 := fun k hk => by have := Int.mul_le_mul (show (k : Int) ≤ 2000 by omega) hcap.2 (by omega) (by omega); omega
 refine fE 61 Tryz.func68 ?_
 refine zQ (zG ?_)
 refine zA fun b8 => ?_
 refine zR 1 rfl (zN (zU (zQ (zQ (zG (zR 4 rfl ?_))))))
 refine WG.callV en105 rfl rfl (by decide) (CallOp.mk' rfl rfl rfl rfl) (fun _ => rfl) (fun hg => (show (if validate ps ≠ 0 then validate ps else checkE cap classes ticks ps) = 0 by simp [hv, hc]) ▸ BadR_V hp) ?_
 refine zR 1 rfl (zN (zU (zQ (zG (zR 2 rfl (zN (zU ?_)))))))
 refine W.condN rfl (fun hc0 => ?_) (fun hc0 => ?_)
 ·try dsimp only at hc0
  exact absurd rfl hc0
 ·try dsimp only at hc0
  refine zK (zU (zQ (zG (zR 2 rfl ?_))))
  refine WL.call en106 rfl rfl qD (CallOp.mkT rfl rfl rfl rfl) (NewR_C w0 qO qO _) ?_
  rintro _ R1 E1 hR1 ⟨ga, da, oa, gc, dc, oc, rows, rfl, hgv, hdn, hoa, hrx, hra, hsub⟩
  refine WL.subE hsub ?_
  refine WL.perm (List.perm_middle (l₁ := _ :: rows.map (rowE 3))) ?_
  refine zA fun b11 => ?_
  refine zE 0 ?_
  refine zN (zU (zQ (zB ?_)))
  refine W.loop (β := Ro × Option Addr × Option Addr × Nat × Nat × St × Unit × List Sl) (fun (Rk, ga, da, gc, dc, st, g, rows) => RLe R Rk ∧ RS Rk 1 encI ga st.given ∧ RS Rk 1 encI da st.done ∧ rows.map Sl.xs = st.sent ∧ (∀ r ∈ rows, r.a.isSome = true) ∧ RInv ps classes (st.time + 1) ((st.time : Int) * cap) st ∧ st.time ≤ ticks ∧ (rticks ps (fifoR ps) cap (ticks - st.time) st g).1 = rrun ps (fifoR ps) cap classes ticks ()) (fun (Rk, ga, da, gc, dc, st, g, rows) => [(0, true, .int .i64 cap), (2, true, .slice pa ps.length pc), (3, true, .int .i64 ticks), (8, true, .pointer (some ⟨b8, 0, none⟩)), (11, true, .pointer (some ⟨b11, 0, none⟩))]) (fun (Rk, _, _, _, _, _, _, _) => Rk) (fun (Rk, ga, da, gc, dc, st, g, rows) => .blk b11 [.int .i64 st.time, .slice ga st.given.length gc, .int .i64 st.now, .slice da st.done.length dc, .slice oa rows.length oc] :: .blk b8 [.slice none 0 0, .slice none 0 0] :: .sl 22 1 oa oc (rows.map encS) :: (rows.map (rowE 3) ++ E)) (fun (Rk, ga, da, gc, dc, st, g, rows) => ticks - st.time) ((R1, ga, da, gc, dc, rstart ps classes, (), rows)) (⟨hR1, hgv, hdn, hrx, hra, (show RInv ps classes 1 (((0 : Nat) : Int) * cap) (rstart ps classes) by simpa using RInv.start (classes := classes) hs1), Nat.zero_le _, rfl⟩) ⟨rfl, rfl, rfl, rfl, rfl, rfl⟩ (RLe.refl _) (by simp only [rstart, List.length_replicate]; exact qS) ?_
  intro st hst
  obtain ⟨Rk, ga, da, gc, dc, st0, g0, rows⟩ := st
  obtain ⟨hRk, hgv, hdn, hrx, hra, hinv, htk, hfin⟩ := hst
  dsimp only at hRk hgv hdn hrx hra hinv htk hfin ⊢
  have hp := hp.mono hRk
  have hlr : rows.length = classes := by rw [← hinv.slen, ← hrx, List.length_map]
  refine zQ (zQ (zG (zR 1 rfl ?_)))
  refine yL (Rd.add (Rd.blk 0 rfl) _) ?_
  refine zR 2 rfl (zN (zU ?_))
  refine W.condD rfl (fun hc1 => ?_) (fun hc1 => ?_)
  ·try dsimp only at hc1
   refine zK (zU (zB (zQ (zG ?_))))
   refine yL (Rd.blk 0 rfl) ?_
   refine WL.perm perm_out ?_
   refine WL.call en107 rfl rfl (by decide) (CallOp.mkT rfl rfl rfl rfl) (BeginR_C w0 hoa (fun r hr => ⟨hra r hr, by have := (hinv.rows r.xs (by rw [← hrx]; exact List.mem_map_of_mem hr)).1; omega⟩) (by omega) _) ?_
   rintro _ _ E2 - ⟨rows2, rfl, rfl, hrx2, hra2, hsub⟩
   refine WL.subE hsub ?_
   refine WL.perm perm_out.symm ?_
   have hl2 : rows2.length = rows.length := by have := congrArg List.length hrx2; simpa using this
   refine zE 0 ?_
   refine zN (zU (zQ (zQ (zG (zR 2 rfl (zN (zU (zB ?_))))))))
   refine W.loop (β := Ro × Option Addr × Option Addr × Nat × Nat × St × Unit × List Sl × Int) (fun (Rk, ga, da, gc, dc, st, g, rows, left) => RLe R Rk ∧ RS Rk 1 encI ga st.given ∧ RS Rk 1 encI da st.done ∧ rows.map Sl.xs = st.sent ∧ (∀ r ∈ rows, r.a.isSome = true) ∧ (∃ k : Nat, rinner ps (fifoR ps) k left st g = rinner ps (fifoR ps) cap.toNat cap (rbegin st0) g0 ∧ left ≤ k) ∧ 0 ≤ left ∧ left ≤ cap ∧ st.time = st0.time ∧ ∃ B, RInv ps classes (st0.time + 2) B st ∧ B + left ≤ ((st0.time : Int) + 1) * cap) (fun (Rk, ga, da, gc, dc, st, g, rows, left) => [(0, true, .int .i64 cap), (2, true, .slice pa ps.length pc), (3, true, .int .i64 ticks), (8, true, .pointer (some ⟨b8, 0, none⟩)), (11, true, .pointer (some ⟨b11, 0, none⟩)), (12, true, .int .i64 left)]) (fun (Rk, _, _, _, _, _, _, _, _) => Rk) (fun (Rk, ga, da, gc, dc, st, g, rows, left) => .blk b11 [.int .i64 st.time, .slice ga st.given.length gc, .int .i64 st.now, .slice da st.done.length dc, .slice oa rows.length oc] :: .blk b8 [.slice none 0 0, .slice none 0 0] :: .sl 22 1 oa oc (rows.map encS) :: (rows.map (rowE 3) ++ E)) (fun (Rk, ga, da, gc, dc, st, g, rows, left) => left.toNat) ((Rk, ga, da, gc, dc, rbegin st0, g0, rows2, cap)) (⟨hRk, hgv, hdn, by rw [hrx2, hrx]; rfl, hra2, ⟨cap.toNat, rfl, by (try dsimp only); omega⟩, by (try dsimp only); omega, by (try dsimp only); omega, rfl, _, hinv.begin (by omega), by (try dsimp only); rw [Int.add_mul]; omega⟩) ⟨rfl, rfl, rfl, rfl, rfl, rfl, rfl⟩ (RLe.refl _) (by rw [← hl2]; exact qS) ?_
   intro st hst
   obtain ⟨Rk, ga, da, gc, dc, st1, g1, rows, left⟩ := st
   obtain ⟨hRk, hgv, hdn, hrx, hra, ⟨k, hin, hkk⟩, hl0, hlc, htime, B, hinv, hB⟩ := hst
   dsimp only at hRk hgv hdn hrx hra hin hkk hl0 hlc htime hinv hB ⊢
   have hp := hpR.mono hRk
   have hB1 := hBt (st0.time + 1) (by omega)
   have hB2 : ((st0.time + 1 : Nat) : Int) = (st0.time : Int) + 1 := by omega
   rw [hB2] at hB1
   refine zQ (zQ (zG (zR 2 rfl (zN (zU ?_)))))
   refine W.condD rfl (fun hc2 => ?_) (fun hc2 => ?_)
   ·try dsimp only at hc2
    refine zK (zU (zB ?_))
    refine W.seqCut (β := St) (fun st2 => st2 = { st1 with now := (rpick (fifoR ps) st1 g1).1 }) (fun st2 => [(0, true, .int .i64 cap), (2, true, .slice pa ps.length pc), (3, true, .int .i64 ticks), (8, true, .pointer (some ⟨b8, 0, none⟩)), (11, true, .pointer (some ⟨b11, 0, none⟩)), (12, true, .int .i64 left)]) (fun _ => Rk) (fun st2 => .blk b11 [.int .i64 st2.time, .slice ga st2.given.length gc, .int .i64 st2.now, .slice da st2.done.length dc, .slice oa rows.length oc] :: .blk b8 [.slice none 0 0, .slice none 0 0] :: .sl 22 1 oa oc (rows.map encS) :: (rows.map (rowE 3) ++ E)) ?_ ?_
    ·
     intro st2 hst
     have hs2 := hst
     have hs2n : st2.now = (rpick (fifoR ps) st1 g1).1 := by rw [hs2]
     have hinv2 : RInv ps classes (st0.time + 2) B st2 := by rw [hs2]; exact hinv.pick hs1 (fifoR_waiting ps)
     have hgv : RS Rk 1 encI ga st2.given := by rw [hs2]; exact hgv
     have hdn : RS Rk 1 encI da st2.done := by rw [hs2]; exact hdn
     have hrx : rows.map Sl.xs = st2.sent := by rw [hs2]; exact hrx
     refine zQ (zQ (zG (zR 1 rfl ?_)))
     refine yL (Rd.add (Rd.blk 0 rfl) _) ?_
     refine zR 1 rfl (zN (zU ?_))
     refine W.condE rfl (fun hc3 => ?_) (fun hc3 => ?_)
     ·try dsimp only at hc3
      have hend : rinner ps (fifoR ps) cap.toNat cap (rbegin st0) g0 = (st2, (rpick (fifoR ps) st1 g1).2) := by rw [← hin, rinner_none hkk (by omega) (by rw [← hs2n]; exact hc3), hs2]
      have hinv := hinv2
      have htime : st2.time = st0.time := by rw [hs2]; exact htime
      refine zX ?_
      refine wx ?_
      refine WE.blk_other rfl ?_
      refine wx (zY (zU (zG (zR 1 rfl ?_))))
      refine yL (Rd.add (Rd.blk 0 rfl) _) ?_
      refine yA ?_
      refine zR 1 rfl ?_
      refine zF 0 ?_
      refine zN (zL ?_)
      refine WE.again (Rk, ga, da, gc, dc, { st2 with time := st2.time + 1 }, (rpick (fifoR ps) st1 g1).2, rows) ⟨hRk, hgv, hdn, hrx, hra, ?_, by (try dsimp only); omega, ?_⟩ (by (try dsimp only); omega) ⟨rfl, rfl, rfl, rfl, rfl, rfl⟩ (RLe.refl _) qS
      ·have := hinv.tick.mono (B' := ((st0.time + 1 : Nat) : Int) * cap) (by rw [hB2]; omega)
       dsimp only at this ⊢
       rw [htime] at this ⊢; exact this
      ·dsimp only
       rw [← hfin, show ticks - st0.time = (ticks - (st0.time + 1)) + 1 by omega, rticks, htime]
       have hrt : rtick ps (fifoR ps) cap st0 g0 = ({ st2 with time := st0.time + 1 }, (rpick (fifoR ps) st1 g1).2) := by unfold rtick; rw [hend]; dsimp only; rw [htime]
       rw [hrt]
     ·try dsimp only at hc3
      refine zK (zU (zQ (zG (zR 1 rfl (zN (zU (zQ (zG ?_))))))))
      refine yL (Rd.blk 0 rfl) ?_
      refine zR 2 rfl ?_
      refine WL.perm perm_out ?_
      refine WL.call en109 rfl rfl qD (CallOp.mkT rfl rfl rfl rfl) (SendR_C (classes := classes) (B := B) (len := st0.time + 2) w0 hoa hp hgv hdn hinv2 qO qO hrx hra hc3 qO hsz hfl qO _) ?_
      rintro _ R3 E3 hR3 ⟨ga2, da2, gc2, dc2, rows3, rfl, hgv3, hdn3, hrx3, hra3, hsub⟩
      refine WL.subE hsub ?_
      refine WL.perm perm_out.symm ?_
      obtain ⟨hs4, hs5, hs6⟩ := hinv2.send hfl (by omega) hc3 (most := left) (by omega)
      have hl3 : rows3.length = rows.length := by
       have h1 := congrArg List.length hrx3
       have h2 := hs4.slen
       have h3 := hinv2.slen
       have h4 := congrArg List.length hrx
       simp only [List.length_map] at h1 h4
       omega
      refine zR 3 rfl ?_
      refine zE 0 ?_
      refine zR 1 rfl (zN (zU (zG (zR 2 rfl ?_))))
      refine yS ?_
      refine zR 1 rfl (zN (zL ?_))
      have hin2 : rinner ps (fifoR ps) (k - 1) (left - rsendN ps left st2) (rsend ps left st2) (rpick (fifoR ps) st1 g1).2 = rinner ps (fifoR ps) cap.toNat cap (rbegin st0) g0 := by rw [← hin, rinner_some hkk (by omega) (by rw [← hs2n]; exact hc3), hs2]
      refine WE.again (R3, ga2, da2, gc2, dc2, rsend ps left st2, (rpick (fifoR ps) st1 g1).2, rows3, left - rsendN ps left st2) ⟨hRk.trans hR3, hgv3, hdn3, hrx3, hra3, ⟨k - 1, hin2, by (try dsimp only); omega⟩, by (try dsimp only); omega, by (try dsimp only); omega, by dsimp only; rw [rsend_time, hs2]; exact htime, _, hs4, by (try dsimp only); omega⟩ (by (try dsimp only); omega) ⟨rfl, rfl, rfl, rfl, rfl, rfl, rfl⟩ (RLe.refl _) (by rw [hl3]; exact qS)
    ·
     refine zQ (zG (zR 1 rfl ?_))
     refine yL (Rd.add (Rd.blk 0 rfl) _) ?_
     refine zR 1 rfl (zN (zU ?_))
     refine W.condE rfl (fun hc4 => ?_) (fun hc4 => ?_)
     ·try dsimp only at hc4
      refine zG ?_
      refine yL (Rd.blk 0 rfl) ?_
      refine zR 1 rfl ?_
      refine WG.callV en112 rfl rfl qD (CallOp.mk' rfl rfl rfl rfl) (fun _ => rfl) (fun hg => FirstR_V hp hgv hinv.glen (cls := -1)) ?_
      refine zR 1 rfl ?_
      refine zF 0 ?_
      refine zN ?_
      refine WE.cut { st1 with now := firstW ps st1 (-1) } (by unfold rpick; rw [if_pos hc4]; rfl) ⟨rfl, rfl, rfl, rfl, rfl, rfl, rfl⟩ (RLe.refl _) qS
     ·try dsimp only at hc4
      refine zK ?_
      refine WE.cut st1 (by unfold rpick; rw [if_neg hc4]) ⟨rfl, rfl, rfl, rfl, rfl, rfl, rfl⟩ (RLe.refl _) qS
   ·try dsimp only at hc2
    have hend : rinner ps (fifoR ps) cap.toNat cap (rbegin st0) g0 = (st1, g1) := by rw [← hin, rinner_stop (by omega)]
    refine zX ?_
    refine wx (wx (zY (zU (zG (zR 1 rfl ?_)))))
    refine yL (Rd.add (Rd.blk 0 rfl) _) ?_
    refine yA ?_
    refine zR 1 rfl ?_
    refine zF 0 ?_
    refine zN (zL ?_)
    refine WE.again (Rk, ga, da, gc, dc, { st1 with time := st1.time + 1 }, g1, rows) ⟨hRk, hgv, hdn, hrx, hra, ?_, by (try dsimp only); omega, ?_⟩ (by (try dsimp only); omega) ⟨rfl, rfl, rfl, rfl, rfl, rfl⟩ (RLe.refl _) qS
    ·have := hinv.tick.mono (B' := ((st0.time + 1 : Nat) : Int) * cap) (by rw [hB2]; omega)
     dsimp only at this ⊢
     rw [htime] at this ⊢; exact this
    ·dsimp only
     rw [← hfin, show ticks - st0.time = (ticks - (st0.time + 1)) + 1 by omega, rticks, htime]
     have hrt : rtick ps (fifoR ps) cap st0 g0 = ({ st1 with time := st0.time + 1 }, g1) := by unfold rtick; rw [hend]; dsimp only; rw [htime]
     rw [hrt]
  ·try dsimp only at hc1
   have hst : st0.time = ticks := by omega
   have hfin2 : st0 = rrun ps (fifoR ps) cap classes ticks () := by rw [← hfin, hst, Nat.sub_self]; rfl
   rw [hst] at hinv
   refine zX ?_
   refine wx (wx (zY (zU (zQ (zG (zR 1 rfl ?_))))))
   refine yL (Rd.add (Rd.blk 0 rfl) _) ?_
   refine zE 1 ?_
   refine zR 1 rfl (zN (zU (zT ?_)))
   refine WE.retF tab_ok [_, _] rfl ⟨⟨_, _, _, rfl, rfl, rfl, qB, rfl⟩, rfl, trivial⟩ (hRk) ?_
   exact ⟨da, oa, dc, oc, rows, st0, hfin2, rfl, hdn, hrx, hra, hinv, qS⟩



theorem LRun_err {R : Ro} {pa : Option Addr} {pc : Nat} {ps : List Pkt} (hp : RS R 3 encP pa ps) {cap classes ticks : Int} (w0 : World) (hbad : lrunE cap classes ticks ps ≠ 0) (E : List Ent) :
  K.Fn Tryz.prog 189 [.int .i64 cap, .int .i64 classes, .slice pa ps.length pc, .int .i64 ticks] w0 R E (fun v R' E' => v = .tuple #[.agg #[.slice none 0 0, .slice none 0 0], .int .i64 (lrunE cap classes ticks ps)] ∧ R = R' ∧ E.Sublist E') := by
 have hla := hp.len
 refine fE 32 Tryz.func189 ?_
 refine zQ (zG ?_)
 refine zA fun b8 => ?_
 refine zR 1 rfl (zN (zU (zQ (zQ (zG (zR 1 rfl ?_))))))
 refine WG.callV en79 rfl rfl qD (CallOp.mk' rfl rfl rfl rfl) (fun _ => rfl) (fun hg => Validate_V hp) ?_
 refine zR 1 rfl (zN (zU (zQ (zG (zR 2 rfl (zN (zU ?_)))))))
 refine W.condN rfl (fun hc0 => ?_) (fun hc0 => ?_)
 ·try dsimp only at hc0
  have e : lrunE cap classes ticks ps = validate ps := if_pos hc0
  refine zQ (zG ?_)
  -- build
  refine WG.y rfl rfl qD (Yl.build (parts := []) tab_ok rfl rfl rfl rfl (fun _ => rfl) rfl rfl) ?_
  refine zR 1 rfl ?_
  refine zE 0 ?_
  refine zR 1 rfl (zN (zU (zT (wt ?_))))
  refine WE.retF tab_ok [_, _] rfl ⟨⟨_, _, _, rfl, rfl, rfl, qB, rfl⟩, rfl, trivial⟩ (RLe.refl _) ?_
  exact ⟨by rw [e]; rfl, rfl, qS⟩
 ·try dsimp only at hc0
  have e : lrunE cap classes ticks ps = checkE cap classes ticks ps := if_neg (fun h => h hc0)
  refine zK (zU (zQ (zQ (zG (zR 4 rfl ?_)))))
  refine WG.callV en190 rfl rfl qD (CallOp.mk' rfl rfl rfl rfl) (fun _ => rfl) (fun hg => Check_V hp) ?_
  refine zR 1 rfl (zN (zU (zQ (zG (zR 2 rfl (zN (zU ?_)))))))
  refine W.condN rfl (fun hc1 => ?_) (fun hc1 => ?_)
  ·try dsimp only at hc1
   refine zQ (zG ?_)
   -- build
   refine WG.y rfl rfl qD (Yl.build (parts := []) tab_ok rfl rfl rfl rfl (fun _ => rfl) rfl rfl) ?_
   refine zR 1 rfl ?_
   refine zE 0 ?_
   refine zR 1 rfl (zN (zU (zT (wt ?_))))
   refine WE.retF tab_ok [_, _] rfl ⟨⟨_, _, _, rfl, rfl, rfl, qB, rfl⟩, rfl, trivial⟩ (RLe.refl _) ?_
   exact ⟨by rw [e]; rfl, rfl, qS⟩
  ·try dsimp only at hc1
   exact absurd (e.trans hc1) hbad

theorem RRun16_err {R : Ro} {pa : Option Addr} {pc : Nat} {ps : List Pkt} (hp : RS R 3 encP pa ps) {cap classes ticks : Int} (w0 : World) (hbad : lrunE cap classes ticks ps ≠ 0) (E : List Ent) :
  K.Fn Tryz.prog 68 [.int .i64 cap, .int .i64 classes, .slice pa ps.length pc, .int .i64 ticks] w0 R E (fun v R' E' => v = .tuple #[.agg #[.slice none 0 0, .slice none 0 0], .int .i64 (lrunE cap classes ticks ps)] ∧ R = R' ∧ E.Sublist E') := by
 have hla := hp.len
 refine fE 61 Tryz.func68 ?_
 refine zQ (zG ?_)
 refine zA fun b8 => ?_
 refine zR 1 rfl (zN (zU (zQ (zQ (zG (zR 4 rfl ?_))))))
 refine WG.callV en105 rfl rfl qD (CallOp.mk' rfl rfl rfl rfl) (fun _ => rfl) (fun hg => (show (if validate ps ≠ 0 then validate ps else checkE cap classes ticks ps) = lrunE cap classes ticks ps from rfl) ▸ BadR_V hp) ?_
 refine zR 1 rfl (zN (zU (zQ (zG (zR 2 rfl (zN (zU ?_)))))))
 refine W.condN rfl (fun hc0 => ?_) (fun hc0 => ?_)
 ·try dsimp only at hc0
  refine zQ (zG ?_)
  -- build
  refine WG.y rfl rfl qD (Yl.build (parts := []) tab_ok rfl rfl rfl rfl (fun _ => rfl) rfl rfl) ?_
  refine zR 1 rfl ?_
  refine zE 0 ?_
  refine zR 1 rfl (zN (zU (zT (wt ?_))))
  refine WE.retF tab_ok [_, _] rfl ⟨⟨_, _, _, rfl, rfl, rfl, qB, rfl⟩, rfl, trivial⟩ (RLe.refl _) ?_
  exact ⟨rfl, rfl, qS⟩
 ·try dsimp only at hc0
  exact absurd hc0 hbad


theorem RRun16_any {R : Ro} {pa : Option Addr} {pc l : Nat} {ps : List Pkt} (hp : RS R 3 encP pa ps) (hl : ps.length = l) {cap classes ticks : Int} (w0 : World) (E : List Ent) :
  K.Fn Tryz.prog 68 [.int .i64 cap, .int .i64 classes, .slice pa l pc, .int .i64 ticks] w0 R E (fun v R' E' => ∃ (da oa : Option Addr) (dc oc : Nat) (rows : List Sl), v = .tuple #[.agg #[.slice da (lineOut cap classes ticks ps).1.length dc, .slice oa rows.length oc], .int .i64 (lrunE cap classes ticks ps)] ∧ RS R' 1 encI da (lineOut cap classes ticks ps).1 ∧ RS R' 1 encS oa rows ∧ (∀ r ∈ rows, RS R' 1 encI r.a r.xs) ∧ rows.map Sl.xs = (lineOut cap classes ticks ps).2 ∧ E.Sublist E') := by
 subst hl
 by_cases h : lrunE cap classes ticks ps = 0
 ·obtain ⟨hok, hv, hck, c1, c2, c3, c4, c5, c6, hs, hf⟩ := lrunE_ok h
  have hrf := lineOut_ref h
  obtain ⟨nc, rfl⟩ := Int.eq_ofNat_of_zero_le (show 0 ≤ classes by omega)
  obtain ⟨nt, rfl⟩ := Int.eq_ofNat_of_zero_le c5
  simp only [Int.toNat_natCast] at hrf
  intro w hm
  refine (RRun16_C (pc := pc) hp w0 hv hck E w hm).mono ?_
  rintro e w' ⟨v, R', E', rfl, hR, hm', da, oa, dc, oc, rows, st, rfl, rfl, hd, h1, h2, h3, hsub⟩
  have hm1 := hm'.sub (RLe.refl _) hsub
  obtain ⟨R2, k1, k2, k3⟩ := hm1.freeze (i := 0) (enc := encS) (xs := rows) rfl
  obtain ⟨R3, j1, j2, j3⟩ := Mem.freezeRows (rows := rows) (G := E) k3
  refine ⟨_, R3, E, rfl, hR.trans (k1.trans j1), j3, da, oa, dc, oc, rows, ?_, ?_, k2.mono j1, j2, ?_, List.Sublist.refl _⟩
  ·rw [← hrf.1, h]
  ·rw [← hrf.1]; exact hd.mono (k1.trans j1)
  ·rw [← hrf.2]; exact h1
 ·refine (RRun16_err hp w0 h E).mono ?_
  rintro v R' E' hR ⟨rfl, rfl, hsub⟩
  have ho : lineOut cap classes ticks ps = ([], []) := by unfold lineOut; rw [if_pos h]
  exact ⟨none, none, 0, 0, [], by rw [ho]; rfl, by rw [ho]; exact rs_nil, rs_nil, by simp, by rw [ho]; rfl, hsub⟩

theorem Same16_V {R : Ro} {da db oa ob : Option Addr} {dac dbc oac obc : Nat} {xs ys : List Int} {ra rb : List Sl} (hda : RS R 1 encI da xs) (hdb : RS R 1 encI db ys) (hoa : RS R 1 encS oa ra) (hob : RS R 1 encS ob rb) (hra : ∀ r ∈ ra, RS R 1 encI r.a r.xs) (hrb : ∀ r ∈ rb, RS R 1 encI r.a r.xs) (he : xs = ys) (hf : ra.map Sl.xs = rb.map Sl.xs) : FnV Tryz.prog 34 [.agg #[.slice da xs.length dac, .slice oa ra.length oac], .agg #[.slice db ys.length dbc, .slice ob rb.length obc]] R (.bool true) := by
 have hla := hoa.len
 have hlb := hob.len
 have hll : ra.length = rb.length := by simpa using congrArg List.length hf
 refine Fn.toV (fun w0 E => ?_)
 refine fE 40 Tryz.func34 ?_
 refine zQ (zG ?_)
 refine zO fun b2 => ?_
 refine zO fun b3 => ?_
 refine zR 1 rfl (zN (zU (zQ (zQ (zG (zR 1 rfl ?_))))))
 refine yL (Rd.add (Rd.blk 1 rfl) _) ?_
 refine zR 1 rfl ?_
 refine yL (Rd.add (Rd.blk 0 rfl) _) ?_
 refine WG.callV en51 rfl rfl qD (CallOp.mk' rfl rfl rfl rfl) (fun _ => rfl) (fun hg => Ints_V hda hdb) ?_
 refine zR 2 rfl ?_
 refine yP ?_
 refine yG (Rd.addC (Rd.blkC 1 rfl) _) ?_
 refine yP ?_
 refine yP ?_
 refine yG (Rd.addC (Rd.blkC 0 rfl) _) ?_
 refine yP ?_
 refine yP ?_
 refine yO ?_
 refine zN (zU ?_)
 refine W.cond rfl (fun hc0 => ?_) (fun hc0 => ?_)
 ·try simp only [zk] at hc0
  rcases hc0 with h | h
  ·exact absurd (decide_eq_true he) (by simp [h])
  ·omega
 ·try simp only [zk] at hc0
  refine zK (zU (zQ (zQ (zG (zR 1 rfl (zN (zU (zB ?_))))))))
  refine W.loopK (β := Nat) (fun k => k ≤ ra.length) (fun k => [(5, true, .int .i64 (k : Int))]) [2, 3] [_, _] [] _ rfl (fun k => []) (fun k => ra.length - k) (0) (Nat.zero_le _) ⟨rfl, rfl, rfl, rfl⟩ qS ?_
  intro k hst
  dsimp only [zipE, setAll, List.cons_append, List.nil_append, List.set_cons_zero, List.set_cons_succ] at hst ⊢
  
  refine zQ (zQ (zG (zR 2 rfl ?_)))
  refine yL (Rd.add (Rd.blk 1 rfl) _) ?_
  refine zR 2 rfl (zN (zU ?_))
  refine W.condD rfl (fun hc1 => ?_) (fun hc1 => ?_)
  ·try dsimp only at hc1
   refine zK (zU (zQ (zB (zQ ?_))))
   refine W.regionQ _ mixed qK ?_
   refine zR 1 rfl ?_
   refine yL (Rd.add (Rd.blk 1 rfl) _) ?_
   refine zR 1 rfl ?_
   refine WG.y rfl rfl qD (Yl.indexN tab_ok rfl rfl rfl rfl rfl rfl (fun _ => rfl) qN qH) ?_
   refine yR ?_
   refine zR 1 rfl ?_
   refine yL (Rd.add (Rd.blk 0 rfl) _) ?_
   refine zR 1 rfl ?_
   refine WG.y rfl rfl qD (Yl.indexN tab_ok rfl rfl rfl rfl rfl rfl (fun _ => rfl) qN qH) ?_
   refine yR ?_
   refine WG.callV en51 rfl rfl qD (CallOp.mk' rfl rfl rfl rfl) (fun _ => rfl) (fun hg => Ints_V (hra _ (nth_mem (xs := ra) (k := k) qO)) (hrb _ (nth_mem (xs := rb) (k := k) qO))) ?_
   refine zR 1 rfl (zN (zU ?_))
   refine W.cond rfl (fun hc2 => ?_) (fun hc2 => ?_)
   ·try simp only [zk] at hc2
    exact absurd (decide_eq_true (show (nth ra k).xs = (nth rb k).xs by rw [nth_map_xs rfl (by omega), nth_map_xs rfl (by omega), hf])) (by simp [hc2])
   ·try simp only [zk] at hc2
    refine zK (zL (zU (zG (zR 1 rfl ?_))))
    refine yA ?_
    refine zR 1 rfl (zN ?_)
    refine WE.again (k + 1) qO (by (try dsimp only); omega) ⟨rfl, rfl, rfl, rfl⟩ (RLe.refl _) qS
  ·try dsimp only at hc1
   refine zX ?_
   refine wx (wx (zY (zU (zQ (zG (zR 1 rfl (zN (zU (zT ?_)))))))))
   refine sE (E := E) ?_
   refine WE.retF tab_ok [_] rfl ⟨rfl, trivial⟩ (RLe.refl _) ?_
   exact ⟨rfl, rfl⟩



theorem PickN_C {R : Ro} {b : Nat} {a : Option Addr} {cp : Nat} {xs : List Int} {c : Nat} (w0 : World) {n : Nat} {a2 : Option Addr} {c2 : Nat} {j : Nat} {F : List Ent} (ys : List Int) (hn : ys.length = n) (hn0 : 0 < n) (hn1 : n ≤ 1000000) (ha : RS R 1 encI a xs) (hy : F[j]? = some (.sl 3 1 a2 c2 (ys.map encI))) :
  K.Fn Tryz.prog 32 [.pointer (some ⟨b, 0, none⟩), .slice a2 n c2] w0 R (srcE b a cp xs c :: F) (fun v R' E' => ∃ e' N, E' = N ++ e' :: F ∧ RdPost (.int .i64 (nth ys (mod (nth xs c) n).toNat)) R (srcE b a cp xs (c + 1)) v R' e' N) := by
 subst hn; exact Pick_C w0 ha hy hn0 hn1

theorem Broken_C {R : Ro} {b : Nat} {a : Option Addr} {cp : Nat} {xs : List Int} {c : Nat} {pa : Option Addr} {pc pl : Nat} {ps : List Pkt} (w0 : World) (ha : RS R 1 encI a xs) (hp : RS R 3 encP pa ps) (hpl : ps.length = pl) (hl : pl ≤ 1000) : FnAt Tryz.prog 31 [.pointer (some ⟨b, 0, none⟩), .slice pa pl pc] w0 R (srcE b a cp xs c)
  (fun v R' e' N => ∃ (a' : Option Addr) (c' cn : Nat) (qs : List Pkt), v = .slice a' qs.length c' ∧ RS R' 3 encP a' qs ∧ e' = srcE b a cp xs cn ∧ N = []) := by
 intro F
 subst hpl
 refine fE 63 Tryz.func31 ?_
 refine zQ (zG (zR 1 rfl (zN (zU (zQ (zG ?_))))))
 refine WL.ef rfl rfl qD (Ef.buildSliceD (enc := encP) (parts := []) [] tab_ok rfl rfl rfl rfl rfl rfl rfl rfl qD qD (fun a7 => ?_))
 refine zR 1 rfl ?_
 refine WL.ef rfl rfl qD (Ef.cloneL (enc := encP) 0 tab_ok rfl rfl rfl rfl rfl rfl rfl rfl rfl rfl hp (fun _ _ => rfl) (by dsimp only; omega) qO (fun a9 c9 ha9 => ?_))
 refine zR 1 rfl (zN (zU (zQ (zQ (zG (zR 3 rfl (zN (zU ?_))))))))
 refine W.condE rfl (fun hc0 => ?_) (fun hc0 => ?_)
 ·try dsimp only at hc0
  refine W.freeze (enc := encP) (xs := ps) 0 rfl ?_
  intro R1 hR1 hqs
  refine zQ (zG (zR 2 rfl (zN (zU (zT (wt ?_))))))
  refine WE.subE (E' := srcE b a cp xs (c) :: F) qS ?_
  refine WE.retF tab_ok [_] rfl ⟨rfl, trivial⟩ (hR1) ?_
  exact ⟨_, [], rfl, _, _, _, _, rfl, hqs, rfl, rfl⟩
 ·try dsimp only at hc0
  have hm1 := mod_range (nth xs c) (show (1 : Int) ≤ ps.length by omega)
  have hm2 := mod_range (nth xs (c + 1)) (show (1 : Int) ≤ 4 by decide)
  refine zK (zU (zQ (zG (zR 3 rfl ?_))))
  refine WL.callAt 1 en23 rfl rfl qD (CallOp.mkT rfl rfl rfl rfl) rfl (N_C w0 ha (by constructor <;> omega) _) ?_
  rintro _ _ _ _ - ⟨rfl, rfl, rfl, rfl⟩
  refine zR 1 rfl (zN (zU (zQ (zQ (zG (zR 1 rfl ?_))))))
  refine WL.callAt 1 en23 rfl rfl qD (CallOp.mkT rfl rfl rfl rfl) rfl (N_C w0 ha (by constructor <;> omega) _) ?_
  rintro _ _ _ _ - ⟨rfl, rfl, rfl, rfl⟩
  refine zN (zU (zB (zQ (zG (zR 2 rfl (zN (zU ?_)))))))
  refine W.condE rfl (fun hc1 => ?_) (fun hc1 => ?_)
  ·try dsimp only at hc1
   refine zG (zR 3 rfl ?_)
   refine WL.ef rfl rfl qD (Ef.buildSliceD (enc := encI) (parts := [.const (.int .i64 (-1)), .const (.int .i64 0), .const (.int .i64 6), .const (.int .i64 59), .const (.int .i64 60)]) [_, _, _, _, _] tab_ok rfl rfl rfl rfl rfl rfl rfl rfl qD qD (fun a40 => ?_))
   refine WL.callAt 2 en32 rfl rfl qD (CallOp.mkT rfl rfl rfl rfl) rfl (PickN_C (j := 0) w0 [-1, 0, 6, 59, 60] rfl qD qD ha rfl) ?_
   rintro _ _ _ _ - ⟨rfl, rfl, rfl, rfl⟩
   refine WG.y rfl rfl qD (Yl.index tab_ok rfl rfl rfl rfl rfl rfl (fun _ => rfl) qA (by intro _; first | exact fun _ _ _ h => ha9 h | exact qI)) ?_
   refine zR 1 rfl ?_
   refine WL.efN rfl rfl (Ef.storeF (enc := encP) (xs := ps) (⟨(nth ([-1, 0, 6, 59, 60] : List Int) (mod (nth xs (c + 1 + 1)) ((5 : Nat) : Int)).toNat), (nth ps (mod (nth xs c) ps.length).toNat).time, (nth ps (mod (nth xs c) ps.length).toNat).size⟩ : Pkt) 1 tab_ok rfl rfl rfl rfl rfl qO rfl rfl qD rfl ?_)
   refine WL.freeze (enc := encP) (xs := ps.set (mod (nth xs c) ps.length).toNat (⟨(nth ([-1, 0, 6, 59, 60] : List Int) (mod (nth xs (c + 1 + 1)) ((5 : Nat) : Int)).toNat), (nth ps (mod (nth xs c) ps.length).toNat).time, (nth ps (mod (nth xs c) ps.length).toNat).size⟩ : Pkt)) 1 rfl ?_
   intro R1 hR1 hqs
   refine zN (zL (zU (zQ (zG (zR 2 rfl (zN (zU (zT ?_))))))))
   refine WE.subE (E' := srcE b a cp xs (c + 1 + 1 + 1) :: F) qS ?_
   refine WE.retF tab_ok [_] rfl ⟨rfl, trivial⟩ (hR1) ?_
   refine ⟨_, [], rfl, a9, c9, _, _, ?_, hqs, rfl, rfl⟩
   rw [List.length_set]; rfl
  ·try dsimp only at hc1
   refine zQ (zG (zR 2 rfl (zN (zU ?_))))
   refine W.condE rfl (fun hc2 => ?_) (fun hc2 => ?_)
   ·try dsimp only at hc2
    refine zG (zR 3 rfl ?_)
    refine WL.ef rfl rfl qD (Ef.buildSliceD (enc := encI) (parts := [.const (.int .i64 (-1)), .const (.int .i64 0), .const (.int .i64 380), .const (.int .i64 2000), .const (.int .i64 2001)]) [_, _, _, _, _] tab_ok rfl rfl rfl rfl rfl rfl rfl rfl qD qD (fun a49 => ?_))
    refine WL.callAt 2 en32 rfl rfl qD (CallOp.mkT rfl rfl rfl rfl) rfl (PickN_C (j := 0) w0 [-1, 0, 380, 2000, 2001] rfl qD qD ha rfl) ?_
    rintro _ _ _ _ - ⟨rfl, rfl, rfl, rfl⟩
    refine WG.y rfl rfl qD (Yl.index tab_ok rfl rfl rfl rfl rfl rfl (fun _ => rfl) qA (by intro _; first | exact fun _ _ _ h => ha9 h | exact qI)) ?_
    refine zR 1 rfl ?_
    refine WL.efN rfl rfl (Ef.storeF (enc := encP) (xs := ps) (⟨(nth ps (mod (nth xs c) ps.length).toNat).flow, (nth ([-1, 0, 380, 2000, 2001] : List Int) (mod (nth xs (c + 1 + 1)) ((5 : Nat) : Int)).toNat), (nth ps (mod (nth xs c) ps.length).toNat).size⟩ : Pkt) 1 tab_ok rfl rfl rfl rfl rfl qO rfl rfl qD rfl ?_)
    refine WL.freeze (enc := encP) (xs := ps.set (mod (nth xs c) ps.length).toNat (⟨(nth ps (mod (nth xs c) ps.length).toNat).flow, (nth ([-1, 0, 380, 2000, 2001] : List Int) (mod (nth xs (c + 1 + 1)) ((5 : Nat) : Int)).toNat), (nth ps (mod (nth xs c) ps.length).toNat).size⟩ : Pkt)) 1 rfl ?_
    intro R1 hR1 hqs
    refine zN (zL (zU (zQ (zG (zR 2 rfl (zN (zU (zT ?_))))))))
    refine WE.subE (E' := srcE b a cp xs (c + 1 + 1 + 1) :: F) qS ?_
    refine WE.retF tab_ok [_] rfl ⟨rfl, trivial⟩ (hR1) ?_
    refine ⟨_, [], rfl, a9, c9, _, _, ?_, hqs, rfl, rfl⟩
    rw [List.length_set]; rfl
   ·try dsimp only at hc2
    refine zQ (zG (zR 2 rfl (zN (zU ?_))))
    refine W.condE rfl (fun hc3 => ?_) (fun hc3 => ?_)
    ·try dsimp only at hc3
     refine zG (zR 3 rfl ?_)
     refine WL.ef rfl rfl qD (Ef.buildSliceD (enc := encI) (parts := [.const (.int .i64 0), .const (.int .i64 1), .const (.int .i64 1500), .const (.int .i64 1501), .const (.int .i64 (-1))]) [_, _, _, _, _] tab_ok rfl rfl rfl rfl rfl rfl rfl rfl qD qD (fun a58 => ?_))
     refine WL.callAt 2 en32 rfl rfl qD (CallOp.mkT rfl rfl rfl rfl) rfl (PickN_C (j := 0) w0 [0, 1, 1500, 1501, -1] rfl qD qD ha rfl) ?_
     rintro _ _ _ _ - ⟨rfl, rfl, rfl, rfl⟩
     refine WG.y rfl rfl qD (Yl.index tab_ok rfl rfl rfl rfl rfl rfl (fun _ => rfl) qA (by intro _; first | exact fun _ _ _ h => ha9 h | exact qI)) ?_
     refine zR 1 rfl ?_
     refine WL.efN rfl rfl (Ef.storeF (enc := encP) (xs := ps) (⟨(nth ps (mod (nth xs c) ps.length).toNat).flow, (nth ps (mod (nth xs c) ps.length).toNat).time, (nth ([0, 1, 1500, 1501, -1] : List Int) (mod (nth xs (c + 1 + 1)) ((5 : Nat) : Int)).toNat)⟩ : Pkt) 1 tab_ok rfl rfl rfl rfl rfl qO rfl rfl qD rfl ?_)
     refine WL.freeze (enc := encP) (xs := ps.set (mod (nth xs c) ps.length).toNat (⟨(nth ps (mod (nth xs c) ps.length).toNat).flow, (nth ps (mod (nth xs c) ps.length).toNat).time, (nth ([0, 1, 1500, 1501, -1] : List Int) (mod (nth xs (c + 1 + 1)) ((5 : Nat) : Int)).toNat)⟩ : Pkt)) 1 rfl ?_
     intro R1 hR1 hqs
     refine zN (zL (zU (zQ (zG (zR 2 rfl (zN (zU (zT ?_))))))))
     refine WE.subE (E' := srcE b a cp xs (c + 1 + 1 + 1) :: F) qS ?_
     refine WE.retF tab_ok [_] rfl ⟨rfl, trivial⟩ (hR1) ?_
     refine ⟨_, [], rfl, a9, c9, _, _, ?_, hqs, rfl, rfl⟩
     rw [List.length_set]; rfl
    ·try dsimp only at hc3
     refine zB ?_
     refine W.loop (β := List Pkt × Option Addr × Nat × Nat) (fun (qs, aq, cq, cn) => 0 < qs.length ∧ qs.length ≤ 2000) (fun (qs, aq, cq, cn) => [(0, true, .pointer (some ⟨b, 0, none⟩)), (5, true, .slice aq qs.length cq)]) (fun _ => R) (fun (qs, aq, cq, cn) => .sl 51 3 aq cq (qs.map encP) :: srcE b a cp xs cn :: F) (fun (qs, aq, cq, cn) => 2000 - qs.length) ((ps, a9, c9, c + 1 + 1)) (⟨by omega, by omega⟩) ⟨rfl, rfl, rfl⟩ (RLe.refl _) qS ?_
     intro st hst
     obtain ⟨qs, aq, cq, cn⟩ := st
     obtain ⟨hq0, hq1⟩ := hst
     dsimp only at hq0 hq1 ⊢
     have hm3 := mod_range (nth xs cn) (show (1 : Int) ≤ 2 by decide)
     refine zQ (zQ (zG (zR 3 rfl ?_)))
     refine WL.callAt 1 en23 rfl rfl qD (CallOp.mkT rfl rfl rfl rfl) rfl (N_C w0 ha (by constructor <;> omega) _) ?_
     rintro _ _ _ _ - ⟨rfl, rfl, rfl, rfl⟩
     refine yA ?_
     refine zR 1 rfl (zN (zU ?_))
     refine W.condD rfl (fun hc4 => ?_) (fun hc4 => ?_)
     ·try dsimp only at hc4
      refine zK (zU (zB (zG (zR 4 rfl ?_))))
      refine yS ?_
      refine WG.y rfl rfl qD (Yl.index tab_ok rfl rfl rfl rfl rfl rfl (fun _ => rfl) qA (by intro _; first | exact fun _ _ _ h => ha9 h | exact qI)) ?_
      refine' WG.y rfl rfl qD (Yl.load1 tab_ok rfl rfl rfl (fun _ => rfl) ?r1 rfl ?h1) ?_
      case r1 => exact Rd.slD 0 rfl qO
      case h1 => rfl
      refine WL.ef rfl rfl qD (Ef.buildSliceD (enc := encP) (parts := [.tmp 32]) [⟨_, _, _⟩] tab_ok rfl rfl rfl rfl rfl rfl rfl rfl qD qD (fun a33 => ?_))
      refine WL.ef rfl rfl (by decide) (Ef.appendD 1 0 tab_ok rfl rfl rfl rfl rfl rfl rfl rfl rfl rfl rfl (fun _ _ => rfl) (by simp only [List.length_cons, List.length_nil]; omega) (by simp only [List.length_cons, List.length_nil]; omega) (fun a34 c34 ha34 => ?_))
      refine zR 1 rfl (zN (zL ?_))
      refine WE.again ((qs ++ [nth qs ((qs.length : Int) - 1).toNat], a34, c34, cn + 1)) (⟨by simp, by simp only [List.length_append, List.length_cons, List.length_nil]; omega⟩) (by simp only [List.length_append, List.length_cons, List.length_nil]; omega) ⟨rfl, rfl, rfl⟩ (RLe.refl _) qS
     ·try dsimp only at hc4
      refine W.freeze (enc := encP) (xs := qs) 0 rfl ?_
      intro R1 hR1 hqs
      refine zX ?_
      refine wx (wx (zY (zL (zU (zQ (zG (zR 2 rfl (zN (zU (zT ?_))))))))))
      refine WE.subE (E' := srcE b a cp xs (cn + 1) :: F) qS ?_
      refine WE.retF tab_ok [_] rfl ⟨rfl, trivial⟩ (hR1) ?_
      exact ⟨_, [], rfl, _, _, _, _, rfl, hqs, rfl, rfl⟩



end Go.Proofs.YthpblaoehlgpfaaGreat

/- Rules: calls that hand back one value and leave memory, under any guard, in regions that draw their order and write; what is not wanted. No condition. -/
namespace Go.Proofs.YthpblaoehlgpfaaGreat.K
open Go Go.RowKit
section
variable {P : Program} {ops : List Oper} {o : Oper} {Q : Exit → Act → World → Prop} {ES : List Ent} {R0 : Ro} {w0 : World} {fuel : Nat} {listed : Array Bool} {n : Nat} {env : Env} {R : Ro} {E : List Ent} {pc q : Bool}
theorem WA.callV {v : Value} {d : Nat} {f : FuncId} {vs : List Value} (i : Nat) (hi : ops.toArray[i]? = some o) (hr : Region.ready .any ops.toArray listed = [i]) (hf : Enters P f) (hg : gpc ops env o = some pc) (hd : o.dst = some d) (hdn : d < n)
  (hc : CallOp env o.op q f vs) (hq : pc = true → q = true) (hv : pc = true → FnV P f vs R v) (hsub : ES.Sublist E) (hR : RLe R0 R)
  (h : WA P ops Q ES R0 w0 fuel (listed.setIfInBounds i true) n ((d, pc, v) :: env) R E) : WA P ops Q ES R0 w0 (fuel + 1) listed n env R E := by
 intro a w hk hm
 refine wpAnyH_all hr (by simp) fun j hj => ?_
 obtain rfl : j = i := by simpa using hj
 unfold wpOp
 rw [hi]
 have hput := hk.put hdn pc v
 have hw := hk.wanted hg
 cases pc with
 | true =>
  simp only [hw, if_true]
  left
  unfold Oper.wp
  rw [run_call hk hc (hq rfl) hf]
  refine (hv rfl w0 E w hm).mono ?_
  rintro e w' ⟨rfl, hm'⟩
  simp only [hd]
  exact ⟨hm'.sub hR hsub, h _ _ (by simpa using hput) hm'⟩
 | false =>
  simp only [hw, Bool.false_eq_true, if_false, hd]
  exact ⟨hm.sub hR hsub, h _ _ (by simpa using hput) hm⟩
theorem WS.callV {v : Value} {d : Nat} {f : FuncId} {vs : List Value} {i : Nat} (hi : ops.toArray[i]? = some o) (hf : Enters P f) (hg : gpc ops env o = some pc) (hd : o.dst = some d) (hdn : d < n)
  (hc : CallOp env o.op q f vs) (hq : pc = true → q = true) (hv : pc = true → FnV P f vs R v) (hsub : ES.Sublist E) (hR : RLe R0 R)
  (h : WA P ops Q ES R0 w0 fuel (listed.setIfInBounds i true) n ((d, pc, v) :: env) R E) : WS P ops Q ES R0 w0 fuel listed n env R E i := by
 intro a w hk hm
 unfold wpOp
 rw [hi]
 have hput := hk.put hdn pc v
 have hw := hk.wanted hg
 cases pc with
 | true =>
  simp only [hw, if_true]
  left
  unfold Oper.wp
  rw [run_call hk hc (hq rfl) hf]
  refine (hv rfl w0 E w hm).mono ?_
  rintro e w' ⟨rfl, hm'⟩
  simp only [hd]
  exact ⟨hm'.sub hR hsub, h _ _ (by simpa using hput) hm'⟩
 | false =>
  simp only [hw, Bool.false_eq_true, if_false, hd]
  exact ⟨hm.sub hR hsub, h _ _ (by simpa using hput) hm⟩
theorem Yl.off {v : Value} (h : pc = false) : Yl P n env w0 R E o pc v := fun _ _ _ _ hp => by rw [h] at hp; cases hp
end
end Go.Proofs.YthpblaoehlgpfaaGreat.K

/- Rules: maps of a few keys (make, insert, look up), values in interfaces, calls of methods. No condition. -/
namespace Go.Proofs.YthpblaoehlgpfaaGreat.K
open Go Go.RowKit
section
variable {P : Program} {T : Tab} {ops rest : List Oper} {Q : Exit → Act → World → Prop} {n : Nat} {env : Env} {w0 : World} {R : Ro} {E : List Ent} {o : Oper} {pc p q : Bool}
theorem under_map (hT : TabOk P T) {t k e : TypeId} {d : TD} (hd : T.at t = some d) (hk : d.k = .map k e) : P.underlying t = some (.map k e) := by
 have := hT.kind hd
 rw [hk] at this
 unfold kindOf at this
 split at this <;> simp_all
theorem under_int (hT : TabOk P T) {t : TypeId} {k : IntKind} {d : TD} (hd : T.at t = some d) (hk : d.k = .int k) : P.underlying t = some (.int k) := by
 have := hT.kind hd
 rw [hk] at this
 unfold kindOf at this
 split at this <;> simp_all
theorem Ef.makeMap {K : Value → Ro → List Ent → Prop} {t : TypeId} (ho : o.op = .makeMap t none) (hK : ∀ b, K (.map (some b)) R (.obj b (.map #[] 0) :: E)) : Ef P n env w0 R E o K := by
 intro a w hk hm
 refine ⟨_, w.alloc (.map #[] 0), R, _, .inl ?_, hm.newObj _, hK _⟩
 unfold execOp
 simp [ho, run_makeMap_plain]
theorem Ef.insert {K : Value → Ro → List Ent → Prop} {t kt et : TypeId} {x y z : Operand} {b clock : Nat} {es : Array MapEntry} {kk : IntKind} {k : Int} {v : Value} {d d2 : TD} (hT : TabOk P T) (ho : o.op = .insert t x y z) (hd : T.at t = some d) (hkd : d.k = .map kt et) (hd2 : T.at kt = some d2) (hk2 : d2.k = .int kk)
  (hx : ev env x = some (true, .map (some b))) (hy : ev env y = some (true, .int kk k)) (hz : ev env z = some (true, v)) (hf : Instr.findNow (.int kk) (.int kk k) es.toList 0 = some none)
  (hK : K undef R (.obj b (.map (es.push { key := .int kk k, val := v, born := clock }) (clock + 1)) :: E)) : Ef P n env w0 R (.obj b (.map es clock) :: E) o K := by
 intro a w hk hm
 have hb := hm.getObj
 have hm1 := under_map hT hd hkd
 have hu2 := under_int hT hd2 hk2
 have hc : (Instr.checkKey false 10000 kt (.int kk k)).run P w = .ok () w := MapKept.run_checkKey (k := .int kk k) hu2 (by simp [MapKept.IsKey]) false 9999
 refine ⟨undef, w.putObj b (.map (es.push { key := .int kk k, val := v, born := clock }) (clock + 1)), R, _, .inr ⟨?_, rfl⟩, hm.putObj _, hK⟩
 unfold execOp
 simp [ho, hk.ev hx rfl, hk.ev hy rfl, hk.ev hz rfl, Instr.mapUpdate, run_underlying hm1, MapKept.run_getObj_map hb, hc, MapKept.run_findKey hu2 hf, MapKept.run_setObj_map _ hb, Result.andThen, World.putObj]
def foundV (z : Value) : Option (Nat × Value) → Value
  | some (_, u) => .tuple #[u, .bool true]
  | none => .tuple #[z, .bool false]
theorem Yl.lookup {t kt et : TypeId} {x y : Operand} {b clock : Nat} {es : Array MapEntry} {kk : IntKind} {k : Int} {v z : Value} {d d2 : TD} {r : Option (Nat × Value)} (hT : TabOk P T) (ho : o.op = .lookup t x y true) (hd : T.at t = some d) (hkd : d.k = .map kt et) (hd2 : T.at kt = some d2) (hk2 : d2.k = .int kk) (hz : (P.info? et).bind (·.zero) = some z)
  (hx : ev env x = some (p, .map (some b))) (hy : ev env y = some (q, .int kk k)) (hpq : pc = true → (p && q) = true) (hf : Instr.findNow (.int kk) (.int kk k) es.toList 0 = some r)
  (hv : foundV z r = v) : Yl P n env w0 R (.obj b (.map es clock) :: E) o pc v := by
 intro a w hk hm hpc
 obtain ⟨h1, h2⟩ := and_both (hpq hpc)
 have hb := hm.getObj
 have hm1 := under_map hT hd hkd
 have hu2 := under_int hT hd2 hk2
 have hc : (Instr.checkKey es.isEmpty 10000 kt (.int kk k)).run P w = .ok () w := MapKept.run_checkKey (k := .int kk k) hu2 (by simp [MapKept.IsKey]) es.isEmpty 9999
 have hz' : (zeroValue et).run P w = .ok z w := by
  cases hi : P.info? et with
  | none => rw [hi] at hz; cases hz
  | some inf =>
   rw [hi] at hz
   have : inf.zero = some z := hz
   simp [zeroValue, typeInfo, hi, this]
 subst hv
 unfold execOp
 cases r with
 | none => simp [foundV, ho, hk.ev hx h1, hk.ev hy h2, Instr.lookup, run_underlying hm1, MapKept.run_getObj_map hb, hc, MapKept.run_findKey hu2 hf, hz', Result.andThen]
 | some r => simp [foundV, ho, hk.ev hx h1, hk.ev hy h2, Instr.lookup, run_underlying hm1, MapKept.run_getObj_map hb, hc, MapKept.run_findKey hu2 hf, Result.andThen]
theorem Yl.toIface {t : TypeId} {fs : List (Nat × Nat)} {x : Operand} {v : Value} {d : TD} (hT : TabOk P T) (ho : o.op = .makeInterface t x) (hd : T.at t = some d) (hk : d.k = .strct fs) (hx : ev env x = some (p, v)) (hpq : pc = true → p = true) : Yl P n env w0 R E o pc (.iface t v) := by
 intro a w hk2 hm hpc
 obtain ⟨ff, hu, _⟩ := hT.strct hd hk
 unfold execOp
 simp [ho, hk2.ev hx (hpq hpc), Instr.makeInterface, run_underlying hu]
/-- the method of what stands in an interface -/
def Meth (P : Program) (t : TypeId) (rv : Value) (name : String) (f : FuncId) (us : List Value) : Prop :=
  ∀ w, (callMethod (.iface t rv) name us.toArray).run P w = .ok (.enter f (rv :: us).toArray) w
theorem run_callI {a : Act} {w : World} (hk : Kn n env a) {x : Operand} {args : List Operand} {ats : Array TypeId} {name : String} {t : TypeId} {rv : Value} {f : FuncId} {us : List Value} (ho : o.op = .call { callee := .invoke x name, args := args.toArray, argTypes := ats })
  (hx : ev env x = some (true, .iface t rv)) (ha : evs env args = some (true, us)) (hm : Meth P t rv name f us) : (execOp a.eval o).run P w = .ok (.enter f (rv :: us).toArray) w := by
 have e1 := hk.ev hx rfl
 have e2 := evs_ok hk ha rfl
 have e3 : args.toArray.map a.eval = us.toArray := by rw [← e2]; simp
 have e4 : (#[Value.iface t rv] ++ us.toArray).extract 1 (#[Value.iface t rv] ++ us.toArray).size = us.toArray := by simp
 have e5 : (#[Value.iface t rv] ++ us.toArray)[0]? = some (.iface t rv) := by simp
 unfold execOp
 rw [ho]
 simp only [resolve, e1, e3, invoke, Sem.run_bind, Sem.run_pure, Result.andThen_ok]
 rw [e5]
 simp only [e4]
 exact hm w
theorem WL.callI {d : Nat} {x : Operand} {args : List Operand} {ats : Array TypeId} {name : String} {t : TypeId} {rv : Value} {f : FuncId} {us : List Value} {Post : Value → Ro → List Ent → Prop} (ho : o.op = .call { callee := .invoke x name, args := args.toArray, argTypes := ats }) (hg : o.guard = none) (hd : o.dst = some d) (hdn : d < n)
  (hx : ev env x = some (true, .iface t rv)) (ha : evs env args = some (true, us)) (hm : Meth P t rv name f us) (hv : Fn P f (rv :: us) w0 R E Post)
  (h : ∀ v R' E', RLe R R' → Post v R' E' → WG false P ops Q rest n ((d, true, v) :: env) w0 R' E') : WG false P ops Q (o :: rest) n env w0 R E := by
 intro a w hk hmm
 refine wpList_plain hg fun K hK => ?_
 unfold Oper.wp
 rw [run_callI hk ho hx ha hm]
 refine (hv w hmm).mono ?_
 rintro e w' ⟨v, R', E', rfl, hR, hm', hp⟩
 simp only [hd]
 exact hK _ _ (h v R' E' hR hp _ _ (hk.putT hdn v) hm')
theorem WA.freezeBlk {ES : List Ent} {R0 : Ro} {fuel : Nat} {listed : Array Bool} {b : Nat} {cs : List Value} (i : Nat) (hE : E[i]? = some (.blk b cs)) (h : ∀ R', RLe R R' → R' b = some cs → WA P ops Q ES R0 w0 fuel listed n env R' (E.eraseIdx i)) : WA P ops Q ES R0 w0 fuel listed n env R E := by
 intro a w hk hm
 obtain ⟨R', hR, hb, hm'⟩ := hm.freezeBlk hE
 exact h R' hR hb a w hk hm'
/-- what a run hands back, read only: the ticks and the bytes -/
def RunV (out : List Int × List (List Int)) (E : List Ent) (T : Value → Value) (v : Value) (R' : Ro) (E' : List Ent) : Prop :=
  ∃ (da oa : Option Addr) (dc oc : Nat) (rows : List M.Sl), v = T (.agg #[.slice da out.1.length dc, .slice oa rows.length oc]) ∧ RS R' 1 encI da out.1 ∧ RS R' 1 M.encS oa rows ∧ (∀ r ∈ rows, RS R' 1 encI r.a r.xs) ∧ rows.map M.Sl.xs = out.2 ∧ (∀ r ∈ rows, r.xs.length ≤ r.cap) ∧ E.Sublist E'
end
end Go.Proofs.YthpblaoehlgpfaaGreat.K

/- Chapter 22: the kinds, the numbers within, the lists. No condition. -/
set_option maxRecDepth 4000
set_option linter.unusedSimpArgs false
set_option linter.unusedVariables false
namespace Go.Proofs.YthpblaoehlgpfaaGreat
open Go Go.RowKit Go.Proofs.YthpblaoehlgpfaaGreat.K Go.Proofs.YthpblaoehlgpfaaGreat.M

def kindI (k : Int) : Value := if k = 1 then .iface 112 (.agg #[]) else if k = 2 then .iface 113 (.agg #[]) else if k = 3 then .iface 114 (.agg #[]) else if k = 4 then .iface 115 (.agg #[]) else if k = 5 then .iface 116 (.agg #[]) else .nilIface
def kindB (k : Int) : Bool := decide (1 ≤ k) && decide (k ≤ 5)
def kindR (k : Int) : Option (Nat × Value) := if k = 1 then some (0, .iface 112 (.agg #[])) else if k = 2 then some (1, .iface 113 (.agg #[])) else if k = 3 then some (2, .iface 114 (.agg #[])) else if k = 4 then some (3, .iface 115 (.agg #[])) else if k = 5 then some (4, .iface 116 (.agg #[])) else none
theorem kind_find (k : Int) : Instr.findNow (.int .i64) (.int .i64 k) [{ key := .int .i64 1, val := .iface 112 (.agg #[]), born := 0 }, { key := .int .i64 2, val := .iface 113 (.agg #[]), born := 1 }, { key := .int .i64 3, val := .iface 114 (.agg #[]), born := 2 }, { key := .int .i64 4, val := .iface 115 (.agg #[]), born := 3 }, { key := .int .i64 5, val := .iface 116 (.agg #[]), born := 4 }] 0 = some (kindR k) := by
 unfold kindR
 by_cases h1 : k = 1
 ·subst h1; rfl
 ·by_cases h2 : k = 2
  ·subst h2; rfl
  ·by_cases h3 : k = 3
   ·subst h3; rfl
   ·by_cases h4 : k = 4
    ·subst h4; rfl
    ·by_cases h5 : k = 5
     ·subst h5; rfl
     ·have e1 : (k == 1) = false := by simpa using h1
      have e2 : (k == 2) = false := by simpa using h2
      have e3 : (k == 3) = false := by simpa using h3
      have e4 : (k == 4) = false := by simpa using h4
      have e5 : (k == 5) = false := by simpa using h5
      simp [Instr.findNow, Instr.sameNow, h1, h2, h3, h4, h5, e1, e2, e3, e4, e5]
theorem kind_hit (k : Int) : foundV .nilIface (kindR k) = .tuple #[kindI k, .bool (kindB k)] := by
 unfold kindR kindI kindB
 by_cases h1 : k = 1
 ·subst h1; rfl
 ·by_cases h2 : k = 2
  ·subst h2; rfl
  ·by_cases h3 : k = 3
   ·subst h3; rfl
   ·by_cases h4 : k = 4
    ·subst h4; rfl
    ·by_cases h5 : k = 5
     ·subst h5; rfl
     ·have : (decide (1 ≤ k) && decide (k ≤ 5)) = false := by simp only [Bool.and_eq_false_iff, decide_eq_false_iff_not]; omega
      simp [h1, h2, h3, h4, h5, this, foundV]

theorem Kind_V {R : Ro} (k : Int) : FnV Tryz.prog 44 [.int .i64 k] R (.tuple #[kindI k, .bool (kindB k)]) := by
 refine Fn.toV (fun w0 E => ?_)
 refine fE 25 Tryz.func44 ?_
 refine zQ (zG (zR 2 rfl (zN (zU (zQ (zG ?_))))))
 refine WL.ef rfl rfl qD (Ef.makeMap rfl (fun b7 => ?_))
 -- build
 refine WG.y rfl rfl qD (Yl.build (parts := []) tab_ok rfl rfl rfl rfl (fun _ => rfl) rfl rfl) ?_
 refine WG.y rfl rfl qD (Yl.toIface tab_ok rfl rfl rfl rfl (fun _ => rfl)) ?_
 refine WL.efN rfl rfl (Ef.insert tab_ok rfl rfl rfl rfl rfl rfl rfl rfl rfl ?_)
 -- build
 refine WG.y rfl rfl qD (Yl.build (parts := []) tab_ok rfl rfl rfl rfl (fun _ => rfl) rfl rfl) ?_
 refine WG.y rfl rfl qD (Yl.toIface tab_ok rfl rfl rfl rfl (fun _ => rfl)) ?_
 refine WL.efN rfl rfl (Ef.insert tab_ok rfl rfl rfl rfl rfl rfl rfl rfl rfl ?_)
 -- build
 refine WG.y rfl rfl qD (Yl.build (parts := []) tab_ok rfl rfl rfl rfl (fun _ => rfl) rfl rfl) ?_
 refine WG.y rfl rfl qD (Yl.toIface tab_ok rfl rfl rfl rfl (fun _ => rfl)) ?_
 refine WL.efN rfl rfl (Ef.insert tab_ok rfl rfl rfl rfl rfl rfl rfl rfl rfl ?_)
 -- build
 refine WG.y rfl rfl qD (Yl.build (parts := []) tab_ok rfl rfl rfl rfl (fun _ => rfl) rfl rfl) ?_
 refine WG.y rfl rfl qD (Yl.toIface tab_ok rfl rfl rfl rfl (fun _ => rfl)) ?_
 refine WL.efN rfl rfl (Ef.insert tab_ok rfl rfl rfl rfl rfl rfl rfl rfl rfl ?_)
 -- build
 refine WG.y rfl rfl qD (Yl.build (parts := []) tab_ok rfl rfl rfl rfl (fun _ => rfl) rfl rfl) ?_
 refine WG.y rfl rfl qD (Yl.toIface tab_ok rfl rfl rfl rfl (fun _ => rfl)) ?_
 refine WL.efN rfl rfl (Ef.insert tab_ok rfl rfl rfl rfl rfl rfl rfl rfl rfl ?_)
 refine zR 2 rfl ?_
 refine WG.y rfl rfl qD (Yl.lookup (r := kindR k) (v := .tuple #[kindI k, .bool (kindB k)]) tab_ok rfl rfl rfl rfl rfl rfl rfl rfl (fun _ => rfl) (kind_find k) (kind_hit k)) ?_
 refine zR 5 rfl (zN (zU (zQ (zG (zR 4 rfl (zN (zU (zT ?_))))))))
 refine sE (E := E) ?_
 refine WE.retF tab_ok [_, _] rfl ⟨rfl, rfl, trivial⟩ (RLe.refl _) ?_
 exact ⟨rfl, rfl⟩

theorem IndexI_V {R : Ro} {a : Option Addr} {c : Nat} {xs : List Int} {g : FuncId} {first capd : Array Value} {p : Int → Bool} (ha : RS R 1 encI a xs) (heg : Enters Tryz.prog g) (hp : ∀ i, i < xs.length → FnV Tryz.prog g (first.toList ++ [.int .i64 (nth xs i)] ++ capd.toList) R (.bool (p (nth xs i)))) :
  FnV Tryz.prog 223 [.slice a xs.length c, .func (.func g) first capd] R (.int .i64 (findN (fun i => p (nth xs i)) xs.length)) := by
 have hla := ha.len
 refine Fn.toV (fun w0 E => ?_)
 refine fE 19 Tryz.func223 ?_
 refine zQ (zG (zR 1 rfl (zN (zU (zQ (zQ (zG (zR 3 rfl (zN (zU (zB ?_)))))))))))
 refine W.loopK (β := Nat) (fun k => k ≤ xs.length ∧ ∀ i, i < k → p (nth xs i) = false) (fun k => [(8, true, .int .i64 (k : Int))]) [0, 1, 7] [_, _, _] [] _ rfl (fun k => []) (fun k => xs.length - k) (0) (⟨Nat.zero_le _, fun i hi => absurd hi (Nat.not_lt_zero i)⟩) ⟨rfl, rfl, rfl, rfl, rfl⟩ qS ?_
 intro k hst
 dsimp only [zipE, setAll, List.cons_append, List.nil_append, List.set_cons_zero, List.set_cons_succ] at hst ⊢
 obtain ⟨hk, hpre⟩ := hst
 refine zQ (zG (zR 1 rfl (zN (zU (zQ ?_)))))
 refine W.condD rfl (fun hc0 => ?_) (fun hc0 => ?_)
 ·try dsimp only at hc0
  refine zK (zU (zQ (zB (zQ (zG (zR 2 rfl (zN (zU (zQ (zG (zR 3 rfl ?_)))))))))))
  refine WG.y rfl rfl qD (Yl.indexN tab_ok rfl rfl rfl rfl rfl rfl (fun _ => rfl) qN qH) ?_
  refine yR ?_
  refine WG.callV (v := .bool (p (nth xs k))) heg rfl rfl qD (CallOp.mk' rfl rfl rfl rfl) (fun _ => rfl) (fun hg => hp k qO) ?_
  refine zN (zU ?_)
  refine W.cond rfl (fun hc1 => ?_) (fun hc1 => ?_)
  ·try simp only [zk] at hc1
   refine zQ (zG (zR 2 rfl (zN (zU (zT (wb (wt (wt (wb (wt ?_))))))))))
   refine sE (E := E) ?_
   refine WE.retF tab_ok [_] rfl ⟨rfl, trivial⟩ (RLe.refl _) ?_
   exact ⟨congrArg (Value.int IntKind.i64) (findN_some qO hc1 hpre).symm, rfl⟩
  ·try simp only [zk] at hc1
   refine zK (zL (zU (zG ?_)))
   refine yA ?_
   refine zR 1 rfl (zN ?_)
   refine WE.again (k + 1) (⟨by omega, fun i hi => by rcases Nat.lt_or_ge i k with h | h; exact hpre i h; rw [show i = k by omega]; simpa using hc1⟩) (by (try dsimp only); omega) ⟨rfl, rfl, rfl, rfl, rfl⟩ (RLe.refl _) qS
 ·try dsimp only at hc0
  refine zX ?_
  refine wx (wx (zY (zU (zQ (zG (zR 1 rfl (zN (zU (zT ?_)))))))))
  refine sE (E := E) ?_
  refine WE.retF tab_ok [_] rfl ⟨rfl, trivial⟩ (RLe.refl _) ?_
  exact ⟨congrArg (Value.int IntKind.i64) (findN_none (fun j hj => hpre j qO)).symm, rfl⟩

theorem ContainsI_V {R : Ro} {a : Option Addr} {c : Nat} {xs : List Int} {g : FuncId} {first capd : Array Value} {p : Int → Bool} (ha : RS R 1 encI a xs) (heg : Enters Tryz.prog g) (hp : ∀ i, i < xs.length → FnV Tryz.prog g (first.toList ++ [.int .i64 (nth xs i)] ++ capd.toList) R (.bool (p (nth xs i)))) :
  FnV Tryz.prog 213 [.slice a xs.length c, .func (.func g) first capd] R (.bool (decide (0 ≤ findN (fun i => p (nth xs i)) xs.length))) := by
 refine Fn.toV (fun w0 E => ?_)
 refine fE 9 Tryz.func213 ?_
 refine zQ (zG (zR 1 rfl (zN (zU (zQ (zG (zR 2 rfl ?_)))))))
 refine WG.callV en223 rfl rfl qD (CallOp.mk' rfl rfl rfl rfl) (fun _ => rfl) (fun hg => IndexI_V ha heg hp) ?_
 refine zR 2 rfl (zN (zU (zT ?_)))
 refine sE (E := E) ?_
 refine WE.retF tab_ok [_] rfl ⟨rfl, trivial⟩ (RLe.refl _) ?_
 exact ⟨rfl, rfl⟩

theorem Within1_V {R : Ro} {b4 b5 : Nat} {lo hi x : Int} (h4 : R b4 = some [.int .i64 lo]) (h5 : R b5 = some [.int .i64 hi]) :
  FnV Tryz.prog 214 [.int .i64 x, .pointer (some ⟨b4, 0, none⟩), .pointer (some ⟨b5, 0, none⟩)] R (.bool (outB lo hi x)) := by
 refine Fn.toV (fun w0 E => ?_)
 refine fE 13 Tryz.func214 ?_
 refine zQ (zG (zR 1 rfl (zN (zU (zQ (zG (zR 1 rfl ?_)))))))
 refine' WG.y rfl rfl qD (Yl.load1 tab_ok rfl rfl rfl (fun _ => rfl) ?r1 rfl ?h1) ?_
 case r1 => exact Rd.ro h4
 case h1 => rfl
 refine zR 2 rfl ?_
 refine yP ?_
 refine' WG.y rfl rfl qD (Yl.loadG tab_ok rfl rfl rfl qE ?r2 rfl ?h2 ?g2) ?_
 case r2 => exact fun (_ : True) => Rd.ro h5
 case h2 => rfl
 case g2 => exact fun _ => trivial
 refine yP ?_
 refine yO ?_
 refine zR 1 rfl (zN (zU (zT ?_)))
 refine sE (E := E) ?_
 refine WE.retF tab_ok [_] rfl ⟨rfl, trivial⟩ (RLe.refl _) ?_
 exact ⟨by unfold outB; rfl, rfl⟩

theorem Within_V {R : Ro} {a : Option Addr} {c l : Nat} {xs : List Int} {lo hi : Int} (ha : RS R 1 encI a xs) (hl : xs.length = l) :
  FnV Tryz.prog 210 [.slice a l c, .int .i64 lo, .int .i64 hi] R (.bool (withinB xs lo hi)) := by
 subst hl
 refine Fn.toV (fun w0 E => ?_)
 refine fE 11 Tryz.func210 ?_
 refine zQ (zG ?_)
 refine zO fun b4 => ?_
 refine zO fun b5 => ?_
 refine zR 1 rfl (zN (zU ?_))
 refine W.freezeBlk (b := b4) 1 rfl (fun R1 hR1 hb1 => ?_)
 refine W.freezeBlk (b := b5) 0 rfl (fun R2 hR2 hb2 => ?_)
 refine zQ (zG (zR 2 rfl ?_))
 refine WG.callV en213 rfl rfl qD (CallOp.mk' rfl rfl rfl rfl) (fun _ => rfl) (fun hg => ContainsI_V (ha.mono (hR1.trans hR2)) en214 (fun i hi => Within1_V (hR2 _ _ hb1) hb2)) ?_
 refine zR 2 rfl (zN (zU (zT ?_)))
 refine sE (E := E) ?_
 refine WE.retF tab_ok [_] rfl ⟨rfl, trivial⟩ (hR1.trans hR2) ?_
 exact ⟨congrArg Value.bool within_find, rfl⟩

theorem Lists_V {R : Ro} {a : Option Addr} {c : Nat} {rows : List Sl} {b : Bool} (ha : RS R 1 encS a rows) :
  FnV Tryz.prog 187 [.bool b, .slice a rows.length c] R (.int .i64 (listsE b (rows.map Sl.xs))) := by
 have hla := ha.len
 refine Fn.toV (fun w0 E => ?_)
 refine fE 19 Tryz.func187 ?_
 refine zQ (zG (zR 1 rfl (zN (zU (zQ (zQ (zG (zR 2 rfl (zN (zU ?_))))))))))
 refine W.cond rfl (fun hc0 => ?_) (fun hc0 => ?_)
 ·try simp only [zk] at hc0
  refine zQ (zG (zR 1 rfl (zN (zU (zT (wt ?_))))))
  refine sE (E := E) ?_
  refine WE.retF tab_ok [_] rfl ⟨rfl, trivial⟩ (RLe.refl _) ?_
  exact ⟨by rw [show listsE b (rows.map Sl.xs) = 2 by simp [hc0, listsE]]; rfl, rfl⟩
 ·try simp only [zk] at hc0
  refine zK (zU (zQ (zQ (zG (zR 3 rfl (zN (zU (zB ?_))))))))
  refine W.loopK (β := Nat) (fun k => k ≤ rows.length ∧ ∀ i, i < k → (nth rows i).xs.length = 0) (fun k => [(11, true, .int .i64 (k : Int))]) [9, 10] [_, _] [] _ rfl (fun k => []) (fun k => rows.length - k) (0) (⟨Nat.zero_le _, fun i hi => absurd hi (Nat.not_lt_zero i)⟩) ⟨rfl, rfl, rfl, rfl⟩ qS ?_
  intro k hst
  dsimp only [zipE, setAll, List.cons_append, List.nil_append, List.set_cons_zero, List.set_cons_succ] at hst ⊢
  obtain ⟨hk, hpre⟩ := hst
  refine zQ (zG (zR 1 rfl (zN (zU (zQ ?_)))))
  refine W.condD rfl (fun hc1 => ?_) (fun hc1 => ?_)
  ·try dsimp only at hc1
   refine zK (zU (zQ (zB (zQ (zG ?_)))))
   refine WG.y rfl rfl qD (Yl.indexN tab_ok rfl rfl rfl rfl rfl rfl (fun _ => rfl) qN qH) ?_
   refine yR ?_
   refine zR 1 rfl (zN (zU (zQ (zG (zR 3 rfl (zN (zU ?_)))))))
   refine W.condD rfl (fun hc2 => ?_) (fun hc2 => ?_)
   ·try dsimp only at hc2
    refine zQ (zG (zR 1 rfl (zN (zU (zT (wb (wt (wt (wb (wt ?_))))))))))
    refine sE (E := E) ?_
    refine WE.retF tab_ok [_] rfl ⟨rfl, trivial⟩ (RLe.refl _) ?_
    have hb : b = true := by simpa using hc0
    exact ⟨by unfold listsE; rw [if_neg (by simp [hb]), if_pos (List.any_eq_true.2 ⟨(nth rows k).xs, List.mem_map.2 ⟨_, nth_mem (xs := rows) (k := k) (by omega), rfl⟩, by simp; omega⟩)]; rfl, rfl⟩
   ·try dsimp only at hc2
    refine zK (zL (zU (zG ?_)))
    refine yA ?_
    refine zR 1 rfl (zN ?_)
    refine WE.again (k + 1) (⟨by omega, fun i hi => by rcases Nat.lt_or_ge i k with h | h; exact hpre i h; rw [show i = k by omega]; omega⟩) (by (try dsimp only); omega) ⟨rfl, rfl, rfl, rfl⟩ (RLe.refl _) qS
  ·try dsimp only at hc1
   refine zX ?_
   refine wx (wx (zY (zU (zQ (zG (zR 1 rfl (zN (zU (zT ?_)))))))))
   refine sE (E := E) ?_
   refine WE.retF tab_ok [_] rfl ⟨rfl, trivial⟩ (RLe.refl _) ?_
   have hb : b = true := by simpa using hc0
   have hno : ((rows.map Sl.xs).any fun r => decide (0 < r.length)) = false := by
    rw [List.any_eq_false]
    intro r hr
    obtain ⟨x, hx, rfl⟩ := List.mem_map.1 hr
    obtain ⟨i, hi, rfl⟩ := List.getElem_of_mem hx
    have := hpre i (by omega)
    rw [show nth rows i = rows[i] by unfold nth List.getD; rw [List.getElem?_eq_getElem hi]; rfl] at this
    simp [this]
   exact ⟨by unfold listsE; rw [if_neg (by simp [hb]), hno]; rfl, rfl⟩



theorem ChkFifo_V {R : Ro} {aw at_ : Option Addr} {lw cw lt ct : Nat} {L : Ln} (hw : RS R 1 encI aw L.w) (hlw : L.w.length = lw) (ht : RS R 1 encI at_ L.tb) (hlt : L.tb.length = lt) (hn : 1 ≤ L.n ∧ L.n ≤ 6) : FnV Tryz.prog 184 [.agg #[], .agg #[.int .i64 L.kind, .int .i64 L.cap, .int .i64 L.n, .slice aw lw cw, .slice at_ lt ct]] R (.int .i64 (listsE true [L.w, L.tb])) := by
 subst hlw
 subst hlt
 have hw1 := hw.len
 have ht1 := ht.len
 refine Fn.toV (fun w0 E => ?_)
 refine fE 11 Tryz.func184 ?_
 refine zQ (zG ?_)
 refine zO fun b2 => ?_
 refine zO fun b3 => ?_
 refine zR 1 rfl (zN (zU (zQ (zG (zR 1 rfl ?_)))))
 refine yL (Rd.add (Rd.blk 0 rfl) _) ?_
 refine zR 1 rfl ?_
 refine yL (Rd.add (Rd.blk 0 rfl) _) ?_
 refine WL.ef rfl rfl qD (Ef.buildSliceD (enc := encS) (parts := [.tmp 6, .tmp 8]) [⟨_, _, _⟩, ⟨_, _, _⟩] tab_ok rfl rfl rfl rfl rfl rfl rfl rfl qD qD (fun a9 => ?_))
 refine WL.freeze (enc := encS) (xs := [⟨aw, cw, L.w⟩, ⟨at_, ct, L.tb⟩]) 0 rfl ?_
 intro R1 hR1 hz
 refine WG.callV en187 rfl rfl qD (CallOp.mk' rfl rfl rfl rfl) (fun _ => rfl) (fun hg => Lists_V (rows := [⟨aw, cw, L.w⟩, ⟨at_, ct, L.tb⟩]) hz) ?_
 refine zR 1 rfl (zN (zU (zT ?_)))
 refine sE (E := E) ?_
 refine WE.retF tab_ok [_] rfl ⟨rfl, trivial⟩ (hR1) ?_
 exact ⟨rfl, rfl⟩

theorem ChkRanks_V {R : Ro} {aw at_ : Option Addr} {lw cw lt ct : Nat} {L : Ln} (hw : RS R 1 encI aw L.w) (hlw : L.w.length = lw) (ht : RS R 1 encI at_ L.tb) (hlt : L.tb.length = lt) (hn : 1 ≤ L.n ∧ L.n ≤ 6) : FnV Tryz.prog 193 [.agg #[], .agg #[.int .i64 L.kind, .int .i64 L.cap, .int .i64 L.n, .slice aw lw cw, .slice at_ lt ct]] R (.int .i64 (listsE true [L.w, L.tb])) := by
 subst hlw
 subst hlt
 have hw1 := hw.len
 have ht1 := ht.len
 refine Fn.toV (fun w0 E => ?_)
 refine fE 11 Tryz.func193 ?_
 refine zQ (zG ?_)
 refine zO fun b2 => ?_
 refine zO fun b3 => ?_
 refine zR 1 rfl (zN (zU (zQ (zG (zR 1 rfl ?_)))))
 refine yL (Rd.add (Rd.blk 0 rfl) _) ?_
 refine zR 1 rfl ?_
 refine yL (Rd.add (Rd.blk 0 rfl) _) ?_
 refine WL.ef rfl rfl qD (Ef.buildSliceD (enc := encS) (parts := [.tmp 6, .tmp 8]) [⟨_, _, _⟩, ⟨_, _, _⟩] tab_ok rfl rfl rfl rfl rfl rfl rfl rfl qD qD (fun a9 => ?_))
 refine WL.freeze (enc := encS) (xs := [⟨aw, cw, L.w⟩, ⟨at_, ct, L.tb⟩]) 0 rfl ?_
 intro R1 hR1 hz
 refine WG.callV en187 rfl rfl qD (CallOp.mk' rfl rfl rfl rfl) (fun _ => rfl) (fun hg => Lists_V (rows := [⟨aw, cw, L.w⟩, ⟨at_, ct, L.tb⟩]) hz) ?_
 refine zR 1 rfl (zN (zU (zT ?_)))
 refine sE (E := E) ?_
 refine WE.retF tab_ok [_] rfl ⟨rfl, trivial⟩ (hR1) ?_
 exact ⟨rfl, rfl⟩

theorem ChkRobin_V {R : Ro} {aw at_ : Option Addr} {lw cw lt ct : Nat} {L : Ln} (hw : RS R 1 encI aw L.w) (hlw : L.w.length = lw) (ht : RS R 1 encI at_ L.tb) (hlt : L.tb.length = lt) (hn : 1 ≤ L.n ∧ L.n ≤ 6) : FnV Tryz.prog 207 [.agg #[], .agg #[.int .i64 L.kind, .int .i64 L.cap, .int .i64 L.n, .slice aw lw cw, .slice at_ lt ct]] R (.int .i64 (listsE (decide ((L.w.length : Int) = L.n) && withinB L.w 1 20) [L.tb])) := by
 subst hlw
 subst hlt
 have hw1 := hw.len
 have ht1 := ht.len
 refine Fn.toV (fun w0 E => ?_)
 refine fE 20 Tryz.func207 ?_
 refine zQ (zG ?_)
 refine zO fun b2 => ?_
 refine zO fun b3 => ?_
 refine zR 1 rfl (zN (zU (zQ ?_)))
 refine W.regionH _ (ES := (.blk b3 [.int .i64 L.kind, .int .i64 L.cap, .int .i64 L.n, .slice aw L.w.length cw, .slice at_ L.tb.length ct] :: .blk b2 [] :: E)) mixed ?_
 refine tP 0 ?_
 refine tL 1 (Rd.add (Rd.blk 0 rfl) _) ?_
 refine tP 2 ?_
 refine tP 3 ?_
 refine tL 4 (Rd.add (Rd.blk 0 rfl) _) ?_
 refine tP 5 ?_
 refine tP 6 ?_
 refine WA.take 7 rfl qK qK qK rfl rfl qD (pureV_ok tab_ok rfl qE) qS qR ?_
 refine' WA.take 8 rfl qK qK qK rfl rfl qD (Yl.loadG tab_ok rfl rfl rfl qE ?r3 rfl ?h3 ?g3) qS qR ?_
 case r3 => apply Rd.addC; (exact Rd.blkC 0 rfl)
 case h3 => rfl
 case g3 => exact fun _ => trivial
 refine tP 11 ?_
 refine tL 12 (Rd.add (Rd.blk 0 rfl) _) ?_
 refine WA.br2 (i := 9) (j := 13) qK ?_ ?_
 ·
  refine WS.callV rfl en210 rfl rfl qD (CallOp.mk' rfl rfl rfl rfl) qE (fun hg => Within_V (by first | exact hw | exact hw.mono hR1) rfl) qS qR ?_
  refine WA.take 10 rfl (by kernel_rfl) (by kernel_rfl) (by kernel_rfl) rfl rfl (by decide) (Yl.pand rfl rfl rfl (fun _ => rfl) (by intro h1 h2; simp_all <;> omega)) qS (by first | exact RLe.refl _ | assumption) ?_
  refine WA.eff 13 rfl qK rfl rfl qD (Ef.buildSliceD (enc := encS) (parts := [.tmp 17]) [⟨_, _, _⟩] tab_ok rfl rfl rfl rfl rfl rfl rfl rfl qD qD (fun a18 => ?_))
  refine ⟨qR, qS, ?_⟩
  refine WA.freeze (enc := encS) (xs := [⟨at_, ct, L.tb⟩]) 0 rfl ?_
  intro R1 hR1 hz
  refine WA.callV 14 rfl qK en187 rfl rfl qD (CallOp.mk' rfl rfl rfl rfl) (fun _ => rfl) (fun hg => Lists_V (rows := [⟨at_, ct, L.tb⟩]) hz) qS qR ?_
  refine tP 15 ?_
  refine WA.done qK ?_
  refine zU (zT ?_)
  refine sE (E := E) ?_
  refine WE.retF tab_ok [_] rfl ⟨rfl, trivial⟩ (hR1) ?_
  exact ⟨rfl, rfl⟩
 ·
  refine WS.eff rfl rfl rfl qD (Ef.buildSliceD (enc := encS) (parts := [.tmp 17]) [⟨_, _, _⟩] tab_ok rfl rfl rfl rfl rfl rfl rfl rfl qD qD (fun a18 => ?_))
  refine ⟨qR, qS, ?_⟩
  refine WA.freeze (enc := encS) (xs := [⟨at_, ct, L.tb⟩]) 0 rfl ?_
  intro R1 hR1 hz
  refine WA.callV 9 rfl qK en210 rfl rfl qD (CallOp.mk' rfl rfl rfl rfl) qE (fun hg => Within_V (by first | exact hw | exact hw.mono hR1) rfl) qS qR ?_
  refine WA.take 10 rfl (by kernel_rfl) (by kernel_rfl) (by kernel_rfl) rfl rfl (by decide) (Yl.pand rfl rfl rfl (fun _ => rfl) (by intro h1 h2; simp_all <;> omega)) qS (by first | exact RLe.refl _ | assumption) ?_
  refine WA.callV 14 rfl qK en187 rfl rfl qD (CallOp.mk' rfl rfl rfl rfl) (fun _ => rfl) (fun hg => Lists_V (rows := [⟨at_, ct, L.tb⟩]) hz) qS qR ?_
  refine tP 15 ?_
  refine WA.done qK ?_
  refine zU (zT ?_)
  refine sE (E := E) ?_
  refine WE.retF tab_ok [_] rfl ⟨rfl, trivial⟩ (hR1) ?_
  exact ⟨rfl, rfl⟩

theorem ChkDef_V {R : Ro} {aw at_ : Option Addr} {lw cw lt ct : Nat} {L : Ln} (hw : RS R 1 encI aw L.w) (hlw : L.w.length = lw) (ht : RS R 1 encI at_ L.tb) (hlt : L.tb.length = lt) (hn : 1 ≤ L.n ∧ L.n ≤ 6) : FnV Tryz.prog 224 [.agg #[], .agg #[.int .i64 L.kind, .int .i64 L.cap, .int .i64 L.n, .slice aw lw cw, .slice at_ lt ct]] R (.int .i64 (listsE (decide ((L.w.length : Int) = L.n) && withinB L.w 1 6000) [L.tb])) := by
 subst hlw
 subst hlt
 have hw1 := hw.len
 have ht1 := ht.len
 refine Fn.toV (fun w0 E => ?_)
 refine fE 20 Tryz.func224 ?_
 refine zQ (zG ?_)
 refine zO fun b2 => ?_
 refine zO fun b3 => ?_
 refine zR 1 rfl (zN (zU (zQ ?_)))
 refine W.regionH _ (ES := (.blk b3 [.int .i64 L.kind, .int .i64 L.cap, .int .i64 L.n, .slice aw L.w.length cw, .slice at_ L.tb.length ct] :: .blk b2 [] :: E)) mixed ?_
 refine tP 0 ?_
 refine tL 1 (Rd.add (Rd.blk 0 rfl) _) ?_
 refine tP 2 ?_
 refine tP 3 ?_
 refine tL 4 (Rd.add (Rd.blk 0 rfl) _) ?_
 refine tP 5 ?_
 refine tP 6 ?_
 refine WA.take 7 rfl qK qK qK rfl rfl qD (pureV_ok tab_ok rfl qE) qS qR ?_
 refine' WA.take 8 rfl qK qK qK rfl rfl qD (Yl.loadG tab_ok rfl rfl rfl qE ?r3 rfl ?h3 ?g3) qS qR ?_
 case r3 => apply Rd.addC; (exact Rd.blkC 0 rfl)
 case h3 => rfl
 case g3 => exact fun _ => trivial
 refine tP 11 ?_
 refine tL 12 (Rd.add (Rd.blk 0 rfl) _) ?_
 refine WA.br2 (i := 9) (j := 13) qK ?_ ?_
 ·
  refine WS.callV rfl en210 rfl rfl qD (CallOp.mk' rfl rfl rfl rfl) qE (fun hg => Within_V (by first | exact hw | exact hw.mono hR1) rfl) qS qR ?_
  refine WA.take 10 rfl (by kernel_rfl) (by kernel_rfl) (by kernel_rfl) rfl rfl (by decide) (Yl.pand rfl rfl rfl (fun _ => rfl) (by intro h1 h2; simp_all <;> omega)) qS (by first | exact RLe.refl _ | assumption) ?_
  refine WA.eff 13 rfl qK rfl rfl qD (Ef.buildSliceD (enc := encS) (parts := [.tmp 17]) [⟨_, _, _⟩] tab_ok rfl rfl rfl rfl rfl rfl rfl rfl qD qD (fun a18 => ?_))
  refine ⟨qR, qS, ?_⟩
  refine WA.freeze (enc := encS) (xs := [⟨at_, ct, L.tb⟩]) 0 rfl ?_
  intro R1 hR1 hz
  refine WA.callV 14 rfl qK en187 rfl rfl qD (CallOp.mk' rfl rfl rfl rfl) (fun _ => rfl) (fun hg => Lists_V (rows := [⟨at_, ct, L.tb⟩]) hz) qS qR ?_
  refine tP 15 ?_
  refine WA.done qK ?_
  refine zU (zT ?_)
  refine sE (E := E) ?_
  refine WE.retF tab_ok [_] rfl ⟨rfl, trivial⟩ (hR1) ?_
  exact ⟨rfl, rfl⟩
 ·
  refine WS.eff rfl rfl rfl qD (Ef.buildSliceD (enc := encS) (parts := [.tmp 17]) [⟨_, _, _⟩] tab_ok rfl rfl rfl rfl rfl rfl rfl rfl qD qD (fun a18 => ?_))
  refine ⟨qR, qS, ?_⟩
  refine WA.freeze (enc := encS) (xs := [⟨at_, ct, L.tb⟩]) 0 rfl ?_
  intro R1 hR1 hz
  refine WA.callV 9 rfl qK en210 rfl rfl qD (CallOp.mk' rfl rfl rfl rfl) qE (fun hg => Within_V (by first | exact hw | exact hw.mono hR1) rfl) qS qR ?_
  refine WA.take 10 rfl (by kernel_rfl) (by kernel_rfl) (by kernel_rfl) rfl rfl (by decide) (Yl.pand rfl rfl rfl (fun _ => rfl) (by intro h1 h2; simp_all <;> omega)) qS (by first | exact RLe.refl _ | assumption) ?_
  refine WA.callV 14 rfl qK en187 rfl rfl qD (CallOp.mk' rfl rfl rfl rfl) (fun _ => rfl) (fun hg => Lists_V (rows := [⟨at_, ct, L.tb⟩]) hz) qS qR ?_
  refine tP 15 ?_
  refine WA.done qK ?_
  refine zU (zT ?_)
  refine sE (E := E) ?_
  refine WE.retF tab_ok [_] rfl ⟨rfl, trivial⟩ (hR1) ?_
  exact ⟨rfl, rfl⟩

theorem ChkTimes_V {R : Ro} {aw at_ : Option Addr} {lw cw lt ct : Nat} {L : Ln} (hw : RS R 1 encI aw L.w) (hlw : L.w.length = lw) (ht : RS R 1 encI at_ L.tb) (hlt : L.tb.length = lt) (hn : 1 ≤ L.n ∧ L.n ≤ 6) : FnV Tryz.prog 237 [.agg #[], .agg #[.int .i64 L.kind, .int .i64 L.cap, .int .i64 L.n, .slice aw lw cw, .slice at_ lt ct]] R (.int .i64 (listsE (decide (1 ≤ (L.tb.length : Int)) && decide ((L.tb.length : Int) ≤ 40) && withinB L.tb (-1) (L.n - 1)) [L.w])) := by
 subst hlw
 subst hlt
 have hw1 := hw.len
 have ht1 := ht.len
 refine Fn.toV (fun w0 E => ?_)
 refine fE 27 Tryz.func237 ?_
 refine zQ (zG ?_)
 refine zO fun b2 => ?_
 refine zO fun b3 => ?_
 refine zR 1 rfl (zN (zU (zQ ?_)))
 refine W.regionH _ (ES := (.blk b3 [.int .i64 L.kind, .int .i64 L.cap, .int .i64 L.n, .slice aw L.w.length cw, .slice at_ L.tb.length ct] :: .blk b2 [] :: E)) mixed ?_
 refine tP 0 ?_
 refine tL 1 (Rd.add (Rd.blk 0 rfl) _) ?_
 refine tP 2 ?_
 refine tP 3 ?_
 refine tP 4 ?_
 refine WA.take 5 rfl qK qK qK rfl rfl qD (pureV_ok tab_ok rfl qE) qS qR ?_
 refine' WA.take 6 rfl qK qK qK rfl rfl qD (Yl.loadG tab_ok rfl rfl rfl qE ?r2 rfl ?h2 ?g2) qS qR ?_
 case r2 => apply Rd.addC; (exact Rd.blkC 0 rfl)
 case h2 => rfl
 case g2 => exact fun _ => trivial
 refine WA.take 7 rfl qK qK qK rfl rfl qD (pureV_ok tab_ok rfl qE) qS qR ?_
 refine WA.take 8 rfl qK qK qK rfl rfl qD (pureV_ok tab_ok rfl qE) qS qR ?_
 refine WA.take 9 rfl (by kernel_rfl) (by kernel_rfl) (by kernel_rfl) rfl rfl (by decide) (Yl.pand rfl rfl rfl (fun _ => rfl) (by intro h1 h2; simp_all <;> omega)) qS (by first | exact RLe.refl _ | assumption) ?_
 refine tP 10 ?_
 refine WA.take 11 rfl qK qK qK rfl rfl qD (pureV_ok tab_ok rfl qE) qS qR ?_
 refine' WA.take 12 rfl qK qK qK rfl rfl qD (Yl.loadG tab_ok rfl rfl rfl qE ?r3 rfl ?h3 ?g3) qS qR ?_
 case r3 => apply Rd.addC; (exact Rd.blkC 0 rfl)
 case h3 => rfl
 case g3 => exact fun _ => trivial
 refine WA.take 13 rfl qK qK qK rfl rfl qD (pureV_ok tab_ok rfl qE) qS qR ?_
 refine' WA.take 14 rfl qK qK qK rfl rfl qD (Yl.loadG tab_ok rfl rfl rfl qE ?r4 rfl ?h4 ?g4) qS qR ?_
 case r4 => apply Rd.addC; (exact Rd.blkC 0 rfl)
 case h4 => rfl
 case g4 => exact fun _ => trivial
 refine WA.take 15 rfl (by kernel_rfl) (by kernel_rfl) (by kernel_rfl) rfl rfl (by decide) (Yl.sub rfl rfl rfl qE (by intro hg; (try simp only [zk] at hg); constructor <;> (try dsimp only) <;> omega)) qS (by first | exact RLe.refl _ | assumption) ?_
 refine tP 18 ?_
 refine tL 19 (Rd.add (Rd.blk 0 rfl) _) ?_
 refine WA.br2 (i := 16) (j := 20) qK ?_ ?_
 ·
  refine WS.callV rfl en210 rfl rfl qD (CallOp.mk' rfl rfl rfl rfl) qE (fun hg => Within_V (by first | exact ht | exact ht.mono hR1) rfl) qS qR ?_
  refine WA.take 17 rfl (by kernel_rfl) (by kernel_rfl) (by kernel_rfl) rfl rfl (by decide) (Yl.pand rfl rfl rfl (fun _ => rfl) (by intro h1 h2; simp_all <;> omega)) qS (by first | exact RLe.refl _ | assumption) ?_
  refine WA.eff 20 rfl qK rfl rfl qD (Ef.buildSliceD (enc := encS) (parts := [.tmp 24]) [⟨_, _, _⟩] tab_ok rfl rfl rfl rfl rfl rfl rfl rfl qD qD (fun a25 => ?_))
  refine ⟨qR, qS, ?_⟩
  refine WA.freeze (enc := encS) (xs := [⟨aw, cw, L.w⟩]) 0 rfl ?_
  intro R1 hR1 hz
  refine WA.callV 21 rfl qK en187 rfl rfl qD (CallOp.mk' rfl rfl rfl rfl) (fun _ => rfl) (fun hg => Lists_V (rows := [⟨aw, cw, L.w⟩]) hz) qS qR ?_
  refine tP 22 ?_
  refine WA.done qK ?_
  refine zU (zT ?_)
  refine sE (E := E) ?_
  refine WE.retF tab_ok [_] rfl ⟨rfl, trivial⟩ (hR1) ?_
  exact ⟨rfl, rfl⟩
 ·
  refine WS.eff rfl rfl rfl qD (Ef.buildSliceD (enc := encS) (parts := [.tmp 24]) [⟨_, _, _⟩] tab_ok rfl rfl rfl rfl rfl rfl rfl rfl qD qD (fun a25 => ?_))
  refine ⟨qR, qS, ?_⟩
  refine WA.freeze (enc := encS) (xs := [⟨aw, cw, L.w⟩]) 0 rfl ?_
  intro R1 hR1 hz
  refine WA.callV 16 rfl qK en210 rfl rfl qD (CallOp.mk' rfl rfl rfl rfl) qE (fun hg => Within_V (by first | exact ht | exact ht.mono hR1) rfl) qS qR ?_
  refine WA.take 17 rfl (by kernel_rfl) (by kernel_rfl) (by kernel_rfl) rfl rfl (by decide) (Yl.pand rfl rfl rfl (fun _ => rfl) (by intro h1 h2; simp_all <;> omega)) qS (by first | exact RLe.refl _ | assumption) ?_
  refine WA.callV 21 rfl qK en187 rfl rfl qD (CallOp.mk' rfl rfl rfl rfl) (fun _ => rfl) (fun hg => Lists_V (rows := [⟨aw, cw, L.w⟩]) hz) qS qR ?_
  refine tP 22 ?_
  refine WA.done qK ?_
  refine zU (zT ?_)
  refine sE (E := E) ?_
  refine WE.retF tab_ok [_] rfl ⟨rfl, trivial⟩ (hR1) ?_
  exact ⟨rfl, rfl⟩



theorem meth_check1 (x : Value) : Meth Tryz.prog 112 (.agg #[]) "netcalculus/server.check" 184 [x] := fun w => by kernel_rfl
theorem meth_run1 (x y z : Value) : Meth Tryz.prog 112 (.agg #[]) "netcalculus/server.run" 186 [x, y, z] := fun w => by kernel_rfl
theorem meth_check2 (x : Value) : Meth Tryz.prog 113 (.agg #[]) "netcalculus/server.check" 193 [x] := fun w => by kernel_rfl
theorem meth_run2 (x y z : Value) : Meth Tryz.prog 113 (.agg #[]) "netcalculus/server.run" 195 [x, y, z] := fun w => by kernel_rfl
theorem meth_check3 (x : Value) : Meth Tryz.prog 114 (.agg #[]) "netcalculus/server.check" 207 [x] := fun w => by kernel_rfl
theorem meth_run3 (x y z : Value) : Meth Tryz.prog 114 (.agg #[]) "netcalculus/server.run" 209 [x, y, z] := fun w => by kernel_rfl
theorem meth_check4 (x : Value) : Meth Tryz.prog 115 (.agg #[]) "netcalculus/server.check" 224 [x] := fun w => by kernel_rfl
theorem meth_run4 (x y z : Value) : Meth Tryz.prog 115 (.agg #[]) "netcalculus/server.run" 226 [x, y, z] := fun w => by kernel_rfl
theorem meth_check5 (x : Value) : Meth Tryz.prog 116 (.agg #[]) "netcalculus/server.check" 237 [x] := fun w => by kernel_rfl
theorem meth_run5 (x y z : Value) : Meth Tryz.prog 116 (.agg #[]) "netcalculus/server.run" 239 [x, y, z] := fun w => by kernel_rfl

theorem check_any {R : Ro} {aw at_ : Option Addr} {lw cw lt ct : Nat} {L : Ln} (hw : RS R 1 encI aw L.w) (hlw : L.w.length = lw) (ht : RS R 1 encI at_ L.tb) (hlt : L.tb.length = lt) (hn : 1 ≤ L.n ∧ L.n ≤ 6) (hk : 1 ≤ L.kind ∧ L.kind ≤ 5) :
  ∃ (T f : Nat), kindI L.kind = .iface T (.agg #[]) ∧ Meth Tryz.prog T (.agg #[]) "netcalculus/server.check" f [.agg #[.int .i64 L.kind, .int .i64 L.cap, .int .i64 L.n, .slice aw lw cw, .slice at_ lt ct]] ∧ FnV Tryz.prog f [.agg #[], .agg #[.int .i64 L.kind, .int .i64 L.cap, .int .i64 L.n, .slice aw lw cw, .slice at_ lt ct]] R (.int .i64 (lchkL L)) := by
 rcases (show L.kind = 1 ∨ L.kind = 2 ∨ L.kind = 3 ∨ L.kind = 4 ∨ L.kind = 5 by omega) with h | h | h | h | h
 ·exact ⟨_, _, by unfold kindI; rw [h]; rfl, meth_check1 _, by have e : lchkL L = _ := (show lchkL L = listsE true [L.w, L.tb] by unfold lchkL; rw [h]; rfl); rw [e]; exact ChkFifo_V hw hlw ht hlt hn⟩
 ·exact ⟨_, _, by unfold kindI; rw [h]; rfl, meth_check2 _, by have e : lchkL L = _ := (show lchkL L = listsE true [L.w, L.tb] by unfold lchkL; rw [h]; rfl); rw [e]; exact ChkRanks_V hw hlw ht hlt hn⟩
 ·exact ⟨_, _, by unfold kindI; rw [h]; rfl, meth_check3 _, by have e : lchkL L = _ := (show lchkL L = listsE (decide ((L.w.length : Int) = L.n) && withinB L.w 1 20) [L.tb] by unfold lchkL; rw [h]; rfl); rw [e]; exact ChkRobin_V hw hlw ht hlt hn⟩
 ·exact ⟨_, _, by unfold kindI; rw [h]; rfl, meth_check4 _, by have e : lchkL L = _ := (show lchkL L = listsE (decide ((L.w.length : Int) = L.n) && withinB L.w 1 6000) [L.tb] by unfold lchkL; rw [h]; rfl); rw [e]; exact ChkDef_V hw hlw ht hlt hn⟩
 ·exact ⟨_, _, by unfold kindI; rw [h]; rfl, meth_check5 _, by have e : lchkL L = _ := (show lchkL L = listsE (decide (1 ≤ (L.tb.length : Int)) && decide ((L.tb.length : Int) ≤ 40) && withinB L.tb (-1) (L.n - 1)) [L.w] by unfold lchkL; rw [h]; rfl); rw [e]; exact ChkTimes_V hw hlw ht hlt hn⟩

theorem ChkSrv_V {R : Ro} {aw at_ : Option Addr} {lw cw lt ct : Nat} {L : Ln} (hw : RS R 1 encI aw L.w) (hlw : L.w.length = lw) (ht : RS R 1 encI at_ L.tb) (hlt : L.tb.length = lt) : FnV Tryz.prog 27 [.agg #[.int .i64 L.kind, .int .i64 L.cap, .int .i64 L.n, .slice aw lw cw, .slice at_ lt ct]] R (.int .i64 (chkL L)) := by
 refine Fn.toV (fun w0 E => ?_)
 refine fE 34 Tryz.func27 ?_
 refine zQ (zG ?_)
 refine zO fun b1 => ?_
 refine zR 1 rfl (zN (zU (zQ (zG (zR 1 rfl ?_)))))
 refine yL (Rd.add (Rd.blk 0 rfl) _) ?_
 refine WG.callV en44 rfl rfl qD (CallOp.mk' rfl rfl rfl rfl) (fun _ => rfl) (fun hg => Kind_V L.kind) ?_
 refine zR 5 rfl (zN (zU (zQ (zQ (zG (zR 2 rfl (zN (zU ?_))))))))
 refine W.cond rfl (fun hc0 => ?_) (fun hc0 => ?_)
 ·try simp only [zk] at hc0
  have e : chkL L = 9 := by
   unfold chkL
   rw [if_pos]
   unfold kindB at hc0
   simp only [Bool.and_eq_false_iff, decide_eq_false_iff_not] at hc0
   omega
  refine zQ (zG (zR 1 rfl (zN (zU (zT (wt ?_))))))
  refine sE (E := E) ?_
  refine WE.retF tab_ok [_] rfl ⟨rfl, trivial⟩ (RLe.refl _) ?_
  exact ⟨by rw [e]; rfl, rfl⟩
 ·try simp only [zk] at hc0
  have hkk : 1 ≤ L.kind ∧ L.kind ≤ 5 := by
   unfold kindB at hc0
   simpa using hc0
  refine zK (zU (zQ (zQ (zG (zR 1 rfl ?_)))))
  refine yL (Rd.add (Rd.blk 0 rfl) _) ?_
  refine zR 2 rfl ?_
  refine yP ?_
  refine yG (Rd.addC (Rd.blkC 0 rfl) _) ?_
  refine yP ?_
  refine yO ?_
  refine zR 1 rfl ?_
  refine yP ?_
  refine yG (Rd.addC (Rd.blkC 0 rfl) _) ?_
  refine yP ?_
  refine yO ?_
  refine zR 1 rfl ?_
  refine yP ?_
  refine yG (Rd.addC (Rd.blkC 0 rfl) _) ?_
  refine yP ?_
  refine yO ?_
  refine zN (zU ?_)
  refine W.cond rfl (fun hc1 => ?_) (fun hc1 => ?_)
  ·try simp only [zk] at hc1
   have e : chkL L = 2 := by unfold chkL; rw [if_neg (by omega), if_pos (by omega)]
   refine zQ (zG (zR 1 rfl (zN (zU (zT (wt ?_))))))
   refine sE (E := E) ?_
   refine WE.retF tab_ok [_] rfl ⟨rfl, trivial⟩ (RLe.refl _) ?_
   exact ⟨by rw [e]; rfl, rfl⟩
  ·try simp only [zk] at hc1
   have hn : 1 ≤ L.n ∧ L.n ≤ 6 := by omega
   have e : chkL L = lchkL L := by unfold chkL; rw [if_neg (by omega), if_neg (by omega)]
   obtain ⟨T9, f9, e9, m9, v9⟩ := check_any (R := R) (lw := lw) (lt := lt) (cw := cw) (ct := ct) hw hlw ht hlt hn hkk
   refine zK (zU ?_)
   rw [e9]
   refine zQ (zG (zR 1 rfl ?_))
   refine yL (Rd.blk 0 rfl) ?_
   refine WL.callI (args := [.tmp 32]) rfl rfl rfl qD rfl rfl (m9) (v9.toFn) ?_
   rintro _ _ _ - ⟨rfl, rfl, rfl⟩
   refine zR 1 rfl (zN (zU (zT ?_)))
   refine sE (E := E) ?_
   refine WE.retF tab_ok [_] rfl ⟨rfl, trivial⟩ (RLe.refl _) ?_
   exact ⟨by rw [e]; rfl, rfl⟩





end Go.Proofs.YthpblaoehlgpfaaGreat
