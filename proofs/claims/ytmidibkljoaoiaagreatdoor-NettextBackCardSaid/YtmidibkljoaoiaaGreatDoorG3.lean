/- Rules and walks, joined from 43 texts: the first of them says: The reader of words. No condition. -/
import Derived.Test.YtmidibkljoaoiaaGreatDoorG2
import Derived.Lib.CutLaws
import Derived.Laws.Pointers
import Derived.Lib.Builder
import Derived.Lib.AppendStr
import Derived.Laws.Externs
import Derived.Laws.BytesString
import Derived.Laws.IdiomStrings
import Derived.Laws.Runes
import Derived.Laws.IdiomCopy
import Derived.Laws.BitsAllLaws
import Derived.Shelf.Strconv.AppendIntPublic10
import Derived.Shelf.Strconv.AtoiAll
import Derived.Shelf.Strconv.ErrVarAll
import Derived.Shelf.Strings.SplitShaped
import Derived.Shelf.Strings.Split
import Derived.Shelf.Strings.Shaped
import Derived.Shelf.Strings.Cut
import Derived.RangeFuncLeaves
import Derived.RangeFuncOwn
import Derived.WalkSpells
import Derived.Lib.ItoaLen
import Derived.ProofKit
import Derived.WalkKit
import Derived.WalkLawsBesides
import Derived.Shelf.Strings.OnBuilder
import Derived.Shelf.Strings.Builder1
/- The reader of words. No condition. -/
namespace Go.Proofs.YtmidibkljoaoiaaGreatDoor
open Go Go.RowKit Go.Proofs.YtmidibkljoaoiaaGreatDoor.K
theorem qR {P : Prop} (h : P := by first | exact RLe.refl _ | assumption) : P := h
theorem qK {P : Prop} (h : P := by kernel_rfl) : P := h
theorem qD {P : Prop} (h : P := by decide) : P := h
theorem qA {P : Prop} (h : P := by intro _; constructor <;> (try dsimp only) <;> omega) : P := h
theorem qN {P : Prop} (h : P := by intro _; (try dsimp only) <;> omega) : P := h
theorem qP {P : Prop} (h : P := by intro h1 h2; simp_all <;> omega) : P := h
theorem qX {P : Prop} (h : P := by (try dsimp only) <;> omega) : P := h
theorem qU {P : Prop} (h : P := by assumption) : P := h
theorem qO {P : Prop} (h : P := by omega) : P := h
theorem qH {P : Prop} (h : P := by intro _; first | exact fun _ _ _ _ => rfl | exact RS.has (by assumption) | exact fun _ _ _ _ => (by assumption) | exact HasMem.ownD 0 rfl | exact HasMem.ownD 1 rfl | exact HasMem.ownD 2 rfl | exact HasMem.ownD 3 rfl | exact HasMem.ownD 4 rfl | exact HasMem.ownD 5 rfl | exact HasMem.ownD 6 rfl | exact HasMem.ownD 7 rfl | exact HasMem.ownD 8 rfl | exact HasMem.ownD 9 rfl | exact HasMem.ownD 10 rfl | exact HasMem.ownD 11 rfl) : P := h
theorem qI {P : Prop} (h : P := by first | exact fun _ _ _ _ => rfl | exact RS.has (by assumption) | exact fun _ _ _ _ => (by assumption) | exact HasMem.ownD 0 rfl | exact HasMem.ownD 1 rfl | exact HasMem.ownD 2 rfl | exact HasMem.ownD 3 rfl | exact HasMem.ownD 4 rfl | exact HasMem.ownD 5 rfl | exact HasMem.ownD 6 rfl | exact HasMem.ownD 7 rfl | exact HasMem.ownD 8 rfl | exact HasMem.ownD 9 rfl | exact HasMem.ownD 10 rfl | exact HasMem.ownD 11 rfl) : P := h
theorem zk : (∀ (p : Prop) [Decidable p], (decide p = true) = p) ∧ (∀ (p : Prop) [Decidable p], (decide p = false) ↔ ¬ p) ∧ (∀ (α : Type) [BEq α] [LawfulBEq α] (a b : α), (a == b) = true ↔ a = b) ∧ (∀ (α : Type) [BEq α] [LawfulBEq α] (a b : α), (a != b) = true ↔ a ≠ b) ∧ (∀ (α : Type) [BEq α] [LawfulBEq α] (a b : α), (a == b) = false ↔ a ≠ b) ∧ (∀ (α : Type) [BEq α] [LawfulBEq α] (a b : α), (a != b) = false ↔ a = b) ∧ (∀ (α : Type) (a b : α), (a ≠ b) = ¬ (a = b)) ∧ (∀ (a b : Bool), ((a || b) = true) = (a = true ∨ b = true)) ∧ (∀ (a b : Bool), (a || b) = false ↔ a = false ∧ b = false) ∧ (∀ (a b : Bool), ((a && b) = true) = (a = true ∧ b = true)) ∧ (∀ (a b : Bool), (a && b) = false ↔ (a = true → b = false)) ∧ (∀ (b : Bool), (¬ (b = true)) = (b = false)) ∧ (∀ (b : Bool), ((!b) = true) = (b = false)) ∧ (∀ (b : Bool), ((!b) = false) = (b = true)) ∧ (∀ (a : Prop), ¬ ¬ a ↔ a) ∧ (∀ (a b : Int), ¬ (a < b) ↔ b ≤ a) ∧ (∀ (a b : Int), ¬ (a ≤ b) ↔ b < a) ∧ (∀ (α : Type) [LT α] (x y : α), x > y ↔ y < x) ∧ (∀ (α : Type) [LE α] (x y : α), x ≥ y ↔ y ≤ x) := by
 refine ⟨by intros; first | exact decide_eq_true_eq | exact decide_eq_true_eq .. | simp, by intros; first | exact decide_eq_false_iff_not | exact decide_eq_false_iff_not .. | simp, by intros; first | exact beq_iff_eq | exact beq_iff_eq .. | simp, by intros; first | exact bne_iff_ne | exact bne_iff_ne .. | simp, by intros; first | exact beq_eq_false_iff_ne | exact beq_eq_false_iff_ne .. | simp, by intros; first | exact bne_eq_false_iff_eq | exact bne_eq_false_iff_eq .. | simp, by intros; first | exact ne_eq | exact ne_eq .. | simp, by intros; first | exact Bool.or_eq_true | exact Bool.or_eq_true .. | simp, by intros; first | exact Bool.or_eq_false_iff | exact Bool.or_eq_false_iff .. | simp, by intros; first | exact Bool.and_eq_true | exact Bool.and_eq_true .. | simp, by intros; first | exact Bool.and_eq_false_imp | exact Bool.and_eq_false_imp .. | simp, by intros; first | exact Bool.not_eq_true | exact Bool.not_eq_true .. | simp, by intros; first | exact Bool.not_eq_true' | exact Bool.not_eq_true' .. | simp, by intros; first | exact Bool.not_eq_false' | exact Bool.not_eq_false' .. | simp, by intros; first | exact Classical.not_not | exact Classical.not_not .. | simp, by intros; first | exact Int.not_lt | exact Int.not_lt .. | simp, by intros; first | exact Int.not_le | exact Int.not_le .. | simp, by intros; first | exact gt_iff_lt | exact gt_iff_lt .. | simp, by intros; first | exact ge_iff_le | exact ge_iff_le .. | simp⟩
end Go.Proofs.YtmidibkljoaoiaaGreatDoor
namespace Go.Proofs.YtmidibkljoaoiaaGreatDoor
open Go Go.RowKit Go.Proofs.YtmidibkljoaoiaaGreatDoor.K
theorem tP {P : Program} {T : Tab} {n : Nat} {env : Env} {w0 : World} {R : Ro} {R0 : Ro} {E : List Ent} {ES : List Ent} {o : Oper} {pc : Bool} {q : Bool} {ops : List Oper} {Q : Exit → Act → World → Prop} {fuel : Nat} {listed : Array Bool} {v : Value} {d : Nat} (i : Nat) (h : WA P ops Q ES R0 w0 fuel (listed.setIfInBounds i true) n ((d, pc, v) :: env) R E) (hT : TabOk P T := by exact tab_ok) (hi : ops.toArray[i]? = some o := by exact rfl) (hs : Region.noSelect ops.toArray = true := by kernel_rfl) (hf : Region.free .any ops.toArray listed i = true := by kernel_rfl) (hr : (Region.ready .any ops.toArray listed).contains i = true := by kernel_rfl) (hg : gpc ops env o = some pc := by exact rfl) (hd : o.dst = some d := by exact rfl) (hdn : d < n := by decide) (hv : pureV T env o.op = some (q, v) := by exact rfl) (hq : pc = true → q = true := by exact fun _ => rfl) (hsub : ES.Sublist E := by (repeat (first | exact List.Sublist.refl _ | exact List.nil_sublist _ | apply List.Sublist.cons_cons | apply List.Sublist.cons)); done) (hR : RLe R0 R := by first | exact RLe.refl _ | assumption) : WA P ops Q ES R0 w0 (fuel + 1) listed n env R E := WA.take i hi hs hf hr hg hd hdn (pureV_ok hT hv hq) hsub hR h
theorem tL {P : Program} {T : Tab} {n : Nat} {env : Env} {w0 : World} {R : Ro} {R0 : Ro} {E : List Ent} {ES : List Ent} {o : Oper} {pc : Bool} {p : Bool} {ops : List Oper} {Q : Exit → Act → World → Prop} {fuel : Nat} {listed : Array Bool} {t : TypeId} {x : Operand} {ad : Addr} {cs : List Value} {dd : TD} {v : Value} {d : Nat} (i : Nat) (hrd : Rd R0 ES ad cs) (h : WA P ops Q ES R0 w0 fuel (listed.setIfInBounds i true) n ((d, pc, v) :: env) R E) (hT : TabOk P T := by exact tab_ok) (hi : ops.toArray[i]? = some o := by exact rfl) (hs : Region.noSelect ops.toArray = true := by kernel_rfl) (hf : Region.free .any ops.toArray listed i = true := by kernel_rfl) (hr : (Region.ready .any ops.toArray listed).contains i = true := by kernel_rfl) (hg : gpc ops env o = some pc := by exact rfl) (hd : o.dst = some d := by exact rfl) (hdn : d < n := by decide) (ho : o.op = .load t x := by exact rfl) (hdt : T.at t = some dd := by exact rfl) (hx : ev env x = some (p, .pointer (some ad)) := by exact rfl) (hp : pc = true → p = true := by exact fun _ => rfl) (hk : dd.k.known = true := by exact rfl) (hv : loadV dd cs = some v := by exact rfl) (hsub : ES.Sublist E := by (repeat (first | exact List.Sublist.refl _ | exact List.nil_sublist _ | apply List.Sublist.cons_cons | apply List.Sublist.cons)); done) (hR : RLe R0 R := by first | exact RLe.refl _ | assumption) : WA P ops Q ES R0 w0 (fuel + 1) listed n env R E := WA.take i hi hs hf hr hg hd hdn (Yl.load1 hT ho hdt hx hp hrd hk hv) hsub hR h
theorem tA {P : Program} {n : Nat} {env : Env} {w0 : World} {R : Ro} {R0 : Ro} {E : List Ent} {ES : List Ent} {o : Oper} {pc : Bool} {p : Bool} {q : Bool} {ops : List Oper} {Q : Exit → Act → World → Prop} {fuel : Nat} {listed : Array Bool} {t t2 : TypeId} {x y : Operand} {a b : Int} {d : Nat} (i : Nat) (h : WA P ops Q ES R0 w0 fuel (listed.setIfInBounds i true) n ((d, pc, .int .i64 (a + b)) :: env) R E) (hi : ops.toArray[i]? = some o := by exact rfl) (hs : Region.noSelect ops.toArray = true := by kernel_rfl) (hf : Region.free .any ops.toArray listed i = true := by kernel_rfl) (hr : (Region.ready .any ops.toArray listed).contains i = true := by kernel_rfl) (hg : gpc ops env o = some pc := by exact rfl) (hd : o.dst = some d := by exact rfl) (hdn : d < n := by decide) (ho : o.op = .binOp .add t x y t2 := by exact rfl) (hx : ev env x = some (p, .int .i64 a) := by exact rfl) (hy : ev env y = some (q, .int .i64 b) := by exact rfl) (hpq : pc = true → (p && q) = true := by exact fun _ => rfl) (hr2 : pc = true → InR (a + b) := by intro _; constructor <;> (try dsimp only) <;> omega) (hsub : ES.Sublist E := by (repeat (first | exact List.Sublist.refl _ | exact List.nil_sublist _ | apply List.Sublist.cons_cons | apply List.Sublist.cons)); done) (hR : RLe R0 R := by first | exact RLe.refl _ | assumption) : WA P ops Q ES R0 w0 (fuel + 1) listed n env R E := WA.take i hi hs hf hr hg hd hdn (Yl.add ho hx hy hpq hr2) hsub hR h
theorem tS {P : Program} {n : Nat} {env : Env} {w0 : World} {R : Ro} {R0 : Ro} {E : List Ent} {ES : List Ent} {o : Oper} {pc : Bool} {p : Bool} {q : Bool} {ops : List Oper} {Q : Exit → Act → World → Prop} {fuel : Nat} {listed : Array Bool} {t t2 : TypeId} {x y : Operand} {a b : Int} {d : Nat} (i : Nat) (h : WA P ops Q ES R0 w0 fuel (listed.setIfInBounds i true) n ((d, pc, .int .i64 (a - b)) :: env) R E) (hi : ops.toArray[i]? = some o := by exact rfl) (hs : Region.noSelect ops.toArray = true := by kernel_rfl) (hf : Region.free .any ops.toArray listed i = true := by kernel_rfl) (hr : (Region.ready .any ops.toArray listed).contains i = true := by kernel_rfl) (hg : gpc ops env o = some pc := by exact rfl) (hd : o.dst = some d := by exact rfl) (hdn : d < n := by decide) (ho : o.op = .binOp .sub t x y t2 := by exact rfl) (hx : ev env x = some (p, .int .i64 a) := by exact rfl) (hy : ev env y = some (q, .int .i64 b) := by exact rfl) (hpq : pc = true → (p && q) = true := by exact fun _ => rfl) (hr2 : pc = true → InR (a - b) := by intro _; constructor <;> (try dsimp only) <;> omega) (hsub : ES.Sublist E := by (repeat (first | exact List.Sublist.refl _ | exact List.nil_sublist _ | apply List.Sublist.cons_cons | apply List.Sublist.cons)); done) (hR : RLe R0 R := by first | exact RLe.refl _ | assumption) : WA P ops Q ES R0 w0 (fuel + 1) listed n env R E := WA.take i hi hs hf hr hg hd hdn (Yl.sub ho hx hy hpq hr2) hsub hR h
theorem yP {P : Program} {T : Tab} {n : Nat} {env : Env} {w0 : World} {R : Ro} {E : List Ent} {o : Oper} {pc : Bool} {q : Bool} {draw : Bool} {ops : List Oper} {rest : List Oper} {Q : Exit → Act → World → Prop} {v : Value} {d : Nat} (h : WG draw P ops Q rest n ((d, pc, v) :: env) w0 R E) (hT : TabOk P T := by exact tab_ok) (hg : gpc ops env o = some pc := by exact rfl) (hd : o.dst = some d := by exact rfl) (hdn : d < n := by decide) (hv : pureV T env o.op = some (q, v) := by exact rfl) (hq : pc = true → q = true := by first | exact fun _ => rfl | exact fun h => h | (intro h; simp_all)) : WG draw P ops Q (o :: rest) n env w0 R E := WG.y hg hd hdn (pureV_ok hT hv hq) h
theorem yL {P : Program} {T : Tab} {n : Nat} {env : Env} {w0 : World} {R : Ro} {E : List Ent} {o : Oper} {pc : Bool} {p : Bool} {draw : Bool} {ops : List Oper} {rest : List Oper} {Q : Exit → Act → World → Prop} {t : TypeId} {x : Operand} {ad : Addr} {cs : List Value} {dd : TD} {v : Value} {d : Nat} (hrd : Rd R E ad cs) (h : WG draw P ops Q rest n ((d, pc, v) :: env) w0 R E) (hT : TabOk P T := by exact tab_ok) (hg : gpc ops env o = some pc := by exact rfl) (hd : o.dst = some d := by exact rfl) (hdn : d < n := by decide) (ho : o.op = .load t x := by exact rfl) (hdt : T.at t = some dd := by exact rfl) (hx : ev env x = some (p, .pointer (some ad)) := by exact rfl) (hp : pc = true → p = true := by exact fun _ => rfl) (hk : dd.k.known = true := by exact rfl) (hv : loadV dd cs = some v := by exact rfl) : WG draw P ops Q (o :: rest) n env w0 R E := WG.y hg hd hdn (Yl.load1 hT ho hdt hx hp hrd hk hv) h
theorem yA {P : Program} {n : Nat} {env : Env} {w0 : World} {R : Ro} {E : List Ent} {o : Oper} {pc : Bool} {p : Bool} {q : Bool} {draw : Bool} {ops : List Oper} {rest : List Oper} {Q : Exit → Act → World → Prop} {t t2 : TypeId} {x y : Operand} {a b : Int} {d : Nat} (h : WG draw P ops Q rest n ((d, pc, .int .i64 (a + b)) :: env) w0 R E) (hg : gpc ops env o = some pc := by exact rfl) (hd : o.dst = some d := by exact rfl) (hdn : d < n := by decide) (ho : o.op = .binOp .add t x y t2 := by exact rfl) (hx : ev env x = some (p, .int .i64 a) := by exact rfl) (hy : ev env y = some (q, .int .i64 b) := by exact rfl) (hpq : pc = true → (p && q) = true := by exact fun _ => rfl) (hr2 : pc = true → InR (a + b) := by intro _; constructor <;> (try dsimp only) <;> omega) : WG draw P ops Q (o :: rest) n env w0 R E := WG.y hg hd hdn (Yl.add ho hx hy hpq hr2) h
theorem yS {P : Program} {n : Nat} {env : Env} {w0 : World} {R : Ro} {E : List Ent} {o : Oper} {pc : Bool} {p : Bool} {q : Bool} {draw : Bool} {ops : List Oper} {rest : List Oper} {Q : Exit → Act → World → Prop} {t t2 : TypeId} {x y : Operand} {a b : Int} {d : Nat} (h : WG draw P ops Q rest n ((d, pc, .int .i64 (a - b)) :: env) w0 R E) (hg : gpc ops env o = some pc := by exact rfl) (hd : o.dst = some d := by exact rfl) (hdn : d < n := by decide) (ho : o.op = .binOp .sub t x y t2 := by exact rfl) (hx : ev env x = some (p, .int .i64 a) := by exact rfl) (hy : ev env y = some (q, .int .i64 b) := by exact rfl) (hpq : pc = true → (p && q) = true := by exact fun _ => rfl) (hr2 : pc = true → InR (a - b) := by intro _; constructor <;> (try dsimp only) <;> omega) : WG draw P ops Q (o :: rest) n env w0 R E := WG.y hg hd hdn (Yl.sub ho hx hy hpq hr2) h
theorem zR {n : Nat} {env : Env} {w0 : World} {R : Ro} {E : List Ent} {draw : Bool} {ops : List Oper} {Q : Exit → Act → World → Prop} {l l' : List Oper} {env' : Env} (m : Nat) (h : runPure tab n m l env = (l', env')) (k : WG draw Tryz.prog ops Q l' n env' w0 R E) : WG draw Tryz.prog ops Q l n env w0 R E := WG.run tab_ok m h k
theorem zE {P : Program} {T : Tab} {n : Nat} {env : Env} {w0 : World} {R : Ro} {E : List Ent} {o : Oper} {ops : List Oper} {rest : List Oper} {Q : Exit → Act → World → Prop} {t : TypeId} {x y : Operand} {b : Nat} {cs : List Value} {v : Value} {dd : TD} (k : Nat) (h : WG false P ops Q rest n env w0 R (E.set k (.blk b (setSeg cs 0 (vcells v))))) (hT : TabOk P T := by exact tab_ok) (hg : o.guard = none := by exact rfl) (hd : o.dst = none := by exact rfl) (ho : o.op = .store t x y := by exact rfl) (hdt : T.at t = some dd := by exact rfl) (hx : ev env x = some (true, .pointer (some ⟨b, 0, none⟩)) := by exact rfl) (hy : ev env y = some (true, v) := by exact rfl) (hE : E[k]? = some (.blk b cs) := by exact rfl) (hl : Nat.beq (vcells v).length dd.size = true := by exact rfl) (hfit : Nat.ble dd.size cs.length = true := by exact rfl) (h1 : cells1 (vcells v) = true := by exact rfl) : WG false P ops Q (o :: rest) n env w0 R E := WL.efN hg hd (Ef.store0 k hT ho hdt hx hy hE hl hfit h1 h)
theorem zCE {P : Program} {T : Tab} {n : Nat} {env : Env} {w0 : World} {R : Ro} {R0 : Ro} {E : List Ent} {ES : List Ent} {o : Oper} {ops : List Oper} {Q : Exit → Act → World → Prop} {fuel : Nat} {listed : Array Bool} {t : TypeId} {x y : Operand} {b : Nat} {cs : List Value} {v : Value} {dd : TD} (i k : Nat) (h : WA P ops Q ES R0 w0 fuel (listed.setIfInBounds i true) n env R (E.set k (.blk b (setSeg cs 0 (vcells v))))) (hT : TabOk P T := by exact tab_ok) (hi : ops.toArray[i]? = some o := by exact rfl) (hr : Region.ready .any ops.toArray listed = [i] := by kernel_rfl) (hg : o.guard = none := by exact rfl) (hd : o.dst = none := by exact rfl) (ho : o.op = .store t x y := by exact rfl) (hdt : T.at t = some dd := by exact rfl) (hx : ev env x = some (true, .pointer (some ⟨b, 0, none⟩)) := by exact rfl) (hy : ev env y = some (true, v) := by exact rfl) (hE : E[k]? = some (.blk b cs) := by exact rfl) (hl : Nat.beq (vcells v).length dd.size = true := by exact rfl) (hfit : Nat.ble dd.size cs.length = true := by exact rfl) (h1 : cells1 (vcells v) = true := by exact rfl) (hR : RLe R0 R := by first | exact RLe.refl _ | assumption) (hsub : ES.Sublist (E.set k (.blk b (setSeg cs 0 (vcells v)))) := by (repeat (first | exact List.Sublist.refl _ | exact List.nil_sublist _ | apply List.Sublist.cons_cons | apply List.Sublist.cons)); done) : WA P ops Q ES R0 w0 (fuel + 1) listed n env R E := WA.effN i hi hr hg hd (Ef.store0 k hT ho hdt hx hy hE hl hfit h1 ⟨hR, hsub, h⟩)
theorem zF {P : Program} {T : Tab} {n : Nat} {env : Env} {w0 : World} {R : Ro} {E : List Ent} {o : Oper} {ops : List Oper} {rest : List Oper} {Q : Exit → Act → World → Prop} {t : TypeId} {x y : Operand} {b off : Nat} {cs : List Value} {v : Value} {dd : TD} (k : Nat) (h : WG false P ops Q rest n env w0 R (E.set k (.blk b (setSeg cs off (vcells v))))) (hT : TabOk P T := by exact tab_ok) (hg : o.guard = none := by exact rfl) (hd : o.dst = none := by exact rfl) (ho : o.op = .store t x y := by exact rfl) (hdt : T.at t = some dd := by exact rfl) (hx : ev env x = some (true, .pointer (some ((⟨b, 0, none⟩ : Addr).add off))) := by exact rfl) (hy : ev env y = some (true, v) := by exact rfl) (hE : E[k]? = some (.blk b cs) := by exact rfl) (hl : Nat.beq (vcells v).length dd.size = true := by exact rfl) (hfit : Nat.ble (off + dd.size) cs.length = true := by exact rfl) (h1 : cells1 (vcells v) = true := by exact rfl) : WG false P ops Q (o :: rest) n env w0 R E := WL.efN hg hd (Ef.store k hT ho hdt hx hy hE hl hfit h1 h)
theorem zCF {P : Program} {T : Tab} {n : Nat} {env : Env} {w0 : World} {R : Ro} {R0 : Ro} {E : List Ent} {ES : List Ent} {o : Oper} {ops : List Oper} {Q : Exit → Act → World → Prop} {fuel : Nat} {listed : Array Bool} {t : TypeId} {x y : Operand} {b off : Nat} {cs : List Value} {v : Value} {dd : TD} (i k : Nat) (h : WA P ops Q ES R0 w0 fuel (listed.setIfInBounds i true) n env R (E.set k (.blk b (setSeg cs off (vcells v))))) (hT : TabOk P T := by exact tab_ok) (hi : ops.toArray[i]? = some o := by exact rfl) (hr : Region.ready .any ops.toArray listed = [i] := by kernel_rfl) (hg : o.guard = none := by exact rfl) (hd : o.dst = none := by exact rfl) (ho : o.op = .store t x y := by exact rfl) (hdt : T.at t = some dd := by exact rfl) (hx : ev env x = some (true, .pointer (some ((⟨b, 0, none⟩ : Addr).add off))) := by exact rfl) (hy : ev env y = some (true, v) := by exact rfl) (hE : E[k]? = some (.blk b cs) := by exact rfl) (hl : Nat.beq (vcells v).length dd.size = true := by exact rfl) (hfit : Nat.ble (off + dd.size) cs.length = true := by exact rfl) (h1 : cells1 (vcells v) = true := by exact rfl) (hR : RLe R0 R := by first | exact RLe.refl _ | assumption) (hsub : ES.Sublist (E.set k (.blk b (setSeg cs off (vcells v)))) := by (repeat (first | exact List.Sublist.refl _ | exact List.nil_sublist _ | apply List.Sublist.cons_cons | apply List.Sublist.cons)); done) : WA P ops Q ES R0 w0 (fuel + 1) listed n env R E := WA.effN i hi hr hg hd (Ef.store k hT ho hdt hx hy hE hl hfit h1 ⟨hR, hsub, h⟩)
theorem lL {P : Program} {T : Tab} {n : Nat} {env : Env} {w0 : World} {R : Ro} {R0 : Ro} {E : List Ent} {ES : List Ent} {o : Oper} {p : Bool} {ops : List Oper} {Q : Exit → Act → World → Prop} {fuel : Nat} {listed : Array Bool} {t : TypeId} {x : Operand} {ad : Addr} {cs : List Value} {dd : TD} {v : Value} {d : Nat} (i : Nat) (hrd : Rd R E ad cs) (h : WA P ops Q ES R0 w0 fuel (listed.setIfInBounds i true) n ((d, true, v) :: env) R E) (hT : TabOk P T := by exact tab_ok) (hi : ops.toArray[i]? = some o := by exact rfl) (hr : Region.ready .any ops.toArray listed = [i] := by kernel_rfl) (hg : o.guard = none := by exact rfl) (hd : o.dst = some d := by exact rfl) (hdn : d < n := by decide) (ho : o.op = .load t x := by exact rfl) (hdt : T.at t = some dd := by exact rfl) (hx : ev env x = some (p, .pointer (some ad)) := by exact rfl) (hp : true = true → p = true := by exact fun _ => rfl) (hk : dd.k.known = true := by exact rfl) (hv : loadV dd cs = some v := by exact rfl) (hsub : ES.Sublist E := by (repeat (first | exact List.Sublist.refl _ | exact List.nil_sublist _ | apply List.Sublist.cons_cons | apply List.Sublist.cons)); done) (hR : RLe R0 R := by first | exact RLe.refl _ | assumption) : WA P ops Q ES R0 w0 (fuel + 1) listed n env R E := WA.yl i hi hr hg hd hdn (Yl.load1 (pc := true) hT ho hdt hx hp hrd hk hv) hsub hR h
theorem sL {P : Program} {T : Tab} {n : Nat} {env : Env} {w0 : World} {R : Ro} {R0 : Ro} {E : List Ent} {ES : List Ent} {o : Oper} {p : Bool} {ops : List Oper} {Q : Exit → Act → World → Prop} {fuel : Nat} {listed : Array Bool} {t : TypeId} {x : Operand} {ad : Addr} {cs : List Value} {dd : TD} {v : Value} {d i : Nat} (hrd : Rd R E ad cs) (h : WA P ops Q ES R0 w0 fuel (listed.setIfInBounds i true) n ((d, true, v) :: env) R E) (hT : TabOk P T := by exact tab_ok) (hi : ops.toArray[i]? = some o := by exact rfl) (hg : o.guard = none := by exact rfl) (hd : o.dst = some d := by exact rfl) (hdn : d < n := by decide) (ho : o.op = .load t x := by exact rfl) (hdt : T.at t = some dd := by exact rfl) (hx : ev env x = some (p, .pointer (some ad)) := by exact rfl) (hp : true = true → p = true := by exact fun _ => rfl) (hk : dd.k.known = true := by exact rfl) (hv : loadV dd cs = some v := by exact rfl) (hsub : ES.Sublist E := by (repeat (first | exact List.Sublist.refl _ | exact List.nil_sublist _ | apply List.Sublist.cons_cons | apply List.Sublist.cons)); done) (hR : RLe R0 R := by first | exact RLe.refl _ | assumption) : WS P ops Q ES R0 w0 fuel listed n env R E i := WS.yl hi hg hd hdn (Yl.load1 (pc := true) hT ho hdt hx hp hrd hk hv) hsub hR h
theorem zQ {P : Program} {n : Nat} {env : Env} {w0 : World} {R : Ro} {E : List Ent} {Q : Exit → Act → World → Prop} {x : Code} {y : Code} (h : W P x (Exit.then (y.wp P Q) Q) n env w0 R E) : W P (.seq x y) Q n env w0 R E := W.seq h
theorem zG {P : Program} {n : Nat} {env : Env} {w0 : World} {R : Ro} {E : List Ent} {Q : Exit → Act → World → Prop}  {id : Nat} {l : List Oper} (h : WG false P l Q l n env w0 R E) : W P (.region id l.toArray false) Q n env w0 R E := W.region id h
theorem zN {P : Program} {n : Nat} {env : Env} {w0 : World} {R : Ro} {E : List Ent} {draw : Bool} {ops : List Oper} {Q : Exit → Act → World → Prop}  (h : WE Q .normal n env w0 R E) : WG draw P ops Q [] n env w0 R E := WG.nil h
theorem zU {P : Program} {n : Nat} {env : Env} {w0 : World} {R : Ro} {E : List Ent} {Q : Exit → Act → World → Prop} {y : Code} (h : W P y Q n env w0 R E) : WE (Exit.then (y.wp P Q) Q) .normal n env w0 R E := WE.nxt h
theorem zB {P : Program} {n : Nat} {env : Env} {w0 : World} {R : Ro} {E : List Ent} {Q : Exit → Act → World → Prop} {x : Code} {id : Nat} (h : W P x (Exit.inBlock id Q) n env w0 R E) : W P (.block id x) Q n env w0 R E := W.block h
theorem zK {P : Program} {n : Nat} {env : Env} {w0 : World} {R : Ro} {E : List Ent} {Q : Exit → Act → World → Prop}  (h : WE Q .normal n env w0 R E) : W P .skip Q n env w0 R E := W.skip h
theorem zT {P : Program} {n : Nat} {env : Env} {w0 : World} {R : Ro} {E : List Ent} {Q : Exit → Act → World → Prop}  (h : WE Q .ret n env w0 R E) : W P .ret Q n env w0 R E := W.ret h
theorem wt {n : Nat} {env : Env} {w0 : World} {R : Ro} {E : List Ent} {Q : Exit → Act → World → Prop} {K : Act → World → Prop} (h : WE Q .ret n env w0 R E) : WE (Exit.then K Q) .ret n env w0 R E := WE.then_ret h
theorem wb {n : Nat} {env : Env} {w0 : World} {R : Ro} {E : List Ent} {Q : Exit → Act → World → Prop}  {id : Nat} (h : WE Q .ret n env w0 R E) : WE (Exit.inBlock id Q) .ret n env w0 R E := WE.blk_ret h
theorem wx {n : Nat} {env : Env} {w0 : World} {R : Ro} {E : List Ent} {Q : Exit → Act → World → Prop} {K : Act → World → Prop} {id : Nat} (h : WE Q (.exit id) n env w0 R E) : WE (Exit.then K Q) (.exit id) n env w0 R E := WE.then_exit h
theorem zY {n : Nat} {env : Env} {w0 : World} {R : Ro} {E : List Ent} {Q : Exit → Act → World → Prop}  {id : Nat} (h : WE Q .normal n env w0 R E) : WE (Exit.inBlock id Q) (.exit id) n env w0 R E := WE.blk_exit h
theorem zX {P : Program} {n : Nat} {env : Env} {w0 : World} {R : Ro} {E : List Ent} {Q : Exit → Act → World → Prop}  {id : Nat} (h : WE Q (.exit id) n env w0 R E) : W P (.exit id) Q n env w0 R E := W.exit h
theorem zL {n : Nat} {env : Env} {w0 : World} {R : Ro} {E : List Ent} {Q : Exit → Act → World → Prop}  {id : Nat} (h : WE Q .normal n env w0 R E) : WE (Exit.inBlock id Q) .normal n env w0 R E := WE.blk id h
theorem fE {P : Program} {f : FuncId} {fn : Func} {c : Code} {args : List Value} {Post : Value → Ro → List Ent → Prop} {w0 : World} {R : Ro} {E : List Ent} (n : Nat) (hf : P.funcs[f]? = some fn) (h : W P c (bodyPost P fn (FnR w0 R Post)) n (argEnv 0 args) w0 R E) (hb : fn.body = some c := by exact rfl) (hn : fn.ntmps = n := by exact rfl) (ha : args.length ≤ n := by exact Nat.le_of_ble_eq_true rfl) (hs : Nat.ble n 99999 = true := by exact rfl) : K.Fn P f args w0 R E Post := Fn.enter hf hb hn ha hs h
theorem zA {P : Program} {T : Tab} {n : Nat} {env : Env} {w0 : World} {R : Ro} {E : List Ent} {o : Oper} {ops : List Oper} {rest : List Oper} {Q : Exit → Act → World → Prop} {d : Nat} {t : TypeId} {dd : TD} (h : ∀ b, WG false P ops Q rest n ((d, true, (.pointer (some ⟨b, 0, none⟩))) :: env) w0 R (.blk b dd.zero :: E)) (hT : TabOk P T := by exact tab_ok) (hg : o.guard = none := by exact rfl) (hd : o.dst = some d := by exact rfl) (hdn : d < n := by decide) (ho : o.op = .alloc t := by exact rfl) (hdt : T.at t = some dd := by exact rfl) : WG false P ops Q (o :: rest) n env w0 R E := WL.ef hg hd hdn (Ef.alloc hT ho hdt h)
theorem zO {P : Program} {n : Nat} {env : Env} {w0 : World} {R : Ro} {E : List Ent} {o : Oper} {ops : List Oper} {rest : List Oper} {Q : Exit → Act → World → Prop} {d : Nat} {t : TypeId} {x : Operand} {v : Value} (h : ∀ b, WG false P ops Q rest n ((d, true, (.pointer (some ⟨b, 0, none⟩))) :: env) w0 R (.blk b (vcells v) :: E)) (hg : o.guard = none := by exact rfl) (hd : o.dst = some d := by exact rfl) (hdn : d < n := by decide) (ho : o.op = .box t x := by exact rfl) (hx : ev env x = some (true, v) := by exact rfl) : WG false P ops Q (o :: rest) n env w0 R E := WL.ef hg hd hdn (Ef.box ho hx h)
theorem yO {P : Program} {n : Nat} {env : Env} {w0 : World} {R : Ro} {E : List Ent} {o : Oper} {pc : Bool} {p : Bool} {q : Bool} {draw : Bool} {ops : List Oper} {rest : List Oper} {Q : Exit → Act → World → Prop} {x y : Operand} {b c : Bool} {d : Nat} (h : WG draw P ops Q rest n ((d, pc, .bool (b || c)) :: env) w0 R E) (hg : gpc ops env o = some pc := by exact rfl) (hd : o.dst = some d := by exact rfl) (hdn : d < n := by decide) (ho : o.op = .pick x (.const (.bool true)) y := by exact rfl) (hx : ev env x = some (p, .bool b) := by exact rfl) (hy : ev env y = some (q, .bool c) := by exact rfl) (hp : pc = true → p = true := by first | exact fun _ => rfl | exact fun h => h | (intro h; simp_all)) (hq : pc = true → b = false → q = true := by intro h1 h2; simp_all <;> omega) : WG draw P ops Q (o :: rest) n env w0 R E := WG.y hg hd hdn (Yl.por ho hx hy hp hq) h
theorem yN {P : Program} {n : Nat} {env : Env} {w0 : World} {R : Ro} {E : List Ent} {o : Oper} {pc : Bool} {p : Bool} {q : Bool} {draw : Bool} {ops : List Oper} {rest : List Oper} {Q : Exit → Act → World → Prop} {x y : Operand} {b c : Bool} {d : Nat} (h : WG draw P ops Q rest n ((d, pc, .bool (b && c)) :: env) w0 R E) (hg : gpc ops env o = some pc := by exact rfl) (hd : o.dst = some d := by exact rfl) (hdn : d < n := by decide) (ho : o.op = .pick x y (.const (.bool false)) := by exact rfl) (hx : ev env x = some (p, .bool b) := by exact rfl) (hy : ev env y = some (q, .bool c) := by exact rfl) (hp : pc = true → p = true := by first | exact fun _ => rfl | exact fun h => h | (intro h; simp_all)) (hq : pc = true → b = true → q = true := by intro h1 h2; simp_all <;> omega) : WG draw P ops Q (o :: rest) n env w0 R E := WG.y hg hd hdn (Yl.pand ho hx hy hp hq) h
theorem yG {P : Program} {T : Tab} {n : Nat} {env : Env} {w0 : World} {R : Ro} {E : List Ent} {o : Oper} {pc : Bool} {p : Bool} {draw : Bool} {ops : List Oper} {rest : List Oper} {Q : Exit → Act → World → Prop} {t : TypeId} {x : Operand} {ad : Addr} {cs : List Value} {dd : TD} {v : Value} {d : Nat} (hrd : True → Rd R E ad cs) (h : WG draw P ops Q rest n ((d, pc, v) :: env) w0 R E) (hT : TabOk P T := by exact tab_ok) (hg : gpc ops env o = some pc := by exact rfl) (hd : o.dst = some d := by exact rfl) (hdn : d < n := by decide) (ho : o.op = .load t x := by exact rfl) (hdt : T.at t = some dd := by exact rfl) (hx : ev env x = some (p, .pointer (some ad)) := by exact rfl) (hp : pc = true → p = true := by first | exact fun _ => rfl | exact fun h => h | (intro h; simp_all)) (hk : dd.k.known = true := by exact rfl) (hv : loadV dd cs = some v := by exact rfl) : WG draw P ops Q (o :: rest) n env w0 R E := WG.y hg hd hdn (Yl.loadG hT ho hdt hx hp hrd hk hv (fun _ => trivial)) h
theorem yR {P : Program} {T : Tab} {n : Nat} {env : Env} {w0 : World} {R : Ro} {E : List Ent} {o : Oper} {pc : Bool} {p : Bool} {draw : Bool} {ops : List Oper} {rest : List Oper} {Q : Exit → Act → World → Prop} {t : TypeId} {x : Operand} {ad : Addr} {cs : List Value} {dd : TD} {v : Value} {d : Nat} (h : WG draw P ops Q rest n ((d, pc, v) :: env) w0 R E) (hT : TabOk P T := by exact tab_ok) (hg : gpc ops env o = some pc := by exact rfl) (hd : o.dst = some d := by exact rfl) (hdn : d < n := by decide) (ho : o.op = .load t x := by exact rfl) (hdt : T.at t = some dd := by exact rfl) (hx : ev env x = some (p, .pointer (some ad)) := by exact rfl) (hp : pc = true → p = true := by exact fun _ => rfl) (hrd : Rd R E ad cs := by (apply RS.rdD; assumption; ((try dsimp only) <;> omega))) (hk : dd.k.known = true := by exact rfl) (hv : loadV dd cs = some v := by exact rfl) : WG draw P ops Q (o :: rest) n env w0 R E := WG.y hg hd hdn (Yl.load1 hT ho hdt hx hp hrd hk hv) h
theorem sE {n : Nat} {env : Env} {w0 : World} {R : Ro} {E : List Ent} {ES : List Ent} {Q : Exit → Act → World → Prop} {x : Exit} (h : WE Q x n env w0 R E) (hE : E.Sublist ES := by (repeat (first | exact List.Sublist.refl _ | exact List.nil_sublist _ | apply List.Sublist.cons_cons | apply List.Sublist.cons)); done) : WE Q x n env w0 R ES := WE.subE hE h
theorem qB {P : Prop} (h : P := by first | exact Rd.blk 0 rfl | exact Rd.blk 1 rfl | exact Rd.blk 2 rfl | exact Rd.blk 3 rfl | exact Rd.blk 4 rfl | exact Rd.blk 5 rfl | exact Rd.blk 6 rfl | exact Rd.blk 7 rfl | exact Rd.blk 8 rfl | exact Rd.blk 9 rfl | exact Rd.blk 10 rfl | exact Rd.blk 11 rfl | exact Rd.blk 12 rfl) : P := h
end Go.Proofs.YtmidibkljoaoiaaGreatDoor
set_option maxRecDepth 4000
set_option linter.unusedSimpArgs false
set_option linter.unusedVariables false
namespace Go.Proofs.YtmidibkljoaoiaaGreatDoor
open Go Go.RowKit Go.Proofs.YtmidibkljoaoiaaGreatDoor.K Go.Proofs.YtmidibkljoaoiaaGreatDoor.M

def encT (l : List UInt8) : List Value := [.string (str l)]
def rdE (b : Nat) (a : Option Addr) (cp : Nat) (ws : List (List UInt8)) (k at' size : Nat) : Ent := .blk b [.slice a ws.length cp, .int .i64 (k : Int), .int .i64 (at' : Int), .int .i64 (size : Int)]
def failV (at' : Nat) (e : Int) : Value := .iface 145 (.agg #[.int .i64 (at' : Int), .int .i64 e])

theorem Peek_C {R : Ro} {b : Nat} {a : Option Addr} {cp : Nat} {ws : List (List UInt8)} {k at' size : Nat} (w0 : World) (hws : RS R 1 encT a ws) (hsz : size ≤ 1000000) : FnAt Tryz.prog 114 [.pointer (some ⟨b, 0, none⟩)] w0 R (rdE b a cp ws k at' size) (RdPost (.tuple #[.string (str (if k < ws.length then nth ws k else [])), .bool (decide (k < ws.length))]) R (rdE b a cp ws k at' size)) := by
 intro F
 have hwl := hws.len
 refine fE 24 Tryz.func114 ?_
 refine zQ (zG (zR 2 rfl (zN (zU (zQ (zQ ?_))))))
 refine W.regionQ _ mixed qK ?_
 refine zR 3 rfl ?_
 refine yL (Rd.add (Rd.blk 0 rfl) _) ?_
 refine zR 3 rfl ?_
 refine yL (Rd.add (Rd.blk 0 rfl) _) ?_
 refine zR 2 rfl (zN (zU ?_))
 refine W.condD rfl (fun hc0 => ?_) (fun hc0 => ?_)
 ·try dsimp only at hc0
  have hk : ¬ k < ws.length := by omega
  refine zQ (zG (zR 2 rfl (zN (zU (zT (wt ?_))))))
  refine WE.retF tab_ok [_, _] rfl ⟨rfl, rfl, trivial⟩ (RLe.refl _) ?_
  exact ⟨_, [], rfl, by rw [if_neg hk, decide_eq_false hk]; rfl, rfl, rfl, rfl⟩
 ·try dsimp only at hc0
  have hk : k < ws.length := by omega
  refine zK (zU (zQ ?_))
  refine W.regionQ _ mixed qK ?_
  refine zR 3 rfl ?_
  refine yL (Rd.add (Rd.blk 0 rfl) _) ?_
  refine zR 3 rfl ?_
  refine yL (Rd.add (Rd.blk 0 rfl) _) ?_
  refine WG.y rfl rfl qD (Yl.indexN tab_ok rfl rfl rfl rfl rfl rfl (fun _ => rfl) qN qH) ?_
  refine yR ?_
  refine zR 2 rfl (zN (zU (zT ?_)))
  refine WE.retF tab_ok [_, _] rfl ⟨rfl, rfl, trivial⟩ (RLe.refl _) ?_
  exact ⟨_, [], rfl, by rw [if_pos hk, decide_eq_true hk]; rfl, rfl, rfl, rfl⟩

theorem Skip_C {R : Ro} {b : Nat} {a : Option Addr} {cp : Nat} {ws : List (List UInt8)} {k at' size : Nat} (w0 : World) (hws : RS R 1 encT a ws) (hsz : size ≤ 1000000) (hk : k < ws.length) (hat : at' + (nth ws k).length ≤ 2000000) : FnAt Tryz.prog 111 [.pointer (some ⟨b, 0, none⟩)] w0 R (rdE b a cp ws k at' size) (RdPost (.tuple #[]) R (rdE b a cp ws (k + 1) (at' + (nth ws k).length + 1) size)) := by
 intro F
 have hwl := hws.len
 have hss := str_size (nth ws k)
 refine fE 28 Tryz.func111 ?_
 refine zQ ?_
 refine W.regionH _ (ES := []) mixed ?_
 refine tP 0 ?_
 refine tP 1 ?_
 refine tP 2 ?_
 refine tP 4 ?_
 refine tP 5 ?_
 refine tP 6 ?_
 refine tP 8 ?_
 refine tP 9 ?_
 refine tP 10 ?_
 refine WA.br3 (i := 3) (j := 7) (k := 11) qK ?_ ?_ ?_
 ·
  refine sL (Rd.add (Rd.blk 0 rfl) _) ?_
  refine WA.br2 (i := 7) (j := 11) qK ?_ ?_
  ·
   refine sL (Rd.add (Rd.blk 0 rfl) _) ?_
   refine lL 11 (Rd.add (Rd.blk 0 rfl) _) ?_
   refine WA.take 12 rfl qK qK qK rfl rfl qD (Yl.indexN tab_ok rfl rfl rfl rfl rfl rfl (fun _ => rfl) qN qH) qS qR ?_
   refine' WA.take 13 rfl qK qK qK rfl rfl qD (Yl.load1 tab_ok rfl rfl rfl (fun _ => rfl) ?r4 rfl ?h4) qS qR ?_
   case r4 => ((apply RS.rdD; assumption; ((try dsimp only) <;> omega)))
   case h4 => rfl
   refine tP 14 ?_
   refine tA 15 ?_
   refine tA 16 ?_
   refine tP 17 ?_
   refine tP 18 ?_
   refine zCF 19 0 ?_
   refine WA.done qK ?_
   refine zU (zG (zR 3 rfl ?_))
   refine yL (Rd.add (Rd.blk 0 rfl) _) ?_
   refine yA ?_
   refine zR 2 rfl ?_
   refine zF 0 ?_
   refine zN ?_
   refine WE.endF tab_ok [] rfl trivial (RLe.refl _) ?_
   exact ⟨rdE b a cp ws (k + 1) (at' + (nth ws k).length + 1) size, [], by unfold rdE; rw [show ((at' + (nth ws k).length + 1 : Nat) : Int) = (at' : Int) + (((str (nth ws k)).size : Int) + 1) by rw [str_size]; omega]; rfl, rfl, rfl, rfl, rfl⟩
  ·
   refine sL (Rd.add (Rd.blk 0 rfl) _) ?_
   refine lL 7 (Rd.add (Rd.blk 0 rfl) _) ?_
   refine WA.take 12 rfl qK qK qK rfl rfl qD (Yl.indexN tab_ok rfl rfl rfl rfl rfl rfl (fun _ => rfl) qN qH) qS qR ?_
   refine' WA.take 13 rfl qK qK qK rfl rfl qD (Yl.load1 tab_ok rfl rfl rfl (fun _ => rfl) ?r8 rfl ?h8) qS qR ?_
   case r8 => ((apply RS.rdD; assumption; ((try dsimp only) <;> omega)))
   case h8 => rfl
   refine tP 14 ?_
   refine tA 15 ?_
   refine tA 16 ?_
   refine tP 17 ?_
   refine tP 18 ?_
   refine zCF 19 0 ?_
   refine WA.done qK ?_
   refine zU (zG (zR 3 rfl ?_))
   refine yL (Rd.add (Rd.blk 0 rfl) _) ?_
   refine yA ?_
   refine zR 2 rfl ?_
   refine zF 0 ?_
   refine zN ?_
   refine WE.endF tab_ok [] rfl trivial (RLe.refl _) ?_
   exact ⟨rdE b a cp ws (k + 1) (at' + (nth ws k).length + 1) size, [], by unfold rdE; rw [show ((at' + (nth ws k).length + 1 : Nat) : Int) = (at' : Int) + (((str (nth ws k)).size : Int) + 1) by rw [str_size]; omega]; rfl, rfl, rfl, rfl, rfl⟩
 ·
  refine sL (Rd.add (Rd.blk 0 rfl) _) ?_
  refine WA.br2 (i := 3) (j := 11) qK ?_ ?_
  ·
   refine sL (Rd.add (Rd.blk 0 rfl) _) ?_
   refine lL 11 (Rd.add (Rd.blk 0 rfl) _) ?_
   refine WA.take 12 rfl qK qK qK rfl rfl qD (Yl.indexN tab_ok rfl rfl rfl rfl rfl rfl (fun _ => rfl) qN qH) qS qR ?_
   refine' WA.take 13 rfl qK qK qK rfl rfl qD (Yl.load1 tab_ok rfl rfl rfl (fun _ => rfl) ?r13 rfl ?h13) qS qR ?_
   case r13 => ((apply RS.rdD; assumption; ((try dsimp only) <;> omega)))
   case h13 => rfl
   refine tP 14 ?_
   refine tA 15 ?_
   refine tA 16 ?_
   refine tP 17 ?_
   refine tP 18 ?_
   refine zCF 19 0 ?_
   refine WA.done qK ?_
   refine zU (zG (zR 3 rfl ?_))
   refine yL (Rd.add (Rd.blk 0 rfl) _) ?_
   refine yA ?_
   refine zR 2 rfl ?_
   refine zF 0 ?_
   refine zN ?_
   refine WE.endF tab_ok [] rfl trivial (RLe.refl _) ?_
   exact ⟨rdE b a cp ws (k + 1) (at' + (nth ws k).length + 1) size, [], by unfold rdE; rw [show ((at' + (nth ws k).length + 1 : Nat) : Int) = (at' : Int) + (((str (nth ws k)).size : Int) + 1) by rw [str_size]; omega]; rfl, rfl, rfl, rfl, rfl⟩
  ·
   refine sL (Rd.add (Rd.blk 0 rfl) _) ?_
   refine WA.take 12 rfl qK qK qK rfl rfl qD (Yl.indexN tab_ok rfl rfl rfl rfl rfl rfl (fun _ => rfl) qN qH) qS qR ?_
   refine' WA.take 13 rfl qK qK qK rfl rfl qD (Yl.load1 tab_ok rfl rfl rfl (fun _ => rfl) ?r16 rfl ?h16) qS qR ?_
   case r16 => ((apply RS.rdD; assumption; ((try dsimp only) <;> omega)))
   case h16 => rfl
   refine tP 14 ?_
   refine tA 15 ?_
   refine lL 3 (Rd.add (Rd.blk 0 rfl) _) ?_
   refine tA 16 ?_
   refine tP 17 ?_
   refine tP 18 ?_
   refine zCF 19 0 ?_
   refine WA.done qK ?_
   refine zU (zG (zR 3 rfl ?_))
   refine yL (Rd.add (Rd.blk 0 rfl) _) ?_
   refine yA ?_
   refine zR 2 rfl ?_
   refine zF 0 ?_
   refine zN ?_
   refine WE.endF tab_ok [] rfl trivial (RLe.refl _) ?_
   exact ⟨rdE b a cp ws (k + 1) (at' + (nth ws k).length + 1) size, [], by unfold rdE; rw [show ((at' + (nth ws k).length + 1 : Nat) : Int) = (at' : Int) + (((str (nth ws k)).size : Int) + 1) by rw [str_size]; omega]; rfl, rfl, rfl, rfl, rfl⟩
 ·
  refine sL (Rd.add (Rd.blk 0 rfl) _) ?_
  refine WA.br2 (i := 3) (j := 7) qK ?_ ?_
  ·
   refine sL (Rd.add (Rd.blk 0 rfl) _) ?_
   refine lL 7 (Rd.add (Rd.blk 0 rfl) _) ?_
   refine WA.take 12 rfl qK qK qK rfl rfl qD (Yl.indexN tab_ok rfl rfl rfl rfl rfl rfl (fun _ => rfl) qN qH) qS qR ?_
   refine' WA.take 13 rfl qK qK qK rfl rfl qD (Yl.load1 tab_ok rfl rfl rfl (fun _ => rfl) ?r22 rfl ?h22) qS qR ?_
   case r22 => ((apply RS.rdD; assumption; ((try dsimp only) <;> omega)))
   case h22 => rfl
   refine tP 14 ?_
   refine tA 15 ?_
   refine tA 16 ?_
   refine tP 17 ?_
   refine tP 18 ?_
   refine zCF 19 0 ?_
   refine WA.done qK ?_
   refine zU (zG (zR 3 rfl ?_))
   refine yL (Rd.add (Rd.blk 0 rfl) _) ?_
   refine yA ?_
   refine zR 2 rfl ?_
   refine zF 0 ?_
   refine zN ?_
   refine WE.endF tab_ok [] rfl trivial (RLe.refl _) ?_
   exact ⟨rdE b a cp ws (k + 1) (at' + (nth ws k).length + 1) size, [], by unfold rdE; rw [show ((at' + (nth ws k).length + 1 : Nat) : Int) = (at' : Int) + (((str (nth ws k)).size : Int) + 1) by rw [str_size]; omega]; rfl, rfl, rfl, rfl, rfl⟩
  ·
   refine sL (Rd.add (Rd.blk 0 rfl) _) ?_
   refine WA.take 12 rfl qK qK qK rfl rfl qD (Yl.indexN tab_ok rfl rfl rfl rfl rfl rfl (fun _ => rfl) qN qH) qS qR ?_
   refine' WA.take 13 rfl qK qK qK rfl rfl qD (Yl.load1 tab_ok rfl rfl rfl (fun _ => rfl) ?r25 rfl ?h25) qS qR ?_
   case r25 => ((apply RS.rdD; assumption; ((try dsimp only) <;> omega)))
   case h25 => rfl
   refine tP 14 ?_
   refine tA 15 ?_
   refine lL 3 (Rd.add (Rd.blk 0 rfl) _) ?_
   refine tA 16 ?_
   refine tP 17 ?_
   refine tP 18 ?_
   refine zCF 19 0 ?_
   refine WA.done qK ?_
   refine zU (zG (zR 3 rfl ?_))
   refine yL (Rd.add (Rd.blk 0 rfl) _) ?_
   refine yA ?_
   refine zR 2 rfl ?_
   refine zF 0 ?_
   refine zN ?_
   refine WE.endF tab_ok [] rfl trivial (RLe.refl _) ?_
   exact ⟨rdE b a cp ws (k + 1) (at' + (nth ws k).length + 1) size, [], by unfold rdE; rw [show ((at' + (nth ws k).length + 1 : Nat) : Int) = (at' : Int) + (((str (nth ws k)).size : Int) + 1) by rw [str_size]; omega]; rfl, rfl, rfl, rfl, rfl⟩

theorem Need_C {R : Ro} {b : Nat} {a : Option Addr} {cp : Nat} {ws : List (List UInt8)} {k at' size : Nat} (w0 : World) (hws : RS R 1 encT a ws) (hsz : size ≤ 1000000) : FnXAt Tryz.prog 110 [.pointer (some ⟨b, 0, none⟩)] w0 R (rdE b a cp ws k at' size) (fun v R' e' N => v = .string (str (nth ws k)) ∧ k < ws.length ∧ R = R' ∧ e' = (rdE b a cp ws k at' size) ∧ N = []) (fun v R' e' => v = failV size 4 ∧ ¬ k < ws.length ∧ R = R' ∧ e' = (rdE b a cp ws k at' size)) := by
 intro F
 have hwl := hws.len
 refine FnX.enter (n := 19) Tryz.func110 rfl rfl (Nat.le_of_ble_eq_true rfl) rfl ?_
 refine zQ (zG (zR 1 rfl (zN (zU (zQ (zG (zR 1 rfl ?_)))))))
 refine WL.callAt 0 en114 rfl rfl qD (CallOp.mkT rfl rfl rfl rfl) rfl (Peek_C w0 hws hsz _) ?_
 rintro _ _ _ _ - ⟨rfl, rfl, rfl, rfl⟩
 refine zR 5 rfl (zN (zU (zQ (zQ (zG (zR 2 rfl (zN (zU ?_))))))))
 refine W.cond rfl (fun hc0 => ?_) (fun hc0 => ?_)
 ·try simp only [zk] at hc0
  have hk : ¬ k < ws.length := by simpa using hc0
  refine zG (zR 3 rfl ?_)
  refine yL (Rd.add (Rd.blk 0 rfl) _) ?_
  -- build
  refine WG.y rfl rfl qD (Yl.build (parts := [(0, .tmp 15), (1, .const (.int .i64 4))]) tab_ok rfl rfl rfl rfl (fun _ => rfl) rfl rfl) ?_
  refine WG.y rfl rfl qD (Yl.toIface tab_ok rfl rfl rfl rfl (fun _ => rfl)) ?_
  refine WL.panic rfl rfl rfl ?_
  refine WE.then_panic ?_
  refine WE.panicX (RLe.refl _) ?_
  exact ⟨_, rfl, rfl, hk, rfl, rfl⟩
 ·try simp only [zk] at hc0
  have hk : k < ws.length := by simpa using hc0
  rw [if_pos hk]
  refine zK (zU (zQ (zG (zR 2 rfl (zN (zU (zT ?_)))))))
  refine WE.retX tab_ok [_] rfl ⟨rfl, trivial⟩ (RLe.refl _) ?_
  exact ⟨_, [], rfl, rfl, hk, rfl, rfl, rfl⟩

end Go.Proofs.YtmidibkljoaoiaaGreatDoor

/- A list of names that may be read: immutable or one's own; a flow in a text. No condition. -/
namespace Go.Proofs.YtmidibkljoaoiaaGreatDoor.M
open Go Go.Proofs.YtmidibkljoaoiaaGreatDoor.K
structure LsT (R : Ro) (E : List Ent) (la : Option Addr) (l : List (List UInt8)) : Prop where
  rd : ∀ i, i < l.length → Rd R E (eaddr la 1 i) (encT (nth l i))
  has : HasMem R E la l.length
  len : l.length ≤ 9223372036854775807
theorem LsT.sub {R R' : Ro} {E E' : List Ent} {la : Option Addr} {l : List (List UInt8)} (h : LsT R E la l) (hR : RLe R R') (hE : E.Sublist E') : LsT R' E' la l :=
 ⟨fun i hi w0 w hm => h.rd i hi w0 w (hm.sub hR hE), fun w0 w hm => h.has w0 w (hm.sub hR hE), h.len⟩
theorem LsT.ro {R : Ro} {E : List Ent} {la : Option Addr} {l : List (List UInt8)} (h : K.RS R 1 encT la l) : LsT R E la l := ⟨fun _ hi => RS.rdD h hi, RS.has h, h.len⟩
theorem LsT.own {R : Ro} {E : List Ent} {la : Option Addr} {l : List (List UInt8)} {e cap : Nat} (i : Nat) (h : E[i]? = some (.sl e 1 la cap (l.map encT))) (hl : l.length ≤ 1000000) : LsT R E la l := ⟨fun _ hj => Rd.slD i h hj, HasMem.ownD i h, by omega⟩
/-- where a name stands -/
def idxN (names : List (List UInt8)) (x : List UInt8) : Nat := names.findIdx (fun y => decide (y = x))
theorem idx_at {names : List (List UInt8)} {x : List UInt8} {i : Nat} (h : ∀ j, j < i → nth names j ≠ x) (hi : i < names.length) (he : nth names i = x) : idxN names x = i ∧ x ∈ names := by
 refine ⟨?_, by rw [← he]; exact nth_mem hi⟩
 unfold idxN
 refine (List.findIdx_eq hi).2 ⟨?_, fun j hj => ?_⟩
 ·rw [← nth_eq hi, he]; exact decide_eq_true rfl
 ·have hjl : j < names.length := Nat.lt_trans hj hi
  have := h j hj
  rw [nth_eq hjl] at this
  exact decide_eq_false this
theorem idx_no {names : List (List UInt8)} {x : List UInt8} (h : ∀ j, j < names.length → nth names j ≠ x) : x ∉ names := fun hx => by
 obtain ⟨i, hi, rfl⟩ := List.getElem_of_mem hx
 exact h i hi (nth_eq hi)
def wayO (names : List (List UInt8)) (w : List UInt8) : Bool := (splC 62 w).all (fun x => decide (x ∈ names))
def wayV (names : List (List UInt8)) (w : List UInt8) : List Int := (splC 62 w).map (fun x => (idxN names x : Int))
/-- a text is a flow over lines with names -/
def flO (names : List (List UInt8)) (s : List UInt8) : Bool :=
  decide ((w7 s).length = 7) && (decide (nth (w7 s) 0 = wFlow) && (wordB (nth (w7 s) 1) && ((num9 (nth (w7 s) 2) && (num9 (nth (w7 s) 3) && num9 (nth (w7 s) 4))) && (wayO names (nth (w7 s) 5) && decide ((parseR (nth (w7 s) 6)).2.2 = 0)))))
def flV (names : List (List UInt8)) (s : List UInt8) : Fl := ⟨nth (w7 s) 1, wayV names (nth (w7 s) 5), num9V (nth (w7 s) 2), num9V (nth (w7 s) 3), num9V (nth (w7 s) 4), (parseR (nth (w7 s) 6)).1⟩
def encPtr (a : Option Addr) : List Value := [.pointer a]
theorem parseGo_err (size : Nat) : ∀ (ws : List (List UInt8)) (wh : Nat) (vals : List Int) (per inc : Int) (at' : Nat), (parseGo size wh vals per inc at' ws).2.2 ≠ 0 → (parseGo size wh vals per inc at' ws).1 = zcv
 | [], wh, vals, per, inc, at', h => by
  rw [parseGo] at h ⊢
  split at h
  ·exact absurd rfl h
  ·rename_i h1; rw [if_neg h1]
 | w :: ws, wh, vals, per, inc, at', h => by
  rw [parseGo] at h ⊢
  split at h
  ·rename_i h1; rw [if_pos h1]; exact parseGo_err size ws _ _ _ _ _ h
  ·rename_i h1; rw [if_neg h1]
   split at h
   ·rename_i h2; rw [if_pos h2]; exact parseGo_err size ws _ _ _ _ _ h
   ·rename_i h2; rw [if_neg h2]
    split at h
    ·rename_i h3; rw [if_pos h3]; exact parseGo_err size ws _ _ _ _ _ h
    ·rename_i h3; rw [if_neg h3]
     split at h
     ·rename_i h4; rw [if_pos h4]
      split at h
      ·rename_i h5; rw [if_pos h5]
      ·rename_i h5; rw [if_neg h5]
       split at h
       ·rename_i h6; rw [if_pos h6]; exact parseGo_err size ws _ _ _ _ _ h
       ·rename_i h6; rw [if_neg h6]
        split at h
        ·rename_i h7; rw [if_pos h7]; exact parseGo_err size ws _ _ _ _ _ h
        ·rename_i h7; rw [if_neg h7]; exact parseGo_err size ws _ _ _ _ _ h
     ·rename_i h4; rw [if_neg h4]
theorem parseR_valid (s : List UInt8) : (parseR s).1 = zcv ∨ validB (parseR s).1 = true := by
 unfold parseR
 split
 ·exact .inl rfl
 ·split
  ·rename_i h; exact .inl (parseGo_err _ _ _ _ _ _ _ h)
  ·split
   ·rename_i h; exact .inr h
   ·exact .inl rfl
theorem parseR_len (s : List UInt8) : (parseR s).1.vals.length ≤ 400 := by
 rcases parseR_valid s with h | h
 ·rw [h]; decide
 ·exact (validB_iff.1 h).1.2.1
end Go.Proofs.YtmidibkljoaoiaaGreatDoor.M

/- Lists of named curves: what is written and what is read. Plain. No condition. -/
namespace Go.Proofs.YtmidibkljoaoiaaGreatDoor.M
open Go Go.Proofs.YtmidibkljoaoiaaGreatDoor.K
def isNameB (s : List UInt8) : Bool := decide (1 ≤ s.length ∧ s.length ≤ 12 ∧ ∀ i, i < s.length → (97 ≤ byteAt s i ∧ byteAt s i ≤ 122) ∨ (0 < i ∧ 48 ≤ byteAt s i ∧ byteAt s i ≤ 57))
theorem name_mem {s : List UInt8} (h : isNameB s = true) : 1 ≤ s.length ∧ s.length ≤ 12 ∧ ∀ c ∈ s, 48 ≤ c.toNat := by
 obtain ⟨h1, h2, h3⟩ := of_decide_eq_true h
 refine ⟨h1, h2, fun c hc => ?_⟩
 obtain ⟨i, hi, rfl⟩ := List.getElem_of_mem hc
 have h4 := h3 i hi
 rw [byte_get hi] at h4
 omega
/-- up to the first instance of a byte, and what is behind it -/
def brk (d : UInt8) : List UInt8 → List UInt8 × Option (List UInt8)
  | [] => ([], none)
  | c :: s => if c = d then ([], some s) else (c :: (brk d s).1, (brk d s).2)
theorem brk_some {d : UInt8} : ∀ {w : List UInt8} (s : List UInt8), (∀ c ∈ w, c ≠ d) → brk d (w ++ d :: s) = (w, some s)
 | [], s, _ => by simp [brk]
 | c :: w, s, h => by
  have hc := h c (by simp)
  rw [List.cons_append, brk, if_neg hc, brk_some s (fun x hx => h x (by simp [hx]))]
theorem brk_none {d : UInt8} : ∀ {w : List UInt8}, (∀ c ∈ w, c ≠ d) → brk d w = (w, none)
 | [], _ => rfl
 | c :: w, h => by
  have hc := h c (by simp)
  rw [brk, if_neg hc, brk_none (fun x hx => h x (by simp [hx]))]
theorem brk_spec (d : UInt8) : ∀ s : List UInt8, (∀ c ∈ (brk d s).1, c ≠ d) ∧ (((brk d s).2 = none ∧ s = (brk d s).1) ∨ ∃ r, (brk d s).2 = some r ∧ s = (brk d s).1 ++ d :: r)
 | [] => ⟨by simp [brk], .inl ⟨rfl, rfl⟩⟩
 | c :: s => by
  unfold brk
  by_cases hc : c = d
  ·rw [if_pos hc]; exact ⟨by simp, .inr ⟨s, rfl, by rw [hc]; rfl⟩⟩
  ·rw [if_neg hc]
   obtain ⟨h1, h2⟩ := brk_spec d s
   refine ⟨fun x hx => ?_, ?_⟩
   ·rcases List.mem_cons.1 hx with rfl | hx
    ·exact hc
    ·exact h1 x hx
   ·rcases h2 with ⟨h3, h4⟩ | ⟨r, h3, h4⟩
    ·exact .inl ⟨h3, congrArg (c :: ·) h4⟩
    ·exact .inr ⟨r, h3, congrArg (c :: ·) h4⟩
theorem cut_brk (d : UInt8) (s : List UInt8) : Lib.cut s [d] = ((brk d s).1, (brk d s).2.getD [], (brk d s).2.isSome) := by
 obtain ⟨h1, ⟨h2, h3⟩ | ⟨r, h2, h3⟩⟩ := brk_spec d s
 ·rw [h2]
  have hi := idx_none h1
  rw [← h3] at hi ⊢
  unfold Lib.cut
  rw [hi, if_neg (by decide)]
  rfl
 ·rw [h2]
  generalize (brk d s).1 = w at h1 h3
  subst h3
  have hi := idx_word (s' := r) h1
  unfold Lib.cut
  rw [hi, if_pos (by omega), Int.toNat_natCast, List.take_left]
  refine Prod.ext rfl (Prod.ext ?_ rfl)
  show (w ++ d :: r).drop (w.length + 1) = r
  rw [← List.drop_drop, List.drop_left]; rfl
/-- a row: a name, and the text behind it -/
def cutN (row : List UInt8) : Option (List UInt8 × List UInt8) :=
  match (brk 32 row).2 with
  | some (61 :: 32 :: t) => if isNameB (brk 32 row).1 = true then some ((brk 32 row).1, t) else none
  | _ => none
/-! ### lists -/
abbrev Nmd := List UInt8 × Cv
def hasN (l : List Nmd) (n : List UInt8) : Bool := l.any (fun x => decide (x.1 = n))
def findNm : List Nmd → List UInt8 → Cv × Int
  | [], _ => (zcv, 5)
  | x :: l, n => if x.1 = n then (x.2, 0) else findNm l n
theorem find_has : ∀ (l : List Nmd) (n : List UInt8), (findNm l n).2 = 0 ↔ hasN l n = true
 | [], n => by simp [findNm, hasN]
 | x :: l, n => by
  unfold findNm
  by_cases h : x.1 = n
  ·rw [if_pos h]; simp [hasN, h]
  ·rw [if_neg h, find_has l n]; simp [hasN, h]
theorem find_err (l : List Nmd) (n : List UInt8) : (findNm l n).2 = 0 ∨ findNm l n = (zcv, 5) := by
 induction l with
 | nil => exact .inr rfl
 | cons x l ih =>
  unfold findNm
  split
  ·exact .inl rfl
  ·exact ih
def rowF (x : Nmd) : List UInt8 := ((x.1 ++ [32, 61, 32]) ++ (formatR x.2).1) ++ [10]
def fallGo : List Nmd → List UInt8 → List Nmd → List UInt8 × Int
  | _, acc, [] => if 4000 < acc.length then ([], 3) else (acc, 0)
  | pre, acc, x :: r => if isNameB x.1 = false then ([], 4) else if (formatR x.2).2 ≠ 0 then ([], (formatR x.2).2) else if hasN pre x.1 = true then ([], 7) else fallGo (pre ++ [x]) (acc ++ rowF x) r
def formatAllR (l : List Nmd) : List UInt8 × Int := if 40 < l.length then ([], 3) else fallGo [] [] l
def pallGo : Nat → Int → List Nmd → List UInt8 → List Nmd × Int × Int × Int
  | 0, _, acc, _ => (acc, 0, 0, 0)
  | f + 1, n, acc, s => if s = [] then (acc, 0, 0, 0) else
    match cutN (brk 10 s).1, (brk 10 s).2 with
    | some (nm, t), some s' =>
      if (parseR t).2.2 ≠ 0 then ([], n, ((parseR t).2.1 : Int), (parseR t).2.2)
      else if hasN acc nm = true then ([], n, 0, 7)
      else if 40 < n then ([], n, 0, 3)
      else pallGo f (n + 1) (acc ++ [(nm, (parseR t).1)]) s'
    | _, _ => ([], n, 0, 4)
def parseAllR (s : List UInt8) : List Nmd × Int × Int × Int := if 4000 < s.length then ([], 0, 0, 3) else pallGo (s.length + 1) 1 [] s
/-- what is left to be read -/
def PSt (s0 : List UInt8) (n : Int) (acc : List Nmd) (s : List UInt8) : Prop := ∃ f, s.length < f ∧ pallGo (s0.length + 1) 1 [] s0 = pallGo f n acc s
theorem PSt.start (s : List UInt8) : PSt s 1 [] s := ⟨_, Nat.lt_succ_self _, rfl⟩
theorem PSt.fin {s0 : List UInt8} {n : Int} {acc : List Nmd} (h : PSt s0 n acc []) : pallGo (s0.length + 1) 1 [] s0 = (acc, 0, 0, 0) := by
 obtain ⟨f, hf, e⟩ := h
 obtain ⟨f, rfl⟩ : ∃ g, f = g + 1 := ⟨f - 1, by have := hf; omega⟩
 rw [e, pallGo, if_pos rfl]
section
variable {s0 : List UInt8} {n : Int} {acc : List Nmd} {s : List UInt8}
theorem PSt.row (h : PSt s0 n acc s) (hs : s ≠ []) {nm t s' : List UInt8} (hc : cutN (brk 10 s).1 = some (nm, t)) (hb : (brk 10 s).2 = some s') :
  ((parseR t).2.2 ≠ 0 → pallGo (s0.length + 1) 1 [] s0 = ([], n, ((parseR t).2.1 : Int), (parseR t).2.2)) ∧
  ((parseR t).2.2 = 0 → hasN acc nm = true → pallGo (s0.length + 1) 1 [] s0 = ([], n, 0, 7)) ∧
  ((parseR t).2.2 = 0 → hasN acc nm = false → 40 < n → pallGo (s0.length + 1) 1 [] s0 = ([], n, 0, 3)) ∧
  ((parseR t).2.2 = 0 → hasN acc nm = false → ¬ 40 < n → PSt s0 (n + 1) (acc ++ [(nm, (parseR t).1)]) s') := by
 obtain ⟨f, hf, e⟩ := h
 obtain ⟨f, rfl⟩ : ∃ g, f = g + 1 := ⟨f - 1, by have := hf; omega⟩
 generalize hT : pallGo (s0.length + 1) 1 [] s0 = T at e ⊢
 rw [pallGo, if_neg hs, hc, hb] at e
 dsimp only at e
 refine ⟨fun h1 => ?_, fun h1 h2 => ?_, fun h1 h2 h3 => ?_, fun h1 h2 h3 => ?_⟩
 ·rw [e, if_pos h1]
 ·rw [e, if_neg (fun hh => hh h1), if_pos h2]
 ·rw [e, if_neg (fun hh => hh h1), if_neg (by rw [h2]; decide), if_pos h3]
 ·rw [if_neg (fun hh => hh h1), if_neg (by rw [h2]; decide), if_neg h3] at e
  refine ⟨f, ?_, hT.trans e⟩
  obtain ⟨_, ⟨h5, _⟩ | ⟨r, h5, h6⟩⟩ := brk_spec 10 s
  ·rw [h5] at hb; cases hb
  ·rw [h5] at hb
   cases hb
   have := congrArg List.length h6
   rw [List.length_append, List.length_cons] at this
   omega
end
end Go.Proofs.YtmidibkljoaoiaaGreatDoor.M

/- The text of a network, read row for row. Plain. No condition. -/
namespace Go.Proofs.YtmidibkljoaoiaaGreatDoor.M
open Go Go.Proofs.YtmidibkljoaoiaaGreatDoor.K
/-- names, lines, flows -/
abbrev Nt : Type := List (List UInt8) × List Ln × List Fl
def zNt : Nt := ([], [], [])
def takeS (n : Nt) (s : List UInt8) : Option Nt :=
  if lineO s = true ∧ n.2.2 = [] then some (n.1 ++ [nmR s], n.2.1 ++ [vlR s], n.2.2) else if flO n.1 s = true then some (n.1, n.2.1, n.2.2 ++ [flV n.1 s]) else none
/-- row for row: what is read, in which line it fails, and why -/
def parGo : Nt → Nat → List (List UInt8) → Nt × Int × Int
  | n, _, [] => (n, 0, 0)
  | n, k, [x] => if x = [] then (n, 0, 0) else (zNt, (k : Int) + 1, 4)
  | n, k, x :: y :: r => match takeS n x with
    | none => (zNt, (k : Int) + 1, 4)
    | some n' => parGo n' (k + 1) (y :: r)
def chkN (n : Nt) : Int := chkNet n.1 n.2.1 n.2.2
def parN (s : List UInt8) : Nt × Int × Int :=
  if 4000 < s.length then (zNt, 0, 3) else if (parGo zNt 0 (splC 10 s)).2.2 ≠ 0 then parGo zNt 0 (splC 10 s)
  else if chkN (parGo zNt 0 (splC 10 s)).1 ≠ 0 then (zNt, 0, chkN (parGo zNt 0 (splC 10 s)).1) else ((parGo zNt 0 (splC 10 s)).1, 0, 0)
/-- what Cut gives, and the rows -/
theorem cut_rows (s : List UInt8) (hs : s ≠ []) : ∃ x more en, Lib.cut s [10] = (x, more, en) ∧ ((en = true ∧ s = x ++ 10 :: more ∧ splC 10 s = x :: splC 10 more) ∨ (en = false ∧ x = s ∧ splC 10 s = [x])) := by
 cases h : splC 10 s with
 | nil => exact absurd h (splC_ne 10 s)
 | cons w ws =>
  obtain ⟨h1, ⟨rfl, rfl⟩ | ⟨s', rfl, rfl⟩⟩ := splC_cons h
  ·exact ⟨s, [], false, by rw [cut_brk, brk_none h1]; rfl, .inr ⟨rfl, rfl, rfl⟩⟩
  ·exact ⟨w, s', true, by rw [cut_brk, brk_some _ h1]; rfl, .inl ⟨rfl, rfl, rfl⟩⟩
theorem splC_two (s : List UInt8) : ∃ y r, splC 10 s = y :: r := by
 cases h : splC 10 s with
 | nil => exact absurd h (splC_ne 10 s)
 | cons y r => exact ⟨y, r, rfl⟩
theorem par_none {n : Nt} {k : Nat} {x more : List UInt8} (h : takeS n x = none) : parGo n k (x :: splC 10 more) = (zNt, (k : Int) + 1, 4) := by
 obtain ⟨y, r, e⟩ := splC_two more
 rw [e, parGo, h]
theorem par_some {n n' : Nt} {k : Nat} {x more : List UInt8} (h : takeS n x = some n') : parGo n k (x :: splC 10 more) = parGo n' (k + 1) (splC 10 more) := by
 obtain ⟨y, r, e⟩ := splC_two more
 rw [e, parGo, h]
end Go.Proofs.YtmidibkljoaoiaaGreatDoor.M

/- The law of the kinds of lines, in plain terms: what is drawn is read back. No condition. -/
namespace Go.Proofs.YtmidibkljoaoiaaGreatDoor.M
open Go Go.Proofs.YtmidibkljoaoiaaGreatDoor.K
def lineA : List UInt8 := [108, 105, 110, 101, 32, 97, 32, 102, 105, 102, 111, 32, 49, 48, 48]
def lineB : List UInt8 := [108, 105, 110, 101, 32, 98, 32, 102, 105, 102, 111]
theorem dec100 : Lib.decDigits 100 = [49, 48, 48] := by
 rw [dec_step (by decide), dec_step (by decide), dec_one (by decide)]
 rfl
theorem fmtE_A : fmtE [97] ⟨1, 100, 1, [], []⟩ = 0 := by kernel_rfl
theorem chk_A : chkNet0 [[97]] [⟨1, 100, 1, [], []⟩] = 0 := by kernel_rfl
theorem fmt_A : fmtN0 [[97]] [⟨1, 100, 1, [], []⟩] = (lineA ++ [10], 0) := by
 have e : fmtL [97] ⟨1, 100, 1, [], []⟩ = lineA := by
  unfold fmtL
  rw [if_pos fmtE_A]
  unfold fmtWords fmtRest
  rw [show ((100 : Int).toNat) = 100 from rfl, dec100]
  rfl
 unfold fmtN0
 rw [if_neg (fun h => h chk_A), if_neg (fun h => h (show fmtErr [([97], ⟨1, 100, 1, [], []⟩)] = 0 by rw [fmtErr, if_neg (fun h => h fmtE_A)]; rfl))]
 rw [show ([[97]] : List (List UInt8)).zip [(⟨1, 100, 1, [], []⟩ : Ln)] = [([97], ⟨1, 100, 1, [], []⟩)] from rfl, List.map_singleton, show rowX ([97], ⟨1, 100, 1, [], []⟩) = lineA from e]
 rfl
theorem draw_le {k : Nat} {L : Ln} {name : List UInt8} (hk : k = 1 ∨ k = 2) (h : DrawP k L) (hn : name.length ≤ 1) : (fmtL name L).length ≤ 300 := by
 have hcp := h.cap
 have hnn := h.n
 unfold fmtL
 split
 ·have hd1 : (Lib.decDigits L.cap.toNat).length ≤ 2 := decD_le 2 _ (by decide) (by omega)
  have hd2 : (Lib.decDigits L.n.toNat).length ≤ 2 := decD_le 2 _ (by decide) (by omega)
  have hk8 : (kwS L.kind).length ≤ 8 := by unfold kwS; (repeat' split) <;> decide
  have hws : ∀ x ∈ fmtWords name L, x.length ≤ 40 := by
   intro x hx
   unfold fmtWords at hx
   rcases List.mem_append.1 hx with hx | hx
   ·simp only [List.mem_cons, List.not_mem_nil, or_false] at hx
    rcases hx with rfl | rfl | rfl | rfl
    ·decide
    ·omega
    ·omega
    ·omega
   ·unfold fmtRest at hx
    split at hx
    ·simp at hx
    ·split at hx
     ·rw [List.mem_singleton.1 hx]; omega
     ·split at hx
      ·rename_i h3
       rw [List.mem_singleton.1 hx]
       have hr : L.w.length = k ∧ ∀ x ∈ L.w, x ≤ 999999 := by
        rcases h3 with h3 | h3
        ·obtain ⟨h4, h5, _⟩ := h.rob h3
         exact ⟨h4, fun x hx => by have := h5 x hx; omega⟩
        ·obtain ⟨h4, h5, _⟩ := h.defi h3
         exact ⟨h4, fun x hx => by have := h5 x hx; omega⟩
       have := lstS_le hr.2
       omega
      ·have hkk := h.kind
       obtain ⟨_, h6, h7, h8⟩ := h.slots (by omega)
       have := lstS_le (fun x hx => by have := h8 x hx; omega : ∀ x ∈ L.tb, x ≤ 999999)
       simp only [List.mem_cons, List.not_mem_nil, or_false] at hx
       rcases hx with rfl | rfl
       ·omega
       ·omega
  have hl : (fmtWords name L).length ≤ 6 := by
   unfold fmtWords fmtRest
   (repeat' split) <;> exact Nat.le_of_ble_eq_true rfl
  have h8 := join_le (k := 40) _ 32 hws
  have h9 : 41 * (fmtWords name L).length ≤ 41 * 6 := Nat.mul_le_mul_left _ hl
  omega
 ·exact Nat.zero_le _
theorem nm4_len {x : List UInt8} {n : Nat} (h : x ∈ nm4.take n) : x.length ≤ 1 ∧ wordB x = true := by
 have h2 := List.mem_of_mem_take h
 simp only [nm4, List.mem_cons, List.not_mem_nil, or_false] at h2
 rcases h2 with rfl | rfl | rfl | rfl <;> exact ⟨by decide, by kernel_rfl⟩
/-- what one drawn line is -/
theorem draw_row {k n : Nat} {L : Ln} {x : List UInt8} (hk : k = 1 ∨ k = 2) (h : DrawP k L) (hx : x ∈ nm4.take n) : fmtE x L = 0 ∧ (∀ c ∈ fmtL x L, c ≠ 10) ∧ lineO (fmtL x L) = true ∧ (fmtL x L).length ≤ 300 ∧ nmR (fmtL x L) = x ∧ vlR (fmtL x L) = L := by
 obtain ⟨h1, h2⟩ := nm4_len hx
 obtain ⟨h3, h4⟩ := h.chk hk
 have he := fmtE_zero h2 h3 h4
 obtain ⟨h5, h6, h7⟩ := line_read h2 h3 h4
 exact ⟨he, fmt_no10 h2 he, h5, draw_le hk h h1, h7, h6⟩
theorem rowsT_len {k : Nat} : ∀ {rows : List (List UInt8)}, (∀ x ∈ rows, x.length ≤ k) → (rowsT rows).length ≤ (k + 1) * rows.length
 | [], _ => Nat.le_refl 0
 | x :: r, h => by
  have h1 := h x (by simp)
  have h2 := rowsT_len (rows := r) (fun y hy => h y (by simp [hy]))
  have e : rowsT (x :: r) = x ++ 10 :: rowsT r := by unfold rowsT; rw [List.map_cons, List.flatten_cons, List.append_assoc]; rfl
  rw [e, List.length_append, List.length_cons, List.length_cons, Nat.mul_succ]
  omega
end Go.Proofs.YtmidibkljoaoiaaGreatDoor.M

/- Curves in memory, alone and in pairs. No condition. -/
namespace Go.Proofs.YtmidibkljoaoiaaGreatDoor.K
open Go Go.RowKit Go.Proofs.YtmidibkljoaoiaaGreatDoor.M
def enc2C (x : CvS × CvS) : List Value := encC x.1 ++ encC x.2
def OkC (R : Ro) (s : CvS) : Prop := RS R 1 encI s.a s.cv.vals ∧ s.cv.vals.length ≤ 1000 ∧ s.cv.vals.length ≤ s.cap
theorem OkC.mono {R R' : Ro} {s : CvS} (h : OkC R s) (hR : RLe R R') : OkC R' s := ⟨h.1.mono hR, h.2⟩
/-- a slice in memory -/
structure SlA (α : Type) where
  a : Option Addr
  cap : Nat
  xs : List α
instance instSlA {α : Type} : Inhabited (SlA α) := ⟨⟨none, 0, []⟩⟩
def encSl {α : Type} (s : SlA α) : List Value := [.slice s.a s.xs.length s.cap]
def OkL (R : Ro) (s : SlA CvS) : Prop := RS R 3 encC s.a s.xs ∧ s.xs.length ≤ s.cap ∧ ∀ x ∈ s.xs, OkC R x
theorem OkL.mono {R R' : Ro} {s : SlA CvS} (h : OkL R s) (hR : RLe R R') : OkL R' s := ⟨h.1.mono hR, h.2.1, fun x hx => (h.2.2 x hx).mono hR⟩
end Go.Proofs.YtmidibkljoaoiaaGreatDoor.K

/- Named curves in memory. No condition. -/
namespace Go.Proofs.YtmidibkljoaoiaaGreatDoor.M
open Go Go.Proofs.YtmidibkljoaoiaaGreatDoor.K
structure NmS where
  nm : List UInt8
  c : CvS
instance : Inhabited NmS := ⟨⟨[], ⟨none, 0, zcv⟩⟩⟩
instance : Inhabited Nmd := ⟨([], zcv)⟩
def NmS.p (x : NmS) : Nmd := (x.nm, x.c.cv)
def encNm (x : NmS) : List Value := .string (str x.nm) :: encC x.c
def OkNm (R : Ro) (x : NmS) : Prop := K.RS R 1 encI x.c.a x.c.cv.vals ∧ x.c.cv.vals.length ≤ x.c.cap ∧ x.nm.length ≤ 9223372036854775807
theorem OkNm.mono {R R' : Ro} {x : NmS} (h : OkNm R x) (hR : RLe R R') : OkNm R' x := ⟨h.1.mono hR, h.2⟩
/-- a list of named curves that may be read: immutable or one's own -/
structure LsN (R : Ro) (E : List Ent) (la : Option Addr) (l : List NmS) : Prop where
  rd : ∀ i, i < l.length → Rd R E (eaddr la 4 i) (encNm (nth l i))
  has : HasMem R E la l.length
  len : l.length ≤ 9223372036854775807
theorem LsN.sub {R R' : Ro} {E E' : List Ent} {la : Option Addr} {l : List NmS} (h : LsN R E la l) (hR : RLe R R') (hE : E.Sublist E') : LsN R' E' la l :=
 ⟨fun i hi w0 w hm => h.rd i hi w0 w (hm.sub hR hE), fun w0 w hm => h.has w0 w (hm.sub hR hE), h.len⟩
theorem LsN.ro {R : Ro} {E : List Ent} {la : Option Addr} {l : List NmS} (h : K.RS R 4 encNm la l) : LsN R E la l := ⟨fun _ hi => RS.rdD h hi, RS.has h, h.len⟩
theorem LsN.own {R : Ro} {E : List Ent} {la : Option Addr} {l : List NmS} {e cap : Nat} (i : Nat) (h : E[i]? = some (.sl e 4 la cap (l.map encNm))) (hl : l.length ≤ 1000000) : LsN R E la l := ⟨fun _ hj => Rd.slD i h hj, HasMem.ownD i h, by omega⟩
theorem LsN.take {R : Ro} {E : List Ent} {la : Option Addr} {l : List NmS} (h : LsN R E la l) (k : Nat) : LsN R E la (l.take k) := by
 refine ⟨fun i hi => ?_, fun w0 w hm h2 => ?_, by rw [List.length_take]; have := h.len; omega⟩
 ·rw [List.length_take] at hi
  have e : nth (l.take k) i = nth l i := by rw [nth_eq (by rw [List.length_take]; omega), nth_eq (by omega), List.getElem_take]
  rw [e]
  exact h.rd i (by omega)
 ·rw [List.length_take] at h2
  exact h.has w0 w hm (by omega)
theorem has_false {l : List NmS} {n : List UInt8} (h : ∀ j, j < l.length → (nth l j).nm ≠ n) : hasN (l.map NmS.p) n = false := by
 unfold hasN
 rw [List.any_eq_false]
 intro x hx
 obtain ⟨y, hy, rfl⟩ := List.mem_map.1 hx
 obtain ⟨j, hj, rfl⟩ := List.getElem_of_mem hy
 have := h j hj
 rw [nth_eq hj] at this
 exact fun hh => this (of_decide_eq_true hh)
theorem find_no {l : List NmS} {n : List UInt8} (h : ∀ j, j < l.length → (nth l j).nm ≠ n) : findNm (l.map NmS.p) n = (zcv, 5) := by
 rcases find_err (l.map NmS.p) n with e | e
 ·rw [find_has, has_false h] at e; cases e
 ·exact e
end Go.Proofs.YtmidibkljoaoiaaGreatDoor.M

/- What a class is sent while it is backlogged, plain, whatever the choice: an invariant of the rounds is carried from tick to tick. No condition. -/
namespace Go.Proofs.YtmidibkljoaoiaaGreatDoor.M
open Go Go.Proofs.YtmidibkljoaoiaaGreatDoor.K

/-- the bytes of a class that have been begun -/
def begK (k : Int) : List Pkt → List Bool → Int
  | p :: ps, b :: bs => (if b = true ∧ p.flow = k then p.size else 0) + begK k ps bs
  | _, _ => 0
theorem begK_set (k : Int) : ∀ (ps : List Pkt) (bs : List Bool) (i : Nat), i < ps.length → i < bs.length → nth bs i = false → begK k ps (bs.set i true) = begK k ps bs + (if (nth ps i).flow = k then (nth ps i).size else 0)
 | [], _, i, h, _, _ => by simp at h
 | _ :: _, [], i, _, h, _ => by simp at h
 | p :: ps, b :: bs, 0, _, _, hb => by
  have : b = false := hb
  subst this
  simp only [List.set_cons_zero, begK, show nth (p :: ps) 0 = p from rfl]
  simp; omega
 | p :: ps, b :: bs, i + 1, h1, h2, hb => by
  have := begK_set k ps bs i (by simpa using h1) (by simpa using h2) hb
  simp only [List.set_cons_succ, begK, this]
  rw [show nth (p :: ps) (i + 1) = nth ps i from rfl]; omega
/-- a class of which less has been begun than has arrived waits -/
theorem begK_wait {k t : Int} (hk : 0 ≤ k) : ∀ (ps : List Pkt) (bs : List Bool), bs.length = ps.length → (∀ p ∈ ps, 0 ≤ p.size) → begK k ps bs < pbytes k (t + 1) ps → ∃ i, i < ps.length ∧ nth bs i = false ∧ (nth ps i).flow = k ∧ (nth ps i).time ≤ t
 | [], _, _, _, h => by simp [begK, pbytes] at h
 | _ :: _, [], hl, _, _ => by simp at hl
 | p :: ps, b :: bs, hl, hs, h => by
  have hp := hs p (by simp)
  by_cases h0 : b = false ∧ p.flow = k ∧ p.time ≤ t
  ·exact ⟨0, by simp, h0.1, h0.2.1, h0.2.2⟩
  ·have h1 : begK k ps bs < pbytes k (t + 1) ps := by
    simp only [begK, pbytes] at h
    by_cases hh : hit k (t + 1) p
    ·rw [if_pos hh] at h
     have hb : b = true ∧ p.flow = k := by
      unfold hit at hh
      have hf : p.flow = k := by omega
      refine ⟨?_, hf⟩
      cases b with
      | true => rfl
      | false => exact absurd ⟨rfl, hf, by omega⟩ h0
     rw [if_pos hb] at h
     omega
    ·rw [if_neg hh] at h
     split at h <;> omega
   obtain ⟨i, g1, g2, g3, g4⟩ := begK_wait hk ps bs (by simpa using hl) (fun q hq => hs q (by simp [hq])) h1
   exact ⟨i + 1, by simpa using g1, g2, g3, g4⟩

/-- the sums of a class: begun, less what is still to be sent of the open packet -/
def Cl {σ : Type} (ps : List Pkt) (k : Nat) (col : Nat) (s : RS σ) : Prop :=
  nth (nth s.sent k) col = begK k ps s.ms.begun - (if 0 ≤ s.cur ∧ (nth ps s.cur.toNat).flow = k then s.rest else 0)
/-- an invariant of the rounds: of the choice's state, the open packet and what is left of it, what the class and all others have been sent -/
structure Per {σ : Type} (ps : List Pkt) (ch : MS → σ → Int × Nat × σ) (good : MS → σ → Prop) (k : Nat) (J : σ → Int → Int → Int → Int → Prop) : Prop where
  pick : ∀ ms sg r own oth, good ms sg → ms.begun.length = ps.length → (∃ i, i < ps.length ∧ nth ms.begun i = false ∧ (nth ps i).flow = k ∧ (nth ps i).time ≤ ms.now) → J sg (-1) r own oth → 0 ≤ (ch ms sg).1 → J (ch ms sg).2.2 (ch ms sg).1 (nth ps (ch ms sg).1.toNat).size own oth
  send : ∀ (sg : σ) (cur rest own oth n : Int), 0 ≤ cur → cur < ps.length → 1 ≤ n → n ≤ rest → J sg cur rest own oth →
    J sg (if rest - n = 0 then -1 else cur) (rest - n) (own + (if (nth ps cur.toNat).flow = k then n else 0)) (oth + (if (nth ps cur.toNat).flow = k then 0 else n))
  none : ∀ sg c c' r r' own oth, c < 0 → c' < 0 → J sg c r own oth → J sg c' r' own oth
section
variable {σ : Type} {ps : List Pkt} {ch : MS → σ → Int × Nat × σ} {good : MS → σ → Prop} {rel : Nat → Nat → Prop} {classes col k : Nat} {s : RS σ} {J : σ → Int → Int → Int → Int → Prop}
theorem Cl.pickup (hg : Fair ps ch good rel) (hw : Wk ps classes good rel col s) (h : Cl ps k col s) : Cl ps k col (pickup ps ch s) := by
 unfold M.pickup
 by_cases hc : 0 ≤ s.cur
 ·rw [if_pos hc]; exact h
 ·rw [if_neg hc]
  unfold Cl at h
  rw [if_neg (by omega)] at h
  by_cases hr : (ch s.ms s.sg).1 < 0
  ·simp only [hr, if_true]
   unfold Cl
   dsimp only
   rw [if_neg (by omega)]; exact h
  ·simp only [hr, if_false]
   have hi := hg.idx _ _ hw.good hw.blen (by omega)
   obtain ⟨w1, w2⟩ := hg.waits _ _ hw.good hw.blen (by omega)
   have hb := hw.blen
   unfold Cl
   dsimp only
   rw [begK_set _ _ _ _ (by omega) (by omega) w1, h]
   by_cases hf : (nth ps (ch s.ms s.sg).1.toNat).flow = k
   ·rw [if_pos hf, if_pos ⟨by omega, hf⟩]; omega
   ·rw [if_neg hf, if_neg (fun h => hf h.2)]; omega
/-- what is sent of the class: n or nothing -/
theorem Cl.send (hfl : ∀ p ∈ ps, 0 ≤ p.flow ∧ p.flow < classes) (hk : k < classes) {t : Nat} (hw : Wk ps classes good rel (t + 1) s) (h : Cl ps k (t + 1) s) (hc : 0 ≤ s.cur) (hl : 0 < s.ms.left) :
  ∃ n, 1 ≤ n ∧ n ≤ s.rest ∧ (M.send ps t s).ms.left = s.ms.left - n ∧ (M.send ps t s).rest = s.rest - n ∧ (M.send ps t s).cur = (if s.rest - n = 0 then -1 else s.cur) ∧ (M.send ps t s).sg = s.sg ∧ (M.send ps t s).ms.begun = s.ms.begun ∧
   nth (nth (M.send ps t s).sent k) (t + 1) = nth (nth s.sent k) (t + 1) + (if (nth ps s.cur.toNat).flow = k then n else 0) ∧ Cl ps k (t + 1) (M.send ps t s) := by
 obtain ⟨c1, c2, c3⟩ := hw.cur hc
 have hfl' := hfl _ (nth_mem (show s.cur.toNat < ps.length by omega))
 have hlen := hw.slen
 refine ⟨if s.ms.left < s.rest then s.ms.left else s.rest, by split <;> omega, by split <;> omega, rfl, rfl, rfl, rfl, rfl, ?_⟩
 have hn : (if s.ms.left < s.rest then s.ms.left else s.rest) ≤ s.rest := by split <;> omega
 have hcol : nth (nth (M.send ps t s).sent k) (t + 1) = nth (nth s.sent k) (t + 1) + (if (nth ps s.cur.toNat).flow = k then (if s.ms.left < s.rest then s.ms.left else s.rest) else 0) := by
  unfold M.send
  dsimp only
  by_cases hf : (nth ps s.cur.toNat).flow = k
  ·have e : (nth ps s.cur.toNat).flow.toNat = k := by omega
   rw [if_pos hf, e, nth_set_self (by omega), nth_set_self]
   have := hw.rlen _ (nth_mem (xs := s.sent) (k := k) (by omega))
   omega
  ·rw [if_neg hf, nth_set_ne (by omega)]; omega
 refine ⟨hcol, ?_⟩
 unfold Cl at h ⊢
 rw [hcol, h]
 unfold M.send
 dsimp only
 generalize (if s.ms.left < s.rest then s.ms.left else s.rest) = n at hn ⊢
 by_cases hf : (nth ps s.cur.toNat).flow = k
 ·rw [if_pos ⟨hc, hf⟩, if_pos hf]
  by_cases hz : s.rest - n = 0
  ·simp only [hz, if_true]; rw [if_neg (by omega)]; omega
  ·simp only [hz, if_false]; rw [if_pos ⟨hc, hf⟩]; omega
 ·rw [if_neg (fun h => hf h.2), if_neg hf]
  by_cases hz : s.rest - n = 0
  ·simp only [hz, if_true]; rw [if_neg (by omega)]; omega
  ·simp only [hz, if_false]; rw [if_neg (fun h => hf h.2)]; omega
theorem Per.inner (hg : Fair ps ch good rel) (hb : Busy ps ch good) (hJ : Per ps ch good k J) (hs : ∀ p ∈ ps, 1 ≤ p.size) (hfl : ∀ p ∈ ps, 0 ≤ p.flow ∧ p.flow < classes) (hk : k < classes) {t : Nat} : ∀ (j : Nat) (s : RS σ) (own oth : Int), Wk ps classes good rel (t + 1) s → Cl ps k (t + 1) s → s.ms.now = t → 0 ≤ s.ms.left →
  (J s.sg s.cur s.rest own oth ∨ pbytes k ((t : Int) + 1) ps ≤ nth (nth s.sent k) (t + 1)) →
  Cl ps k (t + 1) (inner ps ch t j s) ∧ nth (nth s.sent k) (t + 1) ≤ nth (nth (inner ps ch t j s).sent k) (t + 1) ∧
   (nth (nth (inner ps ch t j s).sent k) (t + 1) < pbytes k ((t : Int) + 1) ps →
    J (inner ps ch t j s).sg (inner ps ch t j s).cur (inner ps ch t j s).rest (own + (nth (nth (inner ps ch t j s).sent k) (t + 1) - nth (nth s.sent k) (t + 1))) (oth + ((colSum (inner ps ch t j s).sent (t + 1) - colSum s.sent (t + 1)) - (nth (nth (inner ps ch t j s).sent k) (t + 1) - nth (nth s.sent k) (t + 1)))))
 | 0, s, own, oth, hw, hc, hn, hl, h => by
  simp only [M.inner]
  refine ⟨hc, Int.le_refl _, fun hlt => ?_⟩
  rcases h with h | h
  ·simpa using h
  ·omega
 | j + 1, s, own, oth, hw, hc, hn, hl, h => by
  simp only [M.inner]
  by_cases hl0 : s.ms.left ≤ 0
  ·rw [if_pos hl0]
   refine ⟨hc, Int.le_refl _, fun hlt => ?_⟩
   rcases h with h | h
   ·simpa using h
   ·omega
  ·rw [if_neg hl0]
   have hw1 := hw.pickup hg hs
   have hc1 := hc.pickup hg hw
   obtain ⟨e1, e2, e3, e4⟩ := pickup_same ps ch s
   -- the choice
   have hJ1 : nth (nth s.sent k) (t + 1) < pbytes k ((t : Int) + 1) ps → 0 ≤ (M.pickup ps ch s).cur ∧ J (M.pickup ps ch s).sg (M.pickup ps ch s).cur (M.pickup ps ch s).rest own oth := fun hlt => by
    have h := h.resolve_right (by omega)
    by_cases hcur : 0 ≤ s.cur
    ·unfold M.pickup; rw [if_pos hcur]; exact ⟨hcur, h⟩
    ·unfold Cl at hc
     rw [if_neg (fun x => hcur x.1)] at hc
     obtain ⟨i, g1, g2, g3, g4⟩ := begK_wait (k := (k : Int)) (t := (t : Int)) (by omega) ps s.ms.begun hw.blen (fun p hp => by have := hs p hp; omega) (by omega)
     have hr0 : 0 ≤ (ch s.ms s.sg).1 := by
      apply Classical.byContradiction
      intro hneg
      have := hb _ _ hw.good hw.blen (by omega) i g1 (by omega)
      rw [this] at g2; cases g2
     have hp := hJ.pick s.ms s.sg s.rest own oth hw.good hw.blen ⟨i, g1, g2, g3, by omega⟩ (hJ.none _ s.cur _ s.rest _ own oth (by omega) (by omega) h) hr0
     unfold M.pickup
     rw [if_neg hcur]
     dsimp only
     rw [if_neg (by omega)]
     exact ⟨hr0, hp⟩
   by_cases hcn : (M.pickup ps ch s).cur < 0
   ·rw [if_pos hcn]
    refine ⟨hc1, by rw [e3]; exact Int.le_refl _, fun hlt => ?_⟩
    rw [e3] at hlt
    have := (hJ1 hlt).1
    omega
   ·rw [if_neg hcn]
    obtain ⟨n, n1, n2, n3, n4, n5, n6, n7, n8, n9⟩ := Cl.send hfl hk hw1 hc1 (by omega) (by rw [e1]; omega)
    obtain ⟨g1, g2, g3, g4, g5, g6⟩ := hw1.send hfl hg.free (by rw [e2]; exact hn) (by omega) (by rw [e1]; omega)
    have hn0 : 0 ≤ (if (nth ps (M.pickup ps ch s).cur.toNat).flow = (k : Int) then n else 0) := by split <;> omega
    have hcc := hw1.cur (by omega)
    obtain ⟨r1, r2, r3⟩ := Per.inner hg hb hJ hs hfl hk j (M.send ps t (M.pickup ps ch s)) (own + (if (nth ps (M.pickup ps ch s).cur.toNat).flow = (k : Int) then n else 0)) (oth + (if (nth ps (M.pickup ps ch s).cur.toNat).flow = (k : Int) then 0 else n)) g1 n9 (by rw [g5, e2]; exact hn) g3 (by
     by_cases hlt : nth (nth s.sent k) (t + 1) < pbytes k ((t : Int) + 1) ps
     ·left
      have := hJ.send _ _ _ _ _ n (by omega) hcc.1 n1 n2 (hJ1 hlt).2
      rw [n4, n5, n6]; exact this
     ·right; rw [n8, e3]; omega)
    have hcs : colSum (M.send ps t (M.pickup ps ch s)).sent (t + 1) = colSum s.sent (t + 1) + n := by rw [g2, n3, e3]; omega
    refine ⟨r1, by rw [n8, e3] at r2; omega, fun hlt => ?_⟩
    have := r3 hlt
    rw [n8, hcs, e3] at this
    have ea : own + (if (nth ps (M.pickup ps ch s).cur.toNat).flow = (k : Int) then n else 0) + (nth (nth (M.inner ps ch t j (M.send ps t (M.pickup ps ch s))).sent k) (t + 1) - (nth (nth s.sent k) (t + 1) + (if (nth ps (M.pickup ps ch s).cur.toNat).flow = (k : Int) then n else 0))) = own + (nth (nth (M.inner ps ch t j (M.send ps t (M.pickup ps ch s))).sent k) (t + 1) - nth (nth s.sent k) (t + 1)) := by omega
    rw [ea] at this
    have eb : oth + (if (nth ps (M.pickup ps ch s).cur.toNat).flow = (k : Int) then 0 else n) + ((colSum (M.inner ps ch t j (M.send ps t (M.pickup ps ch s))).sent (t + 1) - (colSum s.sent (t + 1) + n)) - (nth (nth (M.inner ps ch t j (M.send ps t (M.pickup ps ch s))).sent k) (t + 1) - (nth (nth s.sent k) (t + 1) + (if (nth ps (M.pickup ps ch s).cur.toNat).flow = (k : Int) then n else 0)))) = oth + ((colSum (M.inner ps ch t j (M.send ps t (M.pickup ps ch s))).sent (t + 1) - colSum s.sent (t + 1)) - (nth (nth (M.inner ps ch t j (M.send ps t (M.pickup ps ch s))).sent k) (t + 1) - nth (nth s.sent k) (t + 1))) := by split <;> omega
    rw [eb] at this
    exact this
/-- the state at the beginning of a tick -/
def opened (cap : Int) (t : Nat) (s : RS σ) : RS σ := { s with ms := { s.ms with now := t, left := cap }, sent := s.sent.map fun l => l ++ [nth l t] }
theorem opened_row {t : Nat} {l : List Int} (h : l.length = t + 1) : nth (l ++ [nth l t]) (t + 1) = nth l t := by
 unfold nth List.getD
 rw [List.getElem?_append_right (by omega), h]; simp
theorem Wk.opened (hg : Fair ps ch good rel) {t : Nat} {cap : Int} (h : Wk ps classes good rel t s) (hnow : s.ms.now ≤ t) : Wk ps classes good rel (t + 1) (M.opened cap t s) ∧ colSum (M.opened cap t s).sent (t + 1) = colSum s.sent t := by
 have hcol : colSum (s.sent.map fun l => l ++ [nth l t]) (t + 1) = colSum s.sent t := colSum_map _ (fun l hl => opened_row (h.rlen l hl))
 refine ⟨⟨hg.free _ _ _ _ h.good, h.dlen, h.blen, by simp [M.opened, h.slen], fun l hl => ?_, h.cur, h.open_, fun i hi hb hne => ?_, fun i hi hb => ?_, h.ord, h.dord, by unfold M.opened; dsimp only; rw [hcol]; exact h.sum⟩, hcol⟩
 ·obtain ⟨l', h2, rfl⟩ := List.mem_map.1 hl
  simp [h.rlen l' h2]
 ·have := h.shut i hi hb hne
  unfold M.opened; dsimp only; omega
 ·have := h.time i hi hb
  unfold M.opened; dsimp only; omega
end
end Go.Proofs.YtmidibkljoaoiaaGreatDoor.M

/- Weighted round robin while a class is backlogged, plain: what the others take. No condition. -/
namespace Go.Proofs.YtmidibkljoaoiaaGreatDoor.M
open Go Go.Proofs.YtmidibkljoaoiaaGreatDoor.K

section
variable {w : List Int} {z : List Sz} {k : Nat}
/-- what the others may still take, from the beginning of class c on until class k -/
def restR (w : List Int) (z : List Sz) (k c : Nat) : Int := if c ≤ k then qSum k w z k - qSum k w z c else qSum k w z w.length - qSum k w z c + qSum k w z k
def mosts (w : List Int) (z : List Sz) (c : Nat) : Int := nth w c * (nth z c).most
theorem qSum_succ (i : Nat) : qSum k w z (i + 1) = qSum k w z i + (if i ≠ k then mosts w z i else 0) := by
 simp only [qSum, mosts]
 by_cases h : i = k
 ·rw [if_neg (by omega), if_neg (by omega)]
 ·rw [if_pos (by omega), if_pos h]
theorem restR_self : restR w z k k = 0 := by unfold restR; rw [if_pos (Nat.le_refl _)]; omega
theorem restR_next {c : Nat} (hc : c < w.length) (hk : k < w.length) (hne : c ≠ k) : restR w z k ((c + 1) % w.length) = restR w z k c - mosts w z c := by
 have hs := qSum_succ (w := w) (z := z) (k := k) c
 rw [if_pos hne] at hs
 by_cases hl : c + 1 < w.length
 ·rw [Nat.mod_eq_of_lt hl]
  unfold restR
  by_cases h : c ≤ k
  ·rw [if_pos h, if_pos (by omega), hs]; omega
  ·rw [if_neg h, if_neg (by omega), hs]; omega
 ·have e : c + 1 = w.length := by omega
  rw [e, Nat.mod_self]
  unfold restR
  rw [if_pos (Nat.zero_le _), if_neg (by omega), ← e, hs]
  have h0 : qSum k w z 0 = 0 := rfl
  omega
theorem restR_first (hk : k < w.length) : restR w z k ((k + 1) % w.length) = qSum k w z w.length := by
 have hs := qSum_succ (w := w) (z := z) (k := k) k
 rw [if_neg (by omega)] at hs
 by_cases hl : k + 1 < w.length
 ·rw [Nat.mod_eq_of_lt hl]
  unfold restR
  rw [if_neg (by omega), hs]; omega
 ·have e : k + 1 = w.length := by omega
  rw [e, Nat.mod_self]
  unfold restR
  rw [if_pos (Nat.zero_le _), ← e, hs]
  have h0 : qSum k w z 0 = 0 := rfl
  omega
/-- in class c, l packets of whose visit are to come and op bytes of the open one -/
def JR (w : List Int) (z : List Sz) (k c : Nat) (l op own oth : Int) : Prop :=
  c < w.length ∧ 0 ≤ l ∧
  if c = k then ∃ f : Nat, oth ≤ qSum k w z w.length * f ∧ nth w k * (nth z k).least * f ≤ own + op + l * (nth z k).least ∧ nth w k * (nth z k).least * ((f : Int) - 1) ≤ own
  else ∃ f : Nat, oth + op + l * (nth z c).most + (restR w z k c - mosts w z c) ≤ qSum k w z w.length * ((f : Int) + 1) ∧ nth w k * (nth z k).least * f ≤ own
theorem JR.next (hw : ∀ x ∈ w, 1 ≤ x) (hz : ∀ c, c < w.length → 0 ≤ (nth z c).least ∧ (nth z c).least ≤ (nth z c).most) (hk : k < w.length) (hn : 2 ≤ w.length) {c : Nat} {l own oth : Int} (h : JR w z k c l 0 own oth) (hl : c = k → l ≤ 0) :
  JR w z k ((c + 1) % w.length) (nth w ((c + 1) % w.length)) 0 own oth := by
 obtain ⟨h1, h2, h3⟩ := h
 have hlt : (c + 1) % w.length < w.length := Nat.mod_lt _ (by omega)
 have hwc := hw _ (nth_mem hlt)
 refine ⟨hlt, by omega, ?_⟩
 by_cases hck : c = k
 ·subst hck
  rw [if_pos rfl] at h3
  obtain ⟨f, f1, f2, f3⟩ := h3
  have hne : (c + 1) % w.length ≠ c := by
   by_cases hh : c + 1 < w.length
   ·rw [Nat.mod_eq_of_lt hh]; omega
   ·rw [show c + 1 = w.length by omega, Nat.mod_self]; omega
  rw [if_neg hne]
  refine ⟨f, ?_, ?_⟩
  ·rw [restR_first hk]
   show oth + 0 + mosts w z ((c + 1) % w.length) + (_ - mosts w z ((c + 1) % w.length)) ≤ _
   rw [Int.mul_add, Int.mul_one]; omega
  ·have : l = 0 := by have := hl rfl; omega
   rw [this] at f2
   simpa using f2
 ·rw [if_neg hck] at h3
  obtain ⟨f, f1, f2⟩ := h3
  have hr := restR_next (z := z) h1 hk hck
  have hl0 : 0 ≤ l * (nth z c).most := Int.mul_nonneg h2 (by have := hz c h1; omega)
  by_cases hnk : (c + 1) % w.length = k
  ·rw [if_pos hnk, hnk]
   rw [hnk, restR_self] at hr
   refine ⟨f + 1, ?_, ?_, ?_⟩
   ·have : ((f + 1 : Nat) : Int) = (f : Int) + 1 := by omega
    rw [this]; omega
   ·have : ((f + 1 : Nat) : Int) = (f : Int) + 1 := by omega
    rw [this, Int.mul_add, Int.mul_one]; omega
   ·have : ((f + 1 : Nat) : Int) - 1 = (f : Int) := by omega
    rw [this]; exact f2
  ·rw [if_neg hnk]
   refine ⟨f, ?_, f2⟩
   show oth + 0 + mosts w z ((c + 1) % w.length) + (_ - mosts w z ((c + 1) % w.length)) ≤ _
   omega
end
end Go.Proofs.YtmidibkljoaoiaaGreatDoor.M

/- Weighted round robin: the invariant of the rounds while a class is backlogged, plain. No condition. -/
namespace Go.Proofs.YtmidibkljoaoiaaGreatDoor.M
open Go Go.Proofs.YtmidibkljoaoiaaGreatDoor.K

/-- an invariant of every run: of the choice's state, the open packet and what is left of it -/
structure Vis {σ : Type} (ps : List Pkt) (ch : MS → σ → Int × Nat × σ) (good : MS → σ → Prop) (V : σ → Int → Int → Prop) : Prop where
  pick : ∀ ms sg r, good ms sg → ms.begun.length = ps.length → V sg (-1) r → 0 ≤ (ch ms sg).1 → V (ch ms sg).2.2 (ch ms sg).1 (nth ps (ch ms sg).1.toNat).size
  idle : ∀ ms sg r r', good ms sg → ms.begun.length = ps.length → V sg (-1) r → (ch ms sg).1 < 0 → V (ch ms sg).2.2 (ch ms sg).1 r'
  send : ∀ (sg : σ) (cur rest n : Int), 0 ≤ cur → cur < ps.length → 1 ≤ n → n ≤ rest → V sg cur rest → V sg (if rest - n = 0 then -1 else cur) (rest - n)
  none : ∀ sg c c' r r', c < 0 → c' < 0 → V sg c r → V sg c' r'
section
variable {σ : Type} {ps : List Pkt} {ch : MS → σ → Int × Nat × σ} {good : MS → σ → Prop} {rel : Nat → Nat → Prop} {classes k : Nat} {V : σ → Int → Int → Prop}
theorem Vis.inner (hg : Fair ps ch good rel) (hV : Vis ps ch good V) (hs : ∀ p ∈ ps, 1 ≤ p.size) (hfl : ∀ p ∈ ps, 0 ≤ p.flow ∧ p.flow < classes) {t : Nat} : ∀ (j : Nat) (s : RS σ), Wk ps classes good rel (t + 1) s → s.ms.now = t → 0 ≤ s.ms.left → V s.sg s.cur s.rest →
  V (inner ps ch t j s).sg (inner ps ch t j s).cur (inner ps ch t j s).rest
 | 0, s, hw, hn, hl, h => h
 | j + 1, s, hw, hn, hl, h => by
  simp only [M.inner]
  by_cases hl0 : s.ms.left ≤ 0
  ·rw [if_pos hl0]; exact h
  ·rw [if_neg hl0]
   have hw1 := hw.pickup hg hs
   obtain ⟨e1, e2, e3, e4⟩ := pickup_same ps ch s
   have h1 : V (M.pickup ps ch s).sg (M.pickup ps ch s).cur (M.pickup ps ch s).rest := by
    unfold M.pickup
    by_cases hcur : 0 ≤ s.cur
    ·rw [if_pos hcur]; exact h
    ·rw [if_neg hcur]
     have h0 := hV.none s.sg s.cur (-1) s.rest s.rest (by omega) (by omega) h
     by_cases hr : (ch s.ms s.sg).1 < 0
     ·simp only [hr, if_true]
      exact hV.idle _ _ _ _ hw.good hw.blen h0 hr
     ·simp only [hr, if_false]
      exact hV.pick _ _ _ hw.good hw.blen h0 (by omega)
   by_cases hcn : (M.pickup ps ch s).cur < 0
   ·rw [if_pos hcn]; exact h1
   ·rw [if_neg hcn]
    obtain ⟨c1, c2, c3⟩ := hw1.cur (by omega)
    obtain ⟨g1, g2, g3, g4, g5, g6⟩ := hw1.send hfl hg.free (by rw [e2]; exact hn) (by omega) (by rw [e1]; omega)
    refine Vis.inner hg hV hs hfl j _ g1 (by rw [g5, e2]; exact hn) g3 ?_
    have hle : (if (M.pickup ps ch s).ms.left < (M.pickup ps ch s).rest then (M.pickup ps ch s).ms.left else (M.pickup ps ch s).rest) ≤ (M.pickup ps ch s).rest := by split <;> omega
    have hge : 1 ≤ (if (M.pickup ps ch s).ms.left < (M.pickup ps ch s).rest then (M.pickup ps ch s).ms.left else (M.pickup ps ch s).rest) := by rw [e1]; split <;> omega
    exact hV.send _ _ _ _ (by omega) c1 hge hle h1
end
/-! ### round robin -/
def Jrob (ps : List Pkt) (w : List Int) (z : List Sz) (k : Nat) (sg : Nat × Int) (cur rest own oth : Int) : Prop := JR w z k sg.1 sg.2 (if 0 ≤ cur then rest else 0) own oth ∧ (0 ≤ cur → (nth ps cur.toNat).flow = sg.1)
/-- sizes of the packets of each class -/
def SzOf (ps : List Pkt) (z : List Sz) : Prop := ∀ i, i < ps.length → (nth z (nth ps i).flow.toNat).least ≤ (nth ps i).size ∧ (nth ps i).size ≤ (nth z (nth ps i).flow.toNat).most
section
variable {ps : List Pkt} {w : List Int} {z : List Sz} {k : Nat}
/-- where every run stands -/
def Vrob (ps : List Pkt) (w : List Int) (sg : Nat × Int) (cur rest : Int) : Prop := sg.1 < w.length ∧ 0 ≤ sg.2 ∧ sg.2 ≤ nth w sg.1 ∧ (0 ≤ cur → cur < ps.length ∧ (nth ps cur.toNat).flow = sg.1 ∧ sg.2 ≤ nth w sg.1 - 1 ∧ 0 ≤ rest ∧ rest ≤ (nth ps cur.toNat).size)
end
end Go.Proofs.YtmidibkljoaoiaaGreatDoor.M

/- Shares over one run: what the others are sent while a class is backlogged, plain. No condition. -/
namespace Go.Proofs.YtmidibkljoaoiaaGreatDoor.M
open Go Go.Proofs.YtmidibkljoaoiaaGreatDoor.K

section
variable {σ : Type} {ps : List Pkt} {ch : MS → σ → Int × Nat × σ} {good : MS → σ → Prop} {rel : Nat → Nat → Prop} {classes k : Nat}
end
end Go.Proofs.YtmidibkljoaoiaaGreatDoor.M

/- What a flow keeps: the least curve of a trace, plain. No condition. -/
namespace Go.Proofs.YtmidibkljoaoiaaGreatDoor.M
open Go Go.Proofs.YtmidibkljoaoiaaGreatDoor.K

theorem pbytes_congr {flow t t' : Int} : ∀ (ps : List Pkt), (∀ p ∈ ps, p.time < t ↔ p.time < t') → pbytes flow t ps = pbytes flow t' ps
 | [], _ => rfl
 | p :: ps, h => by
  have h1 := h p (by simp)
  have ih := pbytes_congr (flow := flow) ps (fun q hq => h q (by simp [hq]))
  simp only [pbytes]
  rw [ih]
  congr 1
  have e : hit flow t p ↔ hit flow t' p := by unfold hit; rw [h1]
  by_cases hh : hit flow t p
  ·rw [if_pos hh, if_pos (e.1 hh)]
  ·rw [if_neg hh, if_neg (fun h2 => hh (e.2 h2))]
def endN (ps : List Pkt) : Int := if ps.length = 0 then 0 else (nth ps (ps.length - 1)).time + 1
theorem nth_up {vs : List Int} {en : Nat} (hm : ∀ j, j < en → nth vs j ≤ nth vs (j + 1)) {a b : Nat} (hab : a ≤ b) (hb : b ≤ en) : nth vs a ≤ nth vs b := by
  induction b with
  | zero => obtain rfl : a = 0 := by omega
            exact Int.le_refl _
  | succ b ih =>
    by_cases e : a = b + 1
    · subst e; exact Int.le_refl _
    · have h1 := ih (by omega) (by omega)
      have h2 := hm b (by omega)
      omega
theorem keeps {ps : List Pkt} {flow : Int} (hsort : ps.Pairwise fun a b => a.time ≤ b.time) {en : Nat} (hen : ∀ p ∈ ps, 0 ≤ p.time ∧ p.time < en) {vs : List Int} (h0 : ∀ j, j ≤ en → 0 ≤ nth vs j) (hm : ∀ j, j < en → nth vs j ≤ nth vs (j + 1))
  (hP : ∀ i, i < ps.length → ∀ T t : Nat, (nth ps i).time = T → T ≤ t → t ≤ en → pbytes flow (t : Int) ps - pbytes flow (T : Int) ps ≤ nth vs (t - T)) {x t : Nat} (hxt : x ≤ t) : pbytes flow (t : Int) ps - pbytes flow (x : Int) ps ≤ nth vs (min (t - x) en) := by
 have hnn := h0 (min (t - x) en) (by omega)
 by_cases hex : ∃ i, i < ps.length ∧ (x : Int) ≤ (nth ps i).time ∧ (nth ps i).time < t
 ·obtain ⟨i0, i1, i2, i3⟩ := hex
  rcases findFrom_cases (fun i => decide ((x : Int) ≤ (nth ps i).time)) ps.length 0 with ⟨j, j1, j2, _, j4, j5⟩ | ⟨_, h2⟩
  ·have j4 := of_decide_eq_true j4
   have hji : j ≤ i0 := by
    apply Classical.byContradiction
    intro hn
    have := of_decide_eq_false (j5 i0 (Nat.zero_le _) (by omega))
    exact this i2
   have hle : ∀ i, j ≤ i → i < ps.length → (nth ps j).time ≤ (nth ps i).time := fun i h1 h2 => by
    by_cases e : j = i
    ·subst e; exact Int.le_refl _
    ·have := List.pairwise_iff_getElem.1 hsort j i (by omega) h2 (by omega)
     rwa [← nth_eq (show j < ps.length by omega), ← nth_eq h2] at this
   have hj := hen _ (nth_mem (xs := ps) (k := j) (by omega))
   obtain ⟨T, hT⟩ := Int.eq_ofNat_of_zero_le hj.1
   have hTi := hle i0 hji i1
   have e1 : pbytes flow (x : Int) ps = pbytes flow (T : Int) ps := by
    refine pbytes_congr ps (all_of_nth (fun i hi => ?_))
    constructor
    ·intro h; omega
    ·intro h
     apply Classical.byContradiction
     intro hn
     by_cases hij : i < j
     ·have := of_decide_eq_false (j5 i (Nat.zero_le _) hij)
      omega
     ·have := hle i (by omega) hi
      omega
   have e2 : pbytes flow (t : Int) ps = pbytes flow ((min t en : Nat) : Int) ps := by
    refine pbytes_congr ps (fun p hp => ?_)
    have := hen p hp
    omega
   have h3 := hP j (by omega) T (min t en) hT (by omega) (by omega)
   have h4 := nth_up hm (a := min t en - T) (b := min (t - x) en) (by omega) (by omega)
   omega
  ·exact absurd i2 (of_decide_eq_false (h2 i0 (Nat.zero_le _) (by omega)))
 ·have e : pbytes flow (t : Int) ps = pbytes flow (x : Int) ps := by
   refine pbytes_congr ps (all_of_nth (fun i hi => ?_))
   constructor
   ·intro h
    apply Classical.byContradiction
    intro hn
    exact hex ⟨i, hi, by omega, h⟩
   ·intro h; omega
  omega
end Go.Proofs.YtmidibkljoaoiaaGreatDoor.M

/- Any line that is never idle and keeps the order within a class: service and waits of a class, plain. No condition. -/
namespace Go.Proofs.YtmidibkljoaoiaaGreatDoor.M
open Go Go.Proofs.YtmidibkljoaoiaaGreatDoor.K

section
variable {σ : Type} {ps : List Pkt} {ch : MS → σ → Int × Nat × σ} {good : MS → σ → Prop} {rel : Nat → Nat → Prop} {classes col k : Nat} {s : RS σ}
end
end Go.Proofs.YtmidibkljoaoiaaGreatDoor.M
namespace Go.Proofs.YtmidibkljoaoiaaGreatDoor.M
open Go Go.Proofs.YtmidibkljoaoiaaGreatDoor.K
end Go.Proofs.YtmidibkljoaoiaaGreatDoor.M

/- The curve of deficit round robin, plain: it repeats itself from some tick on, so that the program's and the references' forms are one. No condition. -/
namespace Go.Proofs.YtmidibkljoaoiaaGreatDoor.M
open Go Go.Proofs.YtmidibkljoaoiaaGreatDoor.K

/-- the quanta of the other classes that have packets, and what they may have saved -/
def xSum (k : Int) (w : List Int) (z : List Sz) : Nat → Int
  | 0 => 0
  | n + 1 => xSum k w z n + (if (n : Int) ≠ k ∧ 1 ≤ (nth z n).most then nth w n else 0)
def zSum (k : Int) (z : List Sz) : Nat → Int
  | 0 => 0
  | n + 1 => zSum k z n + (if (n : Int) ≠ k ∧ 1 ≤ (nth z n).most then (nth z n).most - 1 else 0)
def defOthers (k : Int) (w : List Int) (z : List Sz) (own : Int) : Int :=
  if chkW 6000 1 k w z ≠ 0 ∨ (nth z k.toNat).most < 1 ∨ own < 0 ∨ MAXV < own then 0
  else ((own + (nth z k.toNat).most - 1) / nth w k.toNat + 1) * xSum k w z w.length + zSum k z w.length
def allD (s q l z y : Int) : Int := y + (s - q) * ((y + l - 1) / q + 1) + z
def defH (cap s q l z : Int) (t y : Nat) : Bool := decide (allD s q l z (y : Int) ≥ cap * t)
def defFn (cap s q l z : Int) (t : Nat) : Int := leastY (defH cap s q l z t) (cap * t).toNat
def startD (cap s q l z : Int) : Int := if 2 ≤ l then (allD s q l z (-1)).tdiv cap + 1 else if 1 ≤ z then (z - 1) / cap + 1 else 0
def fromD (cap s q l z : Int) : Int := ((s - q) * ((l - 1) / q + 1) + z) / cap + 1
def defC (cap k : Int) (w : List Int) (z : List Sz) : Cv × Int :=
  if chkW 6000 cap k w z ≠ 0 then (zcv, chkW 6000 cap k w z) else if (nth z k.toNat).most < 1 then (zcv, 5) else
    let q := nth w k.toNat
    let l := (nth z k.toNat).most
    let s := shortN (q + xSum k w z w.length).toNat cap.toNat
    let zz := zSum k z w.length
    if s = -1 then (zcv, 3) else
      let p := s.toNat / Nat.gcd s.toNat cap.toNat
      if 400 < fromD cap s q l zz then (zcv, 3)
      else madeR ⟨fvals (defFn cap s q l zz) ((fromD cap s q l zz).toNat + p), p, cap * p / s * q⟩
section
variable {cap s q l z : Int}
end
/-- all of it, for the walks -/
structure DefOk (cap k : Int) (w : List Int) (z : List Sz) (cn kn m s p mm : Nat) (q l x y : Int) : Prop where
  hs : shortN m cn = s
  s1 : q ≤ s ∧ s ≤ 120 * cn
  sx : q + x ≤ s
  hp : p = s / Nat.gcd s cn
  p1 : 1 ≤ p ∧ p ≤ 120
  hmm : (cn : Int) * p = mm * s
  mm1 : mm ≤ 4000
  hinc : (cn : Int) * p / s * q = mm * q
end Go.Proofs.YtmidibkljoaoiaaGreatDoor.M

/- Deficit round robin while a class is backlogged, plain: what the others take. No condition. -/
namespace Go.Proofs.YtmidibkljoaoiaaGreatDoor.M
open Go Go.Proofs.YtmidibkljoaoiaaGreatDoor.K

def sumF (f : Nat → Int) : Nat → Int
  | 0 => 0
  | n + 1 => sumF f n + f n
theorem sumF_congr {f g : Nat → Int} : ∀ {n : Nat}, (∀ i, i < n → f i = g i) → sumF f n = sumF g n
 | 0, _ => rfl
 | n + 1, h => by simp only [sumF]; rw [sumF_congr (fun i hi => h i (by omega)), h n (by omega)]
theorem sumF_le {f g : Nat → Int} : ∀ {n : Nat}, (∀ i, i < n → f i ≤ g i) → sumF f n ≤ sumF g n
 | 0, _ => Int.le_refl _
 | n + 1, h => by have a := sumF_le (fun i hi => h i (by omega) : ∀ i, i < n → f i ≤ g i); have b := h n (by omega); simp only [sumF]; omega
theorem sumF_change {f g : Nat → Int} {c : Nat} : ∀ {n : Nat}, c < n → (∀ i, i < n → i ≠ c → g i = f i) → sumF g n = sumF f n + (g c - f c)
 | 0, h, _ => by omega
 | n + 1, hc, h => by
  simp only [sumF]
  by_cases e : c = n
  ·subst e
   rw [sumF_congr (fun i hi => h i (by omega) (by omega) : ∀ i, i < c → g i = f i)]; omega
  ·rw [sumF_change (by omega) (fun i hi hne => h i (by omega) hne : ∀ i, i < n → i ≠ c → g i = f i), h n (by omega) (by omega)]; omega
theorem sumF_add {f g : Nat → Int} : ∀ {n : Nat}, sumF (fun i => f i + g i) n = sumF f n + sumF g n
 | 0 => rfl
 | n + 1 => by simp only [sumF]; rw [sumF_add]; omega
def xF (k : Nat) (w : List Int) (z : List Sz) (i : Nat) : Int := if i ≠ k ∧ 1 ≤ (nth z i).most then nth w i else 0
def zF (k : Nat) (z : List Sz) (i : Nat) : Int := if i ≠ k ∧ 1 ≤ (nth z i).most then (nth z i).most - 1 else 0
theorem xSum_eq {k : Nat} {w : List Int} {z : List Sz} : ∀ n : Nat, xSum k w z n = sumF (xF k w z) n
 | 0 => rfl
 | n + 1 => by
  simp only [xSum, sumF, xSum_eq n]
  congr 1
  unfold xF
  by_cases h : n ≠ k ∧ 1 ≤ (nth z n).most
  ·rw [if_pos h, if_pos ⟨by omega, h.2⟩]
  ·rw [if_neg h, if_neg (fun hh => h ⟨by omega, hh.2⟩)]
/-- the quantum of class i is still to be given before class k's next one -/
def pend (k c : Nat) (b : Bool) (i : Nat) : Bool := if c = k then b else (decide (i ≠ c) || !b) && (if c ≤ k then decide (c ≤ i ∧ i < k) else decide (c ≤ i ∨ i < k))
theorem pend_iff {k c i : Nat} {b : Bool} : pend k c b i = true ↔ (c = k ∧ b = true) ∨ (c ≠ k ∧ (i ≠ c ∨ b = false) ∧ ((c ≤ k ∧ c ≤ i ∧ i < k) ∨ (¬ c ≤ k ∧ (c ≤ i ∨ i < k)))) := by
 unfold pend
 by_cases h1 : c = k
 ·rw [if_pos h1]; simp [h1]
 ·rw [if_neg h1]
  by_cases h2 : c ≤ k
  ·rw [if_pos h2]; cases b <;> simp [h1, h2]
  ·rw [if_neg h2]; cases b <;> simp [h1, h2]
theorem pend_next {k c n i : Nat} (hc : c < n) (hk : k < n) (hn : 2 ≤ n) (hi : i < n) (hik : i ≠ k) : pend k ((c + 1) % n) false i = pend k c true i := by
 rw [mod_succ hc, Bool.eq_iff_iff, pend_iff, pend_iff]
 have e1 : (false = true) = False := by simp
 have e2 : (true = false) = False := by simp
 by_cases hl : c + 1 < n
 ·rw [if_pos hl, e1, e2]
  simp only [and_false, or_false, and_true, or_true, true_and, false_or]
  omega
 ·rw [if_neg hl, e1, e2]
  simp only [and_false, or_false, and_true, or_true, true_and, false_or]
  omega
theorem pend_self {k c : Nat} (h : c ≠ k) : pend k c true c = false := by unfold pend; rw [if_neg h]; simp
theorem pend_self' {k c : Nat} (h : c ≠ k) : pend k c false c = true := by unfold pend; rw [if_neg h]; split <;> simp <;> omega
theorem pend_other {k c i : Nat} {b : Bool} (h : c ≠ k) (hi : i ≠ c) : pend k c b i = pend k c true i := by unfold pend; rw [if_neg h, if_neg h]; simp [hi]
theorem pend_k {k i : Nat} {b : Bool} : pend k k b i = b := by unfold pend; rw [if_pos rfl]
/-- deficits saved, and quanta to come -/
def potF (w : List Int) (z : List Sz) (k c : Nat) (b : Bool) (d : List Int) (i : Nat) : Int := if i ≠ k ∧ 1 ≤ (nth z i).most then nth d i + (if pend k c b i = true then nth w i else 0) else 0
/-- the deficits: what is saved is less than a packet, but of the class that is visited -/
def DD (n : Nat) (z : List Sz) (c : Nat) (b : Bool) (d : List Int) : Prop := c < n ∧ d.length = n ∧ ∀ i, i < n → 0 ≤ nth d i ∧ (¬ (i = c ∧ b = true) → 1 ≤ (nth z i).most → nth d i ≤ (nth z i).most - 1)
def JD (w : List Int) (z : List Sz) (k c : Nat) (b : Bool) (d : List Int) (op own oth : Int) : Prop :=
  DD w.length z c b d ∧ ∃ v : Nat, oth + (if c = k then 0 else op) + sumF (potF w z k c b d) w.length ≤ ((v : Int) + 1) * xSum k w z w.length + zSum k z w.length ∧
    (v : Int) * nth w k ≤ own + (if c = k then op else 0) + nth d k ∧ (c = k → b = true → ((v : Int) - 1) * nth w k - ((nth z k).most - 1) ≤ own)
section
variable {nx sz : Int → Int} {w : List Int} {z : List Sz} {k : Nat}
theorem DD.grant (hw : ∀ x ∈ w, 1 ≤ x) {c : Nat} {b : Bool} {d : List Int} (h : DD w.length z c b d) (h0 : 0 ≤ nx c) : DD w.length z c true (M.grant nx w c b d) := by
 obtain ⟨h1, h2, h3⟩ := h
 refine ⟨h1, by rw [grant_len]; exact h2, fun i hi => ?_⟩
 have a := h3 i hi
 by_cases e : i = c
 ·subst e
  refine ⟨?_, fun hn => absurd ⟨rfl, rfl⟩ hn⟩
  rw [grant_self (by omega)]
  have := hw _ (nth_mem hi)
  split <;> omega
 ·rw [grant_ne e]
  exact ⟨a.1, fun _ hm => a.2 (fun hh => e hh.1) hm⟩
theorem DD.pick {c : Nat} {d : List Int} (h : DD w.length z c true d) {s : Int} (hs : s ≤ nth d c) : DD w.length z c true (d.set c (nth d c - s)) := by
 obtain ⟨h1, h2, h3⟩ := h
 refine ⟨h1, by rw [List.length_set]; exact h2, fun i hi => ?_⟩
 have a := h3 i hi
 by_cases e : i = c
 ·subst e
  rw [nth_set_self (by omega)]
  exact ⟨by omega, fun hn => absurd ⟨rfl, rfl⟩ hn⟩
 ·rw [nth_set_ne (Ne.symm e)]
  exact ⟨a.1, fun _ hm => a.2 (fun hh => e hh.1) hm⟩
theorem DD.next {c : Nat} {b : Bool} {d : List Int} (h : DD w.length z c b d) (hlt : 1 ≤ (nth z c).most → nth d c ≤ (nth z c).most - 1) : DD w.length z ((c + 1) % w.length) false d := by
 obtain ⟨h1, h2, h3⟩ := h
 refine ⟨Nat.mod_lt _ (by omega), h2, fun i hi => ?_⟩
 have a := h3 i hi
 refine ⟨a.1, fun _ hm => ?_⟩
 by_cases e : i = c
 ·subst e; exact hlt hm
 ·exact a.2 (fun hh => e hh.1) hm
theorem JD.grant (hw : ∀ x ∈ w, 1 ≤ x) (hk : k < w.length) (hL : 1 ≤ (nth z k).most) {c : Nat} {b : Bool} {d : List Int} {own oth : Int} (h : JD w z k c b d 0 own oth) (h0 : 0 ≤ nx c) : JD w z k c true (M.grant nx w c b d) 0 own oth := by
 obtain ⟨hd, v, a1, a2, a3⟩ := h
 refine ⟨hd.grant hw h0, ?_⟩
 have hcl : c < d.length := by rw [hd.2.1]; exact hd.1
 cases b with
 | true =>
  have e : M.grant nx w c true d = d := by unfold M.grant; rw [if_neg (by simp)]
  rw [e]; exact ⟨v, a1, a2, a3⟩
 | false =>
  have eg : nth (M.grant nx w c false d) c = nth d c + nth w c := by rw [grant_self hcl, if_pos ⟨h0, rfl⟩]
  by_cases hck : c = k
  ·subst hck
   rw [if_pos rfl] at a1 a2
   refine ⟨v + 1, ?_, ?_, fun _ _ => ?_⟩
   ·rw [if_pos rfl]
    have e : sumF (potF w z c c true (M.grant nx w c false d)) w.length = sumF (potF w z c c false d) w.length + xSum c w z w.length := by
     rw [xSum_eq, ← sumF_add]
     refine sumF_congr (fun i hi => ?_)
     unfold potF xF
     by_cases hh : i ≠ c ∧ 1 ≤ (nth z i).most
     ·rw [if_pos hh, if_pos hh, if_pos hh, grant_ne hh.1, pend_k, pend_k, if_pos rfl, if_neg (by simp)]; omega
     ·rw [if_neg hh, if_neg hh, if_neg hh]; omega
    rw [e]
    have e2 : (((v + 1 : Nat) : Int) + 1) * xSum c w z w.length = ((v : Int) + 1) * xSum c w z w.length + xSum c w z w.length := by rw [show (((v + 1 : Nat) : Int) + 1) = ((v : Int) + 1) + 1 by omega, Int.add_mul, Int.one_mul]
    rw [e2]; omega
   ·rw [if_pos rfl, eg]
    have e2 : (((v + 1 : Nat) : Int)) * nth w c = (v : Int) * nth w c + nth w c := by rw [show ((v + 1 : Nat) : Int) = (v : Int) + 1 by omega, Int.add_mul, Int.one_mul]
    rw [e2]; omega
   ·have hdk := (hd.2.2 c hk).2 (by simp) hL
    rw [show (((v + 1 : Nat) : Int) - 1) = (v : Int) by omega]
    omega
  ·rw [if_neg hck] at a1 a2
   refine ⟨v, ?_, ?_, fun h => absurd h hck⟩
   ·rw [if_neg hck]
    have e : sumF (potF w z k c true (M.grant nx w c false d)) w.length = sumF (potF w z k c false d) w.length := by
     refine sumF_congr (fun i hi => ?_)
     unfold potF
     by_cases hh : i ≠ k ∧ 1 ≤ (nth z i).most
     ·rw [if_pos hh, if_pos hh]
      by_cases e : i = c
      ·subst e
       rw [eg, pend_self hck, pend_self' hck, if_neg (by simp), if_pos rfl]; omega
      ·rw [grant_ne e, pend_other (b := false) hck e]
     ·rw [if_neg hh, if_neg hh]
    rw [e]; exact a1
   ·rw [if_neg hck, grant_ne (Ne.symm hck)]; exact a2
theorem JD.pick {c : Nat} {d : List Int} {own oth : Int} (h : JD w z k c true d 0 own oth) {s : Int} (hs : s ≤ nth d c) (hm : 1 ≤ (nth z c).most) : JD w z k c true (d.set c (nth d c - s)) s own oth := by
 obtain ⟨hd, v, a1, a2, a3⟩ := h
 have hcl : c < d.length := by rw [hd.2.1]; exact hd.1
 refine ⟨hd.pick hs, v, ?_, ?_, a3⟩
 ·by_cases hck : c = k
  ·subst hck
   rw [if_pos rfl] at a1 ⊢
   have e : sumF (potF w z c c true (d.set c (nth d c - s))) w.length = sumF (potF w z c c true d) w.length := by
    refine sumF_congr (fun i hi => ?_)
    unfold potF
    by_cases hh : i ≠ c ∧ 1 ≤ (nth z i).most
    ·rw [if_pos hh, if_pos hh, nth_set_ne (Ne.symm hh.1)]
    ·rw [if_neg hh, if_neg hh]
   rw [e]; exact a1
  ·rw [if_neg hck] at a1 ⊢
   have e : sumF (potF w z k c true (d.set c (nth d c - s))) w.length = sumF (potF w z k c true d) w.length + (potF w z k c true (d.set c (nth d c - s)) c - potF w z k c true d c) := by
    refine sumF_change hd.1 (fun i hi hne => ?_)
    unfold potF
    rw [nth_set_ne (Ne.symm hne)]
   have e2 : potF w z k c true (d.set c (nth d c - s)) c - potF w z k c true d c = - s := by
    unfold potF
    have hcm : c ≠ k ∧ 1 ≤ (nth z c).most := ⟨hck, hm⟩
    rw [if_pos hcm, if_pos hcm, nth_set_self hcl]; omega
   rw [e, e2]; omega
 ·by_cases hck : c = k
  ·subst hck
   rw [if_pos rfl] at a2 ⊢
   rw [nth_set_self hcl]; omega
  ·rw [if_neg hck] at a2 ⊢
   rw [nth_set_ne hck]; exact a2
theorem JD.next (hw : ∀ x ∈ w, 1 ≤ x) (hk : k < w.length) (hn : 2 ≤ w.length) {c : Nat} {d : List Int} {own oth : Int} (h : JD w z k c true d 0 own oth) (hlt : 1 ≤ (nth z c).most → nth d c ≤ (nth z c).most - 1) : JD w z k ((c + 1) % w.length) false d 0 own oth := by
 obtain ⟨hd, v, a1, a2, a3⟩ := h
 refine ⟨hd.next hlt, v, ?_, ?_, fun _ h => by cases h⟩
 ·have e : sumF (potF w z k ((c + 1) % w.length) false d) w.length = sumF (potF w z k c true d) w.length := by
   refine sumF_congr (fun i hi => ?_)
   unfold potF
   by_cases hh : i ≠ k ∧ 1 ≤ (nth z i).most
   ·rw [if_pos hh, if_pos hh, pend_next hd.1 hk hn hi hh.1]
   ·rw [if_neg hh, if_neg hh]
  rw [e]
  split <;> split at a1 <;> omega
 ·split <;> split at a2 <;> omega
/-- a class without a waiting packet loses its deficit -/
theorem JD.skip (hw : ∀ x ∈ w, 1 ≤ x) (hk : k < w.length) (hn : 2 ≤ w.length) {c : Nat} {b : Bool} {d : List Int} {own oth : Int} (h : JD w z k c b d 0 own oth) (hck : c ≠ k) : JD w z k ((c + 1) % w.length) false (d.set c 0) 0 own oth := by
 obtain ⟨hd, v, a1, a2, a3⟩ := h
 have hcl : c < d.length := by rw [hd.2.1]; exact hd.1
 have hd2 : DD w.length z c b (d.set c 0) := by
  refine ⟨hd.1, by rw [List.length_set]; exact hd.2.1, fun i hi => ?_⟩
  by_cases e : i = c
  ·subst e
   rw [nth_set_self hcl]
   exact ⟨Int.le_refl _, fun _ hm => by omega⟩
  ·rw [nth_set_ne (Ne.symm e)]; exact hd.2.2 i hi
 refine ⟨hd2.next (fun hm => by rw [nth_set_self hcl]; omega), v, ?_, ?_, fun _ h => by cases h⟩
 ·have e : sumF (potF w z k ((c + 1) % w.length) false (d.set c 0)) w.length ≤ sumF (potF w z k c b d) w.length := by
   refine sumF_le (fun i hi => ?_)
   unfold potF
   by_cases hh : i ≠ k ∧ 1 ≤ (nth z i).most
   ·rw [if_pos hh, if_pos hh, pend_next hd.1 hk hn hi hh.1]
    by_cases e : i = c
    ·subst e
     rw [nth_set_self hcl, pend_self hck, if_neg (by simp)]
     have := (hd.2.2 i hi).1
     have := hw _ (nth_mem hi)
     split <;> omega
    ·rw [nth_set_ne (Ne.symm e), pend_other (b := b) hck e]; exact Int.le_refl _
   ·rw [if_neg hh, if_neg hh]; exact Int.le_refl _
  rw [if_neg hck] at a1
  split <;> omega
 ·rw [nth_set_ne hck]
  rw [if_neg hck] at a2
  split <;> omega
end
def Jdef (ps : List Pkt) (w : List Int) (z : List Sz) (k : Nat) (sg : Nat × Bool × List Int) (cur rest own oth : Int) : Prop := JD w z k sg.1 sg.2.1 sg.2.2 (if 0 ≤ cur then rest else 0) own oth ∧ (0 ≤ cur → (nth ps cur.toNat).flow = sg.1 ∧ sg.2.1 = true)
section
variable {ps : List Pkt} {w : List Int} {z : List Sz} {k : Nat}
/-- where every run stands -/
def V0 (w : List Int) (z : List Sz) (c : Nat) (b : Bool) (d : List Int) (op : Int) : Prop := DD w.length z c b d ∧ (b = true → 1 ≤ (nth z c).most → nth d c + op ≤ (nth z c).most - 1 + nth w c)
def Vdef (ps : List Pkt) (w : List Int) (z : List Sz) (sg : Nat × Bool × List Int) (cur rest : Int) : Prop := V0 w z sg.1 sg.2.1 sg.2.2 (if 0 ≤ cur then rest else 0) ∧ (0 ≤ cur → cur < ps.length ∧ (nth ps cur.toNat).flow = sg.1 ∧ sg.2.1 = true ∧ 0 ≤ rest ∧ 1 ≤ (nth z sg.1).most)
theorem V0.grant (hw : ∀ x ∈ w, 1 ≤ x) {nx : Int → Int} {c : Nat} {b : Bool} {d : List Int} (h : V0 w z c b d 0) (h0 : 0 ≤ nx c) : V0 w z c true (M.grant nx w c b d) 0 := by
 obtain ⟨hd, h1⟩ := h
 have hcl : c < d.length := by rw [hd.2.1]; exact hd.1
 refine ⟨hd.grant hw h0, fun _ hm => ?_⟩
 rw [grant_self hcl]
 cases b with
 | true => rw [if_neg (by simp)]; exact h1 rfl hm
 | false =>
  rw [if_pos ⟨h0, rfl⟩]
  have := (hd.2.2 c hd.1).2 (by simp) hm
  omega
end
end Go.Proofs.YtmidibkljoaoiaaGreatDoor.M

/- Weighted and deficit round robin: the curve of a class is what it is served while it is backlogged, plain. No condition. -/
namespace Go.Proofs.YtmidibkljoaoiaaGreatDoor.M
open Go Go.Proofs.YtmidibkljoaoiaaGreatDoor.K

/-- what a law over a scheduler wants of a class's curve: its form, and that it is less than what is sent where the others take at most O -/
def CurveFor (x : Cv × Int) (cap : Int) (O : Int → Int) (G : Nat → Int) (s p : Nat) (q : Int) : Prop :=
  x = (⟨fvals G (s + p), p, q⟩, 0) ∧ FC G s p q ∧ G 0 = 0 ∧ ∀ (t : Nat) (own : Int), 0 ≤ own → cap * (t : Int) ≤ own + O own → G t ≤ own
section
variable {σ : Type} {ps : List Pkt} {ch : MS → σ → Int × Nat × σ} {good : MS → σ → Prop} {classes k : Nat}
end
end Go.Proofs.YtmidibkljoaoiaaGreatDoor.M

/- Time slots, plain: what every run of such a line keeps. No condition. -/
namespace Go.Proofs.YtmidibkljoaoiaaGreatDoor.M
open Go Go.Proofs.YtmidibkljoaoiaaGreatDoor.K

/-- the rest of a packet has room in the ticks in a row from t on -/
def Fits (tb : List Int) (cap : Int) (t : Nat) (left rest : Int) : Prop := (∀ i, slotT tb i = slotT tb t) ∨ ∃ n : Nat, (∀ j, j ≤ n → slotT tb (t + j) = slotT tb t) ∧ rest ≤ left + cap * n
theorem Fits.next {tb : List Int} {cap : Int} {t : Nat} {rest : Int} (h : Fits tb cap t 0 rest) (hr : 1 ≤ rest) : slotT tb (t + 1) = slotT tb t ∧ Fits tb cap (t + 1) cap rest := by
 rcases h with h | ⟨n, h1, h2⟩
 ·exact ⟨h _, .inl (fun i => by rw [h i, h (t + 1)])⟩
 ·cases n with
  | zero => simp at h2; omega
  | succ n =>
   have e := h1 1 (by omega)
   refine ⟨e, .inr ⟨n, fun j hj => ?_, ?_⟩⟩
   ·rw [show t + 1 + j = t + (j + 1) by omega, h1 (j + 1) (by omega), e]
   ·rw [Int.natCast_add, Int.mul_add] at h2
    simp at h2; omega
structure SlotPost (ps : List Pkt) (cap : Int) (tb : List Int) (classes t : Nat) (s s' : RS Unit) : Prop where
  open_ : 0 ≤ s'.cur → (nth ps s'.cur.toNat).flow = slotT tb t ∧ Fits tb cap t s'.ms.left s'.rest
  left0 : 0 ≤ s'.cur → s'.ms.left = 0
  other : ∀ c : Nat, (c : Int) ≠ slotT tb t → c < classes → nth (nth s'.sent c) (t + 1) = nth (nth s.sent c) (t + 1)
  mine : ∀ c : Nat, (c : Int) = slotT tb t → c < classes → nth (nth s'.sent c) (t + 1) + s'.ms.left = nth (nth s.sent c) (t + 1) + s.ms.left
  done : ∀ i, i < ps.length → nth s'.done i = nth s.done i ∨ (nth s'.done i = t ∧ (nth ps i).flow = slotT tb t)
  beg : ∀ i, (nth ps i).flow ≠ slotT tb t → nth s'.ms.begun i = nth s.ms.begun i
  lft : 0 ≤ s'.ms.left ∧ s'.ms.left ≤ s.ms.left
  idle : 0 < s'.ms.left → s'.cur < 0 ∧ (slotT tb t < 0 ∨ nextW ps s'.ms (slotT tb t) < 0 ∨ ∃ n : Nat, aheadN tb (slotT tb t) t = n + 1 ∧ (nth ps (nextW ps s'.ms (slotT tb t)).toNat).size > s'.ms.left + cap * n)
section
variable {ps : List Pkt} {cap : Int} {tb : List Int} {classes : Nat}
end
end Go.Proofs.YtmidibkljoaoiaaGreatDoor.M

/- Time slots, plain: a class is sent what it is sent alone. No condition. -/
namespace Go.Proofs.YtmidibkljoaoiaaGreatDoor.M
open Go Go.Proofs.YtmidibkljoaoiaaGreatDoor.K

/-- the places of the packets of a class -/
def selI (ps : List Pkt) (k : Int) : List Nat := (List.range ps.length).filter fun i => (nth ps i).flow == k
def selP (ps : List Pkt) (k : Int) : List Pkt := ps.filter fun p => p.flow == k
structure Sel (ps : List Pkt) (k : Int) (qs : List Pkt) (ix : Nat → Nat) : Prop where
  at_ : ∀ j, j < qs.length → ix j < ps.length ∧ (nth ps (ix j)).flow = k ∧ nth qs j = nth ps (ix j)
  mono : ∀ j j', j < j' → j' < qs.length → ix j < ix j'
  onto : ∀ i, i < ps.length → (nth ps i).flow = k → ∃ j, j < qs.length ∧ ix j = i
section
variable {ps qs : List Pkt} {cap : Int} {tb : List Int} {classes k : Nat} {ix : Nat → Nat}
theorem Sel.inj (h : Sel ps k qs ix) {j j' : Nat} (hj : j < qs.length) (hj' : j' < qs.length) (e : ix j = ix j') : j = j' := by
 rcases Nat.lt_trichotomy j j' with h1 | h1 | h1
 ·have := h.mono _ _ h1 hj'; omega
 ·exact h1
 ·have := h.mono _ _ h1 hj; omega
/-- the first packet of the class that waits, here and there -/
theorem Sel.next (h : Sel ps k qs ix) {ms ms' : MS} (hnow : ms'.now = ms.now) (hb : ∀ j, j < qs.length → nth ms'.begun j = nth ms.begun (ix j)) :
  (nextW qs ms' k < 0 ∧ nextW ps ms k < 0) ∨ (0 ≤ nextW qs ms' k ∧ (nextW qs ms' k).toNat < qs.length ∧ nextW ps ms k = ix (nextW qs ms' k).toNat) := by
 have hP : ∀ j, j < qs.length → nextP qs ms' k j = nextP ps ms k (ix j) := fun j hj => by
  obtain ⟨_, h2, h3⟩ := h.at_ j hj
  unfold nextP
  rw [hnow, hb j hj, h3]
 unfold nextW
 rcases findN_cases (nextP qs ms' k) qs.length with ⟨j, j1, j2, j3, j4⟩ | ⟨j1, j2⟩
 ·right
  rw [j2, Int.toNat_natCast]
  refine ⟨by omega, j1, ?_⟩
  refine findN_some (h.at_ j j1).1 (by rw [← hP j j1]; exact j3) (fun i hi => ?_)
  by_cases hf : (nth ps i).flow = k
  ·obtain ⟨j', e1, e2⟩ := h.onto i (by have := (h.at_ j j1).1; omega) hf
   have hlt : j' < j := by
    apply Classical.byContradiction
    intro hn
    by_cases e : j' = j
    ·subst e; omega
    ·have := h.mono j j' (by omega) e1; omega
   have := j4 j' hlt
   rw [hP j' e1, e2] at this; exact this
  ·unfold nextP
   have : ((nth ps i).flow == (k : Int)) = false := by simpa using hf
   rw [this]; simp
 ·left
  refine ⟨by rw [j1]; omega, ?_⟩
  rw [findN_none (fun i hi => ?_)]
  ·omega
  ·by_cases hf : (nth ps i).flow = k
   ·obtain ⟨j', e1, e2⟩ := h.onto i hi hf
    have := j2 j' e1
    rw [hP j' e1, e2] at this; exact this
   ·unfold nextP
    have : ((nth ps i).flow == (k : Int)) = false := by simpa using hf
    rw [this]; simp
/-- the two runs while the class is served -/
structure ApI (ps qs : List Pkt) (k t : Nat) (ix : Nat → Nat) (s a : RS Unit) : Prop where
  left : a.ms.left = s.ms.left
  now : a.ms.now = s.ms.now
  begun : ∀ j, j < qs.length → nth a.ms.begun j = nth s.ms.begun (ix j)
  done : ∀ j, j < qs.length → nth a.done j = nth s.done (ix j)
  col : nth (nth a.sent k) (t + 1) = nth (nth s.sent k) (t + 1)
  cur : (0 ≤ a.cur ∧ s.cur = ix a.cur.toNat ∧ a.rest = s.rest) ∨ (a.cur < 0 ∧ s.cur < 0)
/-- the two runs between ticks -/
structure Ap (ps qs : List Pkt) (k t : Nat) (ix : Nat → Nat) (s a : RS Unit) : Prop where
  begun : ∀ j, j < qs.length → nth a.ms.begun j = nth s.ms.begun (ix j)
  done : ∀ j, j < qs.length → nth a.done j = nth s.done (ix j)
  col : nth (nth a.sent k) t = nth (nth s.sent k) t
  cur : (0 ≤ a.cur ∧ s.cur = ix a.cur.toNat ∧ a.rest = s.rest) ∨ (a.cur < 0 ∧ (s.cur < 0 ∨ (nth ps s.cur.toNat).flow ≠ k))
end
end Go.Proofs.YtmidibkljoaoiaaGreatDoor.M

/- Time slots, plain: the curve of a class, and that it is what the class is served. No condition. -/
namespace Go.Proofs.YtmidibkljoaoiaaGreatDoor.M
open Go Go.Proofs.YtmidibkljoaoiaaGreatDoor.K

/-- of so many ticks from a tick on: what the parts that have ended count, and the part that goes on -/
def slotS (cap lost : Int) (mine : Nat → Bool) (from_ : Nat) : Nat → Int × Int
  | 0 => (0, 0)
  | d + 1 => if mine (from_ + d) = true then ((slotS cap lost mine from_ d).1, (slotS cap lost mine from_ d).2 + cap) else ((slotS cap lost mine from_ d).1 + max 0 ((slotS cap lost mine from_ d).2 - lost), 0)
def cntS (cap lost : Int) (mine : Nat → Bool) (from_ k : Nat) : Int := (slotS cap lost mine from_ k).1 + max 0 ((slotS cap lost mine from_ k).2 - lost)
/-- the least of so many -/
def minTo (f : Nat → Int) : Nat → Int
  | 0 => 4611686018427387904
  | n + 1 => min (minTo f n) (f n)
def minN (f : Nat → Int) : Nat → Int
  | 0 => f 0
  | n + 1 => min (minN f n) (f n)
def slotF (cap lost : Int) (mine : Nat → Bool) (n : Nat) (k : Nat) : Int := minN (fun a => cntS cap lost mine a k) n
section
variable {cap lost : Int} {mine : Nat → Bool} {a : Nat}
end
/-- the ticks of a class -/
def mineT (tb : List Int) (k : Int) (t : Nat) : Bool := slotT tb t == k
section
variable {ps : List Pkt} {cap : Int} {tb : List Int} {classes k : Nat}
end
end Go.Proofs.YtmidibkljoaoiaaGreatDoor.M

/- Time slots, plain: packets are sent within ticks in a row that belong to their class; a class that has all ticks is sent what a line in order of arrival sends it. No condition. -/
namespace Go.Proofs.YtmidibkljoaoiaaGreatDoor.M
open Go Go.Proofs.YtmidibkljoaoiaaGreatDoor.K

/-- sums -/
def sumUp (f : Nat → Int) : Nat → Int
  | 0 => 0
  | n + 1 => sumUp f n + f n
section
variable {σ : Type} {ps : List Pkt} {ch : MS → σ → Int × Nat × σ} {good : MS → σ → Prop} {rel : Nat → Nat → Prop} {classes col k : Nat} {s : RS σ}
end
section
variable {ps : List Pkt} {cap : Int} {tb : List Int} {classes : Nat}
/-- the bytes of the first packets of a class -/
def ofK (ps : List Pkt) (k : Int) (i : Nat) : Int := if (nth ps i).flow = k then (nth ps i).size else 0
/-- those that are finished before a tick -/
def overK (ps : List Pkt) (dn : List Int) (k t : Int) (i : Nat) : Int := if (nth ps i).flow = k ∧ 0 ≤ nth dn i ∧ nth dn i < t then (nth ps i).size else 0
/-! ### a class that has all ticks -/
end
end Go.Proofs.YtmidibkljoaoiaaGreatDoor.M

/- Priorities, plain: what a class is served. No condition. -/
namespace Go.Proofs.YtmidibkljoaoiaaGreatDoor.M
open Go Go.Proofs.YtmidibkljoaoiaaGreatDoor.K

section
variable {ps : List Pkt} {n k : Nat}
/-- what is open of a lesser class -/
def lowR (ps : List Pkt) (k : Nat) (s : RS Unit) : Int := if 0 ≤ s.cur ∧ (k : Int) < (nth ps s.cur.toNat).flow then s.rest else 0
end
end Go.Proofs.YtmidibkljoaoiaaGreatDoor.M

/- What a curve leaves of a line, plain: the program and the reference make the same. No condition. -/
namespace Go.Proofs.YtmidibkljoaoiaaGreatDoor.M
open Go Go.Proofs.YtmidibkljoaoiaaGreatDoor.K

/-- the greatest of the first so many, and 0 -/
def mostF (f : Nat → Int) : Nat → Int
  | 0 => 0
  | n + 1 => max (mostF f n) (f n)
/-- the greatest from s on -/
def tailF (f : Nat → Int) (s : Nat) : Nat → Int
  | 0 => f s
  | d + 1 => max (tailF f s d) (f (s + (d + 1)))
section
variable {f : Nat → Int} {s P : Nat} {D : Int}
end
/-- the difference -/
def rawL (cap : Int) (b : Cv) (t : Nat) : Int := if isInf b t then 0 else cap * (t : Int) - cvF b t
def restF (cap : Int) (b : Cv) (t : Nat) : Int := mostF (rawL cap b) (t + 1)
def driftL (cap : Int) (b : Cv) : Int := b.per * cap - b.inc
def restC (cap : Int) (g : Cv) : Cv × Int :=
  if validB g = false then (zcv, 1)
  else if finB (normR g) = true ∧ 0 < driftL cap (normR g) then
    (if tailF (rawL cap (normR g)) (stN (normR g)) (400 - stN (normR g)) < mostF (rawL cap (normR g)) (stN (normR g)) then (zcv, 3) else mbuild (restF cap (normR g)) 400 (normR g).per.toNat (driftL cap (normR g)))
  else mbuild (restF cap (normR g)) (stN (normR g) + (normR g).per.toNat) 1 0
/-- what the reference adds in a period -/
def gainL (cap : Int) (b : Cv) : Int := if finB b = true then max 0 (driftL cap b) else 0
def restQ (cap : Int) (g : Cv) : Cv × Int :=
  if restF cap (normR g) (400 + (normR g).per.toNat) ≠ restF cap (normR g) 400 + gainL cap (normR g) then (zcv, 3)
  else madeR ⟨fvals (restF cap (normR g)) (400 + (normR g).per.toNat), (normR g).per, gainL cap (normR g)⟩
section
variable {cap : Int} {b : Cv}
end
/-! ### the line itself; what the walk of Rest keeps -/
def lineC (cap : Int) : Cv := ⟨[0], 1, cap⟩
def tailV (f : Nat → Int) (s t : Nat) : Int := if t ≤ s then -INF else tailF f s (t - 1 - s)
def mostV (f : Nat → Int) (s t : Nat) : Int := mostF f (min t s)
end Go.Proofs.YtmidibkljoaoiaaGreatDoor.M

/- Deficit round robin, plain: greater quanta and packets of others leave less. No condition. -/
namespace Go.Proofs.YtmidibkljoaoiaaGreatDoor.M
open Go Go.Proofs.YtmidibkljoaoiaaGreatDoor.K

end Go.Proofs.YtmidibkljoaoiaaGreatDoor.M

/- Priorities, plain: the curve of a class. No condition. -/
namespace Go.Proofs.YtmidibkljoaoiaaGreatDoor.M
open Go Go.Proofs.YtmidibkljoaoiaaGreatDoor.K

/-- what may block a class -/
def blkF (cls : Int) (z : List Sz) (i : Nat) : Int := (nth (z.drop (cls + 1).toNat) i).most - 1
def blkN (cls : Int) (z : List Sz) : Int := mostF (blkF cls z) (z.length - (cls + 1).toNat)
def allV (ls : List Cv) : Bool := ls.all fun c => validB c
def midC (tot : Cv × Int) (k : Int) : Cv × Int := if tot.2 = 0 then raiseC tot.1 k else tot
def prioC (cap cls : Int) (ls : List Cv) (z : List Sz) : Cv × Int :=
  if chk18 cap cls z ≠ 0 then (zcv, chk18 cap cls z)
  else if ls.length ≠ z.length then (zcv, 2)
  else if allV ls = false then (zcv, 1)
  else if (midC (totalC (ls.take cls.toNat)) (blkN cls z)).2 ≠ 0 then (zcv, (midC (totalC (ls.take cls.toNat)) (blkN cls z)).2)
  else restC cap (midC (totalC (ls.take cls.toNat)) (blkN cls z)).1
end Go.Proofs.YtmidibkljoaoiaaGreatDoor.M

/- Priorities, plain: the curve of a class is what it is served. No condition. -/
namespace Go.Proofs.YtmidibkljoaoiaaGreatDoor.M
open Go Go.Proofs.YtmidibkljoaoiaaGreatDoor.K

instance instCv : Inhabited Cv := ⟨zcv⟩
end Go.Proofs.YtmidibkljoaoiaaGreatDoor.M

/- Small curves that the statements make, plain. No condition. -/
namespace Go.Proofs.YtmidibkljoaoiaaGreatDoor.M
open Go Go.Proofs.YtmidibkljoaoiaaGreatDoor.K

/-- small -/
structure SmallC (c : Cv) : Prop where
  valid : validB c = true
  len : c.vals.length ≤ 40
  per : c.per ≤ 8
  inc : c.inc ≤ 1000
  vals : ∀ x ∈ c.vals, x = INF ∨ x ≤ 1000
/-- values that are made one by one -/
def upV (xs : List Int) (c : Nat) (v : Int) : Nat → Int
  | 0 => v
  | i + 1 => upV xs c v i + nth ([0, 0, 1, 2, 5, 9] : List Int) (mod (nth xs (c + i)) ((6 : Nat) : Int)).toNat
end Go.Proofs.YtmidibkljoaoiaaGreatDoor.M

/- Lists of named curves: what is written is read back, and what is read is written again. Plain. No condition. -/
namespace Go.Proofs.YtmidibkljoaoiaaGreatDoor.M
open Go Go.Proofs.YtmidibkljoaoiaaGreatDoor.K
def rowsF : List Nmd → List UInt8
  | [] => []
  | x :: r => rowF x ++ rowsF r
def GoodFrom : List Nmd → List Nmd → Prop
  | _, [] => True
  | pre, x :: r => isNameB x.1 = true ∧ (formatR x.2).2 = 0 ∧ hasN pre x.1 = false ∧ GoodFrom (pre ++ [x]) r
theorem wordV_len2 {v : Int} (h : v = INF ∨ (0 ≤ v ∧ v ≤ 1073741824)) : (wordV v).length ≤ 11 := by
 unfold wordV
 split
 ·decide
 ·rename_i e; have := h.resolve_left e; exact itoa_len (by omega)
theorem fmtVals_len2 : ∀ (xs : List Int), (∀ v ∈ xs, v = INF ∨ (0 ≤ v ∧ v ≤ 1073741824)) → (fmtVals xs).length ≤ 12 * xs.length
 | [], _ => Nat.le_refl 0
 | x :: xs, h => by
  have h1 := wordV_len2 (h x (by simp))
  have h2 := fmtVals_len2 xs (fun v hv => h v (by simp [hv]))
  rw [fmtVals, List.length_append, List.length_cons, List.length_cons]
  omega
theorem valid_vals2 {c : Cv} (hv : validB c = true) : ∀ v ∈ c.vals, v = INF ∨ (0 ≤ v ∧ v ≤ 1073741824) := fun v hv' => by
 obtain ⟨i, hi, rfl⟩ := List.getElem_of_mem hv'
 have := valid_each hv i hi
 rw [nth_eq hi] at this
 exact this
theorem fmt_ok {c : Cv} (h : (formatR c).2 = 0) : validB c = true ∧ (fmtC c).length ≤ 4000 ∧ (formatR c).1 = fmtC c := by
 unfold formatR at h ⊢
 by_cases h1 : validB c = false
 ·rw [if_pos h1] at h; cases h
 ·rw [if_neg h1] at h ⊢
  by_cases h2 : 4000 < (fmtC c).length
  ·rw [if_pos h2] at h; cases h
  ·rw [if_neg h2]
   exact ⟨by simpa using h1, by omega, rfl⟩
theorem wordV_ten {v : Int} (h : v = INF ∨ 0 ≤ v) : ∀ c ∈ wordV v, c ≠ 10 := by
 intro c hc e
 subst e
 unfold wordV at hc
 split at hc
 ·revert hc; decide
 ·rename_i e
  rw [itoa_pos (h.resolve_left e)] at hc
  have := dec_mem _ _ hc
  exact absurd this.1 (by decide)
theorem itoa_ten {v : Int} (h : 0 ≤ v) : ∀ c ∈ Lib.itoa v, c ≠ 10 := by
 intro c hc e
 subst e
 rw [itoa_pos h] at hc
 have := dec_mem _ _ hc
 exact absurd this.1 (by decide)
theorem vals_ten : ∀ (vs : List Int), (∀ v ∈ vs, v = INF ∨ 0 ≤ v) → ∀ c ∈ fmtVals vs, c ≠ 10
 | [], _, c, hc => by cases hc
 | v :: vs, h, c, hc => by
  unfold fmtVals at hc
  rcases List.mem_append.1 hc with hc | hc
  ·exact wordV_ten (h v (by simp)) c hc
  ·rcases List.mem_cons.1 hc with rfl | hc
   ·decide
   ·exact vals_ten vs (fun x hx => h x (by simp [hx])) c hc
theorem fmt_ten {c : Cv} (hv : validB c = true) : ∀ x ∈ fmtC c, x ≠ 10 := by
 obtain ⟨h1, h2, h3, h4, h5, h6, h7, h8⟩ := valid_range hv
 have hb : ∀ v ∈ c.vals, v = INF ∨ 0 ≤ v := fun v hv' => by
  obtain ⟨i, hi, rfl⟩ := List.getElem_of_mem hv'
  have := valid_each hv i hi
  rw [nth_eq hi] at this
  exact this.imp id And.left
 intro x hx
 unfold fmtC at hx
 simp only [List.mem_append, List.mem_cons] at hx
 rcases hx with hx | hx | rfl | hx | rfl | hx | rfl | hx
 ·exact vals_ten _ hb x hx
 ·intro e; subst e; revert hx; decide
 ·decide
 ·exact itoa_ten (by omega) x hx
 ·decide
 ·intro e; subst e; revert hx; decide
 ·decide
 ·exact itoa_ten (by omega) x hx
/-! ### the lists that the statements make -/
def nmK : List (List UInt8) := [[97], [98, 55], [114, 97, 116, 101], [97, 98, 99, 100, 101, 102, 103, 104, 105, 106, 107, 108], [122]]
theorem small_fmt {c : Cv} (h : SmallC c) : (formatR c).2 = 0 ∧ (formatR c).1.length ≤ 600 := by
 have hv := h.valid
 obtain ⟨_, _, _, h4, h5, h6, h7, h8⟩ := valid_range hv
 have h1 := fmtVals_len2 _ (valid_vals2 hv)
 have h2 := itoa_len (n := c.per) (by omega)
 have h9 := itoa_len (n := c.inc) (by omega)
 have hl := h.len
 have e : (fmtC c).length ≤ 600 := by
  unfold fmtC
  simp only [List.length_append, List.length_cons, show wPer.length = 3 from rfl, show wInc.length = 3 from rfl]
  omega
 unfold formatR
 rw [if_neg (by rw [hv]; decide), if_neg (by omega)]
 exact ⟨rfl, e⟩
/-- a list with the first names -/
structure KList (l : List Nmd) : Prop where
  len : l.length ≤ 4
  nm : ∀ i, i < l.length → (nth l i).1 = nth nmK i
  cv : ∀ x ∈ l, SmallC x.2
theorem KList.nil : KList [] := ⟨by decide, fun i h => absurd h (Nat.not_lt_zero i), fun x h => (by cases h)⟩
theorem nmK_ok : ∀ i, i < 4 → isNameB (nth nmK i) = true ∧ ∀ j, j < i → nth nmK j ≠ nth nmK i := by decide
theorem KList.good {l : List Nmd} (h : KList l) : GoodFrom [] l := by
 have key : ∀ (r pre : List Nmd), pre ++ r = l → GoodFrom pre r := by
  intro r
  induction r with
  | nil => intro pre _; trivial
  | cons x r ih =>
   intro pre e
   have hll : l.length = pre.length + (r.length + 1) := by rw [← e, List.length_append]; rfl
   have hx : nth l pre.length = x := by
    rw [nth_eq (by omega)]
    simp only [← e, List.getElem_append_right (Nat.le_refl _), Nat.sub_self, List.getElem_cons_zero]
   have hn := h.nm pre.length (by omega)
   rw [hx] at hn
   have hk := nmK_ok pre.length (by have := h.len; omega)
   refine ⟨by rw [hn]; exact hk.1, (small_fmt (h.cv x (by rw [← e]; simp))).1, ?_, ih (pre ++ [x]) (by rw [← e, List.append_assoc]; rfl)⟩
   unfold hasN
   rw [List.any_eq_false]
   intro y hy hh
   obtain ⟨j, hj, rfl⟩ := List.getElem_of_mem hy
   have h1 := h.nm j (by omega)
   have h2 : nth l j = pre[j] := by
    rw [nth_eq (by omega)]
    simp only [← e, List.getElem_append_left hj]
   rw [h2] at h1
   exact hk.2 j hj (by rw [← h1, ← hn]; exact of_decide_eq_true hh)
 exact key l [] rfl
theorem KList.rows {l : List Nmd} (h : KList l) : (rowsF l).length ≤ 4000 := by
 have key : ∀ r : List Nmd, (∀ x ∈ r, isNameB x.1 = true ∧ SmallC x.2) → (rowsF r).length ≤ 700 * r.length := by
  intro r
  induction r with
  | nil => intro _; exact Nat.le_refl 0
  | cons x r ih =>
   intro hx
   have h1 := ih (fun y hy => hx y (by simp [hy]))
   obtain ⟨h2, h3⟩ := hx x (by simp)
   have h4 := (name_mem h2).2.1
   have h5 := (small_fmt h3).2
   rw [rowsF, List.length_append, List.length_cons]
   unfold rowF
   simp only [List.length_append, List.length_cons, List.length_nil]
   omega
 have := key l (fun x hx => ⟨by
  obtain ⟨i, hi, rfl⟩ := List.getElem_of_mem hx
  have h1 := h.nm i hi
  rw [nth_eq hi] at h1
  rw [h1]
  exact (nmK_ok i (by have := h.len; omega)).1, h.cv x hx⟩)
 have := h.len
 omega
end Go.Proofs.YtmidibkljoaoiaaGreatDoor.M

/- What keep draws as a network is right, and is read back from its text. Plain. No condition. -/
namespace Go.Proofs.YtmidibkljoaoiaaGreatDoor.M
open Go Go.Proofs.YtmidibkljoaoiaaGreatDoor.K
theorem splC_rest (d : UInt8) (r : List UInt8) : ∀ ws : List (List UInt8), (∀ x ∈ ws, ∀ c ∈ x, c ≠ d) → splC d (Lib.join (ws ++ [r]) [d]) = ws ++ splC d r
 | [], _ => by rw [List.nil_append, List.nil_append, show Lib.join [r] [d] = r by simp [Lib.join, List.intercalate]]
 | [x], h => by
  rw [show ([x] ++ [r] : List (List UInt8)) = x :: r :: [] from rfl, join_cons, show Lib.join [r] [d] = r by simp [Lib.join, List.intercalate], List.append_assoc]
  exact (splC_word x r (h x (by simp))).1
 | x :: y :: ws, h => by
  have ih := splC_rest d r (y :: ws) (fun z hz => h z (by simp [hz]))
  rw [show (x :: y :: ws) ++ [r] = x :: y :: (ws ++ [r]) from rfl, join_cons, List.append_assoc]
  show splC d (x ++ d :: Lib.join (y :: (ws ++ [r])) [d]) = _
  rw [(splC_word x _ (h x (by simp))).1]
  rw [show (y :: (ws ++ [r])) = (y :: ws) ++ [r] from rfl, ih]
  rfl
theorem word_no62 {s : List UInt8} (h : wordB s = true) : ∀ c ∈ s, c ≠ 62 := fun c hc => by
 obtain ⟨i, hi, rfl⟩ := List.getElem_of_mem hc
 have h4 := (of_decide_eq_true h).2.2.2 i hi
 have eb : byteAt s i = ((s[i]).toNat : Int) := by unfold byteAt List.getD; rw [List.getElem?_eq_getElem hi]; rfl
 unfold wordOk at h4
 rw [eb] at h4
 intro e; rw [e] at h4; exact absurd h4 (by decide)
section
variable {names : List (List UInt8)} {Ls : List Ln} {f : Fl}
theorem way_mem (hr : FlRight Ls f) (hnl : names.length = Ls.length) : ∀ x ∈ wayL names f.route, x ∈ names := fun x hx => by
 obtain ⟨l, hl, rfl⟩ := List.mem_map.1 hx
 have := (hr.route l hl).1
 exact nth_mem (by omega)
theorem six_no (hr : FlRight Ls f) (hnl : names.length = Ls.length) (hw : ∀ x ∈ names, wordB x = true) : ∀ x ∈ [wFlow, f.name, Lib.decDigits f.cls.toNat, Lib.decDigits f.lo.toNat, Lib.decDigits f.hi.toNat, Lib.join (wayL names f.route) [62]], ∀ c ∈ x, c ≠ 32 ∧ c ≠ 10 := by
 intro x hx
 simp only [List.mem_cons, List.not_mem_nil, or_false] at hx
 rcases hx with rfl | rfl | rfl | rfl | rfl | rfl
 ·decide
 ·exact word_no hr.word
 ·exact dec_no2 _
 ·exact dec_no2 _
 ·exact dec_no2 _
 ·exact join_no (by decide) _ (fun x hx => word_no (hw x (way_mem hr hnl x hx)))
theorem fl_words (hr : FlRight Ls f) (hnl : names.length = Ls.length) (hw : ∀ x ∈ names, wordB x = true) : w7 (Lib.join (flWords names f) [32]) = flWords names f ∧ lineO (Lib.join (flWords names f) [32]) = false := by
 have hs := splC_rest 32 (formatR f.cv).1 _ (fun x hx c hc => (six_no hr hnl hw x hx c hc).1)
 have e : splC 32 (Lib.join (flWords names f) [32]) = [wFlow, f.name, Lib.decDigits f.cls.toNat, Lib.decDigits f.lo.toNat, Lib.decDigits f.hi.toNat, Lib.join (wayL names f.route) [62]] ++ splC 32 (formatR f.cv).1 := hs
 refine ⟨?_, ?_⟩
 ·unfold w7
  rw [e]
  unfold spN
  have hne : 1 ≤ (splC 32 (formatR f.cv).1).length := by
   cases h : splC 32 (formatR f.cv).1 with
   | nil => exact absurd h (splC_ne 32 _)
   | cons x xs => rw [List.length_cons]; omega
  rw [if_pos (by rw [List.length_append]; show 7 ≤ 6 + _; omega), List.take_left' (by rfl), List.drop_left' (by rfl), join_splC 32 _ _ (Nat.le_refl _)]
  rfl
 ·unfold lineO
  rw [e]
  rfl
theorem idx_nth (hd : names.Nodup) {i : Nat} (hi : i < names.length) : idxN names (nth names i) = i := (idx_at (fun j hj he => by
 have hjl : j < names.length := Nat.lt_trans hj hi
 rw [nth_eq hjl, nth_eq hi] at he
 exact (List.pairwise_iff_getElem.1 hd j i hjl hi hj) he) hi rfl).1
theorem way_read (hr : FlRight Ls f) (hnl : names.length = Ls.length) (hw : ∀ x ∈ names, wordB x = true) (hd : names.Nodup) : wayO names (Lib.join (wayL names f.route) [62]) = true ∧ wayV names (Lib.join (wayL names f.route) [62]) = f.route := by
 have hl := hr.len
 have e : splC 62 (Lib.join (wayL names f.route) [62]) = wayL names f.route := splC_join 62 _ (fun h => by have := List.map_eq_nil_iff.1 h; rw [this] at hl; simp at hl) (fun x hx => word_no62 (hw x (way_mem hr hnl x hx)))
 unfold wayO wayV
 rw [e]
 refine ⟨List.all_eq_true.2 fun x hx => decide_eq_true (way_mem hr hnl x hx), ?_⟩
 unfold wayL
 rw [List.map_map]
 refine (List.map_congr_left (fun l hl => ?_)).trans (List.map_id' f.route)
 have h1 := (hr.route l hl).1
 show ((idxN names (nth names l.toNat) : Nat) : Int) = l
 rw [idx_nth hd (by omega)]
 omega
/-- a flow is read back from its text -/
theorem flow_read (hr : FlRight Ls f) (hnl : names.length = Ls.length) (hw : ∀ x ∈ names, wordB x = true) (hd : names.Nodup) (hc : f.cls < 1000000000) (hf : (formatR f.cv).2 = 0) :
  flO names (Lib.join (flWords names f) [32]) = true ∧ flV names (Lib.join (flWords names f) [32]) = f := by
 obtain ⟨h1, _⟩ := fl_words hr hnl hw
 obtain ⟨g1, g2⟩ := way_read hr hnl hw hd
 have hs := hr.sizes
 have hcl := hr.cls
 obtain ⟨a1, a2⟩ := num9_dec (u := f.cls.toNat) (by omega)
 obtain ⟨b1, b2⟩ := num9_dec (u := f.lo.toNat) (by omega)
 obtain ⟨c1, c2⟩ := num9_dec (u := f.hi.toNat) (by omega)
 obtain ⟨k1, k2, k3⟩ := fmt_ok hf
 have hp := parse_fmt k1 k2
 rw [← k3] at hp
 have e1 : nth (flWords names f) 1 = f.name := rfl
 have e2 : nth (flWords names f) 2 = Lib.decDigits f.cls.toNat := rfl
 have e3 : nth (flWords names f) 3 = Lib.decDigits f.lo.toNat := rfl
 have e4 : nth (flWords names f) 4 = Lib.decDigits f.hi.toNat := rfl
 have e5 : nth (flWords names f) 5 = Lib.join (wayL names f.route) [62] := rfl
 have e6 : nth (flWords names f) 6 = (formatR f.cv).1 := rfl
 refine ⟨?_, ?_⟩
 ·unfold flO
  rw [h1, e1, e2, e3, e4, e5, e6, hr.word, a1, b1, c1, g1, hp]
  rfl
 ·unfold flV
  rw [h1, e1, e2, e3, e4, e5, e6, g2, a2, b2, c2, hp]
  have q1 : ((f.cls.toNat : Nat) : Int) = f.cls := by omega
  have q2 : ((f.lo.toNat : Nat) : Int) = f.lo := by omega
  have q3 : ((f.hi.toNat : Nat) : Int) = f.hi := by omega
  rw [q1, q2, q3]
theorem fl_no10 (hr : FlRight Ls f) (hnl : names.length = Ls.length) (hw : ∀ x ∈ names, wordB x = true) (hf : (formatR f.cv).2 = 0) : ∀ c ∈ Lib.join (flWords names f) [32], c ≠ 10 := by
 obtain ⟨k1, k2, k3⟩ := fmt_ok hf
 refine join_no (by decide) _ (fun x hx c hc => ?_)
 have hx' : x ∈ [wFlow, f.name, Lib.decDigits f.cls.toNat, Lib.decDigits f.lo.toNat, Lib.decDigits f.hi.toNat, Lib.join (wayL names f.route) [62]] ++ [(formatR f.cv).1] := hx
 rcases List.mem_append.1 hx' with h | h
 ·exact (six_no hr hnl hw x h c hc).2
 ·rw [List.mem_singleton.1 h, k3] at hc
  exact fmt_ten k1 c hc
end
theorem fmtVals_len {k : Nat} : ∀ vs : List Int, (∀ v ∈ vs, (wordV v).length ≤ k) → (fmtVals vs).length ≤ (k + 1) * vs.length
 | [], _ => Nat.le_refl 0
 | v :: r, h => by
  have h1 := h v (by simp)
  have h2 := fmtVals_len r (fun x hx => h x (by simp [hx]))
  rw [fmtVals, List.length_append, List.length_cons, List.length_cons, Nat.mul_succ]
  omega
theorem stair_fmt {c : Cv} (h : StairP c) : (formatR c).2 = 0 ∧ (formatR c).1.length ≤ 250 := by
 obtain ⟨hv, _, _, hl⟩ := stair_valid h
 have h1 := fmtVals_len (k := 11) c.vals (fun v hv' => wordV_len2 (valid_vals2 hv v hv'))
 have hf := (validB_iff.1 hv).1
 have hM : MAXV = 1073741824 := rfl
 have d1 : (Lib.itoa c.per).length ≤ 9 := by rw [itoa_pos (by omega)]; exact decD_le 9 _ (by decide) (by omega)
 have d2 : (Lib.itoa c.inc).length ≤ 10 := by rw [itoa_pos (by omega)]; exact decD_le 10 _ (by decide) (by omega)
 have hlen : (fmtC c).length ≤ 250 := by
  have e : (fmtC c).length = (fmtVals c.vals).length + (3 + (1 + ((Lib.itoa c.per).length + (1 + (3 + (1 + (Lib.itoa c.inc).length)))))) := by
   unfold fmtC
   simp only [List.length_append, List.length_cons]
   show _ + (3 + (_ + (3 + _ + 1) + 1)) = _
   omega
  omega
 unfold formatR
 rw [if_neg (by rw [hv]; decide), if_neg (by omega)]
 exact ⟨rfl, hlen⟩
theorem routeGo_ok {ls : List Ln} {cl : Int} : ∀ (r met : List Int), (∀ l ∈ r, (0 ≤ l ∧ l < ls.length) ∧ l ∉ met ∧ 0 ≤ cl ∧ cl < (nth ls l.toNat).n) → r.Nodup → routeGo ls cl met r = 0
 | [], _, _, _ => rfl
 | x :: r, met, h, hd => by
  obtain ⟨h1, h2, h3⟩ := h x (by simp)
  rw [routeGo, if_neg (by omega), if_neg h2, if_neg (by omega)]
  refine routeGo_ok r _ (fun l hl => ?_) (List.nodup_cons.1 hd).2
  obtain ⟨g1, g2, g3⟩ := h l (by simp [hl])
  refine ⟨g1, fun hm => ?_, g3⟩
  rcases List.mem_append.1 hm with hm | hm
  ·exact g2 hm
  ·rw [List.mem_singleton.1 hm] at hl; exact (List.nodup_cons.1 hd).1 hl
/-- a flow that is drawn is right -/
theorem DrawF.flE {k m : Nat} {f : Fl} {Ls : List Ln} {met : List (List UInt8)} (h : DrawF k m f) (hm : Ls.length = m) (hk : ∀ L ∈ Ls, L.n = (k : Int)) (hw : wordB f.name = true) (hn : f.name ∉ met) : flE met Ls f = 0 ∧ FlRight Ls f := by
 have hl := h.len
 have hs := h.sizes
 have hc := h.cls
 obtain ⟨v1, v2, v3, _⟩ := stair_valid h.cv
 have hf : frE met f.name = 0 := by unfold frE; rw [if_neg (by rw [hw]; decide), if_neg hn]
 have hr : routeE Ls f = 0 := by
  unfold routeE
  rw [if_neg (by omega), if_neg (by omega)]
  refine routeGo_ok _ _ (fun l hl => ?_) h.nodup
  have hlr := h.route l hl
  have hll : l.toNat < Ls.length := by omega
  exact ⟨by omega, by simp, hc.1, by rw [hk _ (nth_mem hll)]; exact hc.2⟩
 have ht : trafE f = 0 := by unfold trafE; rw [if_neg (by omega), if_neg (by rw [v1]; decide), if_neg (fun hh => hh v2), if_neg (by rw [v3]; decide)]
 have he : M.flE met Ls f = 0 := by unfold M.flE; rw [if_neg (fun hh => hh hf), if_neg (fun hh => hh hr), ht]
 exact ⟨he, (flE_zero he).1⟩
end Go.Proofs.YtmidibkljoaoiaaGreatDoor.M

/- The text of a network that keep draws: it is read back; a row that is none is told by its number. Plain. No condition. -/
namespace Go.Proofs.YtmidibkljoaoiaaGreatDoor.M
open Go Go.Proofs.YtmidibkljoaoiaaGreatDoor.K
theorem splC_rows : ∀ (A : List (List UInt8)) (x : List UInt8), (∀ r ∈ A, ∀ c ∈ r, c ≠ 10) → splC 10 (rowsT A ++ x) = A ++ splC 10 x
 | [], x, _ => rfl
 | r :: A, x, h => by
  have ih := splC_rows A x (fun z hz => h z (by simp [hz]))
  have e : rowsT (r :: A) ++ x = r ++ 10 :: (rowsT A ++ x) := by unfold rowsT; rw [List.map_cons, List.flatten_cons, List.append_assoc, List.append_assoc]; rfl
  rw [e, (splC_word r _ (h r (by simp))).1, ih]
  rfl
theorem par_pre {st : Nat → Nt} : ∀ (pre rest : List (List UInt8)) (k : Nat), rest ≠ [] → (∀ j, j < pre.length → takeS (st (k + j)) (nth pre j) = some (st (k + j + 1))) → parGo (st k) k (pre ++ rest) = parGo (st (k + pre.length)) (k + pre.length) rest
 | [], rest, k, _, _ => rfl
 | x :: pre, rest, k, hr, h => by
  have h0 := h 0 (by rw [List.length_cons]; omega)
  have e0 : nth (x :: pre) 0 = x := rfl
  rw [e0] at h0
  have ih := par_pre pre rest (k + 1) hr (fun j hj => by
   have := h (j + 1) (by rw [List.length_cons]; omega)
   rw [show nth (x :: pre) (j + 1) = nth pre j from rfl] at this
   rw [show k + 1 + j = k + (j + 1) by omega]
   exact this)
  cases hp : pre ++ rest with
  | nil => exact absurd (List.append_eq_nil_iff.1 hp).2 hr
  | cons y r =>
   rw [List.cons_append, hp, parGo, show st k = st (k + 0) from rfl, h0]
   show parGo (st (k + 0 + 1)) (k + 1) (y :: r) = _
   rw [← hp, show k + 0 + 1 = k + 1 by omega, ih, List.length_cons, show k + 1 + pre.length = k + (pre.length + 1) by omega]
def wFlows : List UInt8 := [102, 108, 111, 119, 115]
structure DrawN (k : Nat) (ms : List LnM) (fs : List FlM) : Prop where
  hk : k = 1 ∨ k = 2
  hm : 1 ≤ ms.length ∧ ms.length ≤ 4
  hf4 : fs.length ≤ 4
  hl : ∀ m ∈ ms, DrawP k m.L
  hf : ∀ x ∈ fs, DrawF k ms.length x.f
  hn : fs.map FlM.nm = nf5.take fs.length
def nmsN (ms : List LnM) : List (List UInt8) := nm4.take ms.length
def rwN (ms : List LnM) (fs : List FlM) : List (List UInt8) := ((nmsN ms).zip (ms.map (·.L))).map rowX ++ (fs.map (·.f)).map (fmtF (nmsN ms) (ms.map (·.L)))
def stW (ms : List LnM) (fs : List FlM) (j : Nat) : Nt := ((nmsN ms).take j, (ms.map (·.L)).take j, (fs.map (·.f)).take (j - ms.length))
theorem nf5_word : ∀ x ∈ nf5, wordB x = true := by
 intro x hx
 simp only [nf5, List.mem_cons, List.not_mem_nil, or_false] at hx
 rcases hx with rfl | rfl | rfl | rfl | rfl <;> kernel_rfl
theorem chkFs_ok {ls : List Ln} : ∀ (Fs : List Fl) (met : List (List UInt8)), (∀ f ∈ Fs, ∀ met', f.name ∉ met' → flE met' ls f = 0) → (met ++ Fs.map (·.name)).Nodup → chkFs ls met Fs = 0
 | [], _, _, _ => rfl
 | f :: r, met, h, hd => by
  have hn : f.name ∉ met := fun hm => by
   rw [List.nodup_append] at hd
   exact hd.2.2 _ hm _ (by simp) rfl
  have h0 := h f (by simp) met hn
  rw [chkFs, if_neg (fun e => e h0)]
  exact chkFs_ok r _ (fun g hg => h g (by simp [hg])) (by rw [List.append_assoc]; exact hd)
section
variable {k : Nat} {ms : List LnM} {fs : List FlM}
theorem DrawN.facts (h : DrawN k ms fs) : (nmsN ms).length = ms.length ∧ (ms.map (·.L)).length = ms.length ∧ (fs.map (·.f)).length = fs.length ∧ (∀ x ∈ nmsN ms, wordB x = true ∧ x.length ≤ 1) ∧ (nmsN ms).Nodup ∧ (∀ L ∈ ms.map (·.L), L.n = (k : Int) ∧ DrawP k L) ∧ (∀ f ∈ fs.map (·.f), DrawF k ms.length f ∧ wordB f.name = true) ∧ ((fs.map (·.f)).map (·.name)).Nodup := by
 have hm := h.hm
 have e : (fs.map (·.f)).map (·.name) = nf5.take fs.length := by rw [List.map_map]; exact h.hn
 refine ⟨by unfold nmsN; rw [List.length_take]; show min _ 4 = _; omega, List.length_map .., List.length_map .., fun x hx => ⟨(nm4_len hx).2, (nm4_len hx).1⟩, (show nm4.Nodup by decide).sublist (List.take_sublist _ _), fun L hL => ?_, fun f hf => ?_, by rw [e]; exact (show nf5.Nodup by decide).sublist (List.take_sublist _ _)⟩
 ·obtain ⟨m, hm, rfl⟩ := List.mem_map.1 hL
  exact ⟨(h.hl m hm).n, h.hl m hm⟩
 ·obtain ⟨x, hx, rfl⟩ := List.mem_map.1 hf
  refine ⟨h.hf x hx, nf5_word _ (List.mem_of_mem_take (i := fs.length) ?_)⟩
  rw [← e]
  exact List.mem_map_of_mem (List.mem_map_of_mem hx)
theorem DrawN.right (h : DrawN k ms fs) : ∀ f ∈ fs.map (·.f), FlRight (ms.map (·.L)) f ∧ (∀ met, f.name ∉ met → flE met (ms.map (·.L)) f = 0) := fun f hf => by
 obtain ⟨_, h2, _, _, _, h6, h7, _⟩ := h.facts
 obtain ⟨g1, g2⟩ := h7 f hf
 exact ⟨(g1.flE (met := []) h2 (fun L hL => (h6 L hL).1) g2 (by simp)).2, fun met hn => (g1.flE h2 (fun L hL => (h6 L hL).1) g2 hn).1⟩
theorem DrawN.lines (h : DrawN k ms fs) : chkLs [] ((nmsN ms).zip (ms.map (·.L))) = 0 ∧ ∀ x ∈ (nmsN ms).zip (ms.map (·.L)), fmtE x.1 x.2 = 0 ∧ (∀ c ∈ rowX x, c ≠ 10) ∧ lineO (rowX x) = true ∧ (rowX x).length ≤ 300 ∧ nmR (rowX x) = x.1 ∧ vlR (rowX x) = x.2 := by
 obtain ⟨h1, h2, _, h4, h5, h6, _, _⟩ := h.facts
 have hz : ∀ x ∈ (nmsN ms).zip (ms.map (·.L)), x.1 ∈ nmsN ms ∧ DrawP k x.2 := fun x hx => by
  have h1 := List.of_mem_zip (a := x.1) (b := x.2) hx
  exact ⟨h1.1, (h6 _ h1.2).2⟩
 refine ⟨chkLs_ok _ _ (fun x hx => ⟨(h4 _ (hz x hx).1).1, ((hz x hx).2.chk h.hk).1⟩) ?_, fun x hx => draw_row h.hk (hz x hx).2 (hz x hx).1⟩
 rw [List.nil_append, List.map_fst_zip (by omega)]
 exact h5
theorem DrawN.chk (h : DrawN k ms fs) : chkNet (nmsN ms) (ms.map (·.L)) (fs.map (·.f)) = 0 := by
 obtain ⟨h1, h2, h3, _, _, _, _, h8⟩ := h.facts
 have hm := h.hm
 have hf := h.hf4
 unfold chkNet
 rw [h2, h3, h1, if_neg (by omega), if_neg (fun hh => hh rfl), if_neg (fun hh => hh h.lines.1)]
 exact chkFs_ok _ _ (fun f hf met hn => (h.right f hf).2 met hn) h8
theorem DrawN.flow (h : DrawN k ms fs) : ∀ f ∈ fs.map (·.f), fmtFE (nmsN ms) (ms.map (·.L)) f = 0 ∧ fmtF (nmsN ms) (ms.map (·.L)) f = Lib.join (flWords (nmsN ms) f) [32] ∧ (fmtF (nmsN ms) (ms.map (·.L)) f).length ≤ 400 := fun f hf => by
 obtain ⟨h1, h2, _, h4, _, h6, h7, _⟩ := h.facts
 have hm := h.hm
 obtain ⟨hr, hfe⟩ := h.right f hf
 obtain ⟨g1, g2⟩ := h7 f hf
 obtain ⟨s1, s2⟩ := stair_fmt g1.cv
 have hc : chkNet (nmsN ms) (ms.map (·.L)) [f] = 0 := by
  unfold chkNet
  rw [h2, h1, if_neg (by show ¬ (_ ∨ _ ∨ 10 < 1); omega), if_neg (fun hh => hh rfl), if_neg (fun hh => hh h.lines.1)]
  rw [chkFs, if_neg (fun hh => hh (hfe [] (by simp)))]; rfl
 have he : fmtFE (nmsN ms) (ms.map (·.L)) f = 0 := by unfold fmtFE; rw [if_neg (fun hh => hh hc)]; exact s1
 refine ⟨he, by unfold fmtF; rw [if_pos he], ?_⟩
 unfold fmtF
 rw [if_pos he]
 have hn12 : f.name.length ≤ 12 := (of_decide_eq_true g2).2.1
 have hwy := way_le (names := nmsN ms) (fun x hx => ⟨by have := (h4 x hx).2; omega, (h4 x hx).1⟩) hr
 have hsz := g1.sizes
 have hcl := g1.cls
 have hk := h.hk
 have d1 : (Lib.decDigits f.cls.toNat).length ≤ 1 := decD_le 1 _ (by decide) (by omega)
 have d2 : (Lib.decDigits f.lo.toNat).length ≤ 1 := decD_le 1 _ (by decide) (by omega)
 have d3 : (Lib.decDigits f.hi.toNat).length ≤ 1 := decD_le 1 _ (by decide) (by omega)
 have e : Lib.join (flWords (nmsN ms) f) [32] = wFlow ++ [32] ++ (f.name ++ [32] ++ (Lib.decDigits f.cls.toNat ++ [32] ++ (Lib.decDigits f.lo.toNat ++ [32] ++ (Lib.decDigits f.hi.toNat ++ [32] ++ (Lib.join (wayL (nmsN ms) f.route) [62] ++ [32] ++ (formatR f.cv).1))))) := by
  unfold flWords
  rw [join_cons, join_cons, join_cons, join_cons, join_cons, join_cons, show Lib.join [(formatR f.cv).1] [32] = (formatR f.cv).1 by simp [Lib.join, List.intercalate]]
 rw [e]
 simp only [List.length_append, List.length_cons, List.length_nil]
 have : wFlow.length = 4 := rfl
 omega
theorem DrawN.rows (h : DrawN k ms fs) : (rwN ms fs).length = ms.length + fs.length ∧ (∀ x ∈ rwN ms fs, (∀ c ∈ x, c ≠ 10) ∧ x ≠ [] ∧ x.length ≤ 400) ∧ (rowsT (rwN ms fs)).length ≤ 3300 ∧ textN (nmsN ms) (ms.map (·.L)) (fs.map (·.f)) = rowsT (rwN ms fs) := by
 obtain ⟨h1, h2, h3, h4, _, _, h7, _⟩ := h.facts
 have hm := h.hm
 have hf4 := h.hf4
 have hlen : (rwN ms fs).length = ms.length + fs.length := by unfold rwN; rw [List.length_append, List.length_map, List.length_zip, h1, h2, List.length_map, h3]; omega
 have hw : ∀ x ∈ nmsN ms, wordB x = true := fun x hx => (h4 x hx).1
 have hr : ∀ x ∈ rwN ms fs, (∀ c ∈ x, c ≠ 10) ∧ x ≠ [] ∧ x.length ≤ 400 := fun x hx => by
  unfold rwN at hx
  rcases List.mem_append.1 hx with hx | hx
  ·obtain ⟨y, hy, rfl⟩ := List.mem_map.1 hx
   obtain ⟨_, g2, g3, g4, _⟩ := h.lines.2 y hy
   exact ⟨g2, fun e => (by rw [e] at g3; exact absurd g3 (by decide)), by omega⟩
  ·obtain ⟨f, hf, rfl⟩ := List.mem_map.1 hx
   obtain ⟨g1, g2, g3⟩ := h.flow f hf
   obtain ⟨hrt, _⟩ := h.right f hf
   obtain ⟨s1, _⟩ := stair_fmt (h7 f hf).1.cv
   refine ⟨?_, ?_, g3⟩
   ·rw [g2]; exact fl_no10 hrt (by omega) hw s1
   ·rw [g2]; unfold flWords; rw [join_cons]; intro e; have := congrArg List.length e; simp only [List.length_append, List.length_cons, List.length_nil] at this; omega
 refine ⟨hlen, hr, ?_, ?_⟩
 ·have := rowsT_len (k := 400) (fun x hx => (hr x hx).2.2)
  rw [hlen] at this
  omega
 ·unfold textN rwN rowsT
  rw [List.map_append, List.flatten_append]
theorem DrawN.fmt (h : DrawN k ms fs) : fmtN (nmsN ms) (ms.map (·.L)) (fs.map (·.f)) = (rowsT (rwN ms fs), 0) := by
 obtain ⟨_, _, hl, ht⟩ := h.rows
 have he : ∀ xs : List (List UInt8 × Ln), (∀ x ∈ xs, fmtE x.1 x.2 = 0) → fmtErr xs = 0 := by
  intro xs
  induction xs with
  | nil => intro _; rfl
  | cons x r ih => intro hx; rw [fmtErr, if_neg (fun hh => hh (hx x (by simp)))]; exact ih (fun y hy => hx y (by simp [hy]))
 have hf : ∀ Fs : List Fl, (∀ f ∈ Fs, fmtFE (nmsN ms) (ms.map (·.L)) f = 0) → flErr (nmsN ms) (ms.map (·.L)) Fs = 0 := by
  intro Fs
  induction Fs with
  | nil => intro _; rfl
  | cons x r ih => intro hx; rw [flErr, if_neg (fun hh => hh (hx x (by simp)))]; exact ih (fun y hy => hx y (by simp [hy]))
 unfold fmtN
 rw [if_neg (fun hh => hh h.chk), if_neg (fun hh => hh (he _ (fun x hx => (h.lines.2 x hx).1))), if_neg (fun hh => hh (hf _ (fun f hf => (h.flow f hf).1))), ht, if_neg (by omega)]
/-- row for row -/
theorem DrawN.step (h : DrawN k ms fs) : ∀ j, j < (rwN ms fs).length → takeS (stW ms fs j) (nth (rwN ms fs) j) = some (stW ms fs (j + 1)) := fun j hj => by
 obtain ⟨h1, h2, h3, h4, h5, h6, h7, _⟩ := h.facts
 obtain ⟨hlen, _⟩ := h.rows
 have hw : ∀ x ∈ nmsN ms, wordB x = true := fun x hx => (h4 x hx).1
 have hzl : (((nmsN ms).zip (ms.map (·.L))).map rowX).length = ms.length := by rw [List.length_map, List.length_zip, h1, h2]; omega
 rw [hlen] at hj
 by_cases hjm : j < ms.length
 ·have hz : j < ((nmsN ms).zip (ms.map (·.L))).length := by rw [List.length_zip]; omega
  have en : nth (rwN ms fs) j = rowX (nth (nmsN ms) j, nth (ms.map (·.L)) j) := by
   unfold rwN
   rw [nth_eq (by rw [List.length_append]; omega), List.getElem_append_left (by omega), List.getElem_map, List.getElem_zip, nth_eq (by omega), nth_eq (by omega)]
  have hx : (nth (nmsN ms) j, nth (ms.map (·.L)) j) ∈ (nmsN ms).zip (ms.map (·.L)) := by
   have := List.getElem_mem hz
   rw [List.getElem_zip] at this
   rw [nth_eq (by omega), nth_eq (by omega)]; exact this
  obtain ⟨_, _, g3, _, g5, g6⟩ := h.lines.2 _ hx
  rw [en]
  unfold takeS stW
  rw [show j - ms.length = 0 by omega, show j + 1 - ms.length = 0 by omega, List.take_zero, if_pos ⟨g3, rfl⟩, g5, g6]
  rw [take_nth (by omega), take_nth (by omega)]
 ·obtain ⟨q, rfl⟩ : ∃ q, j = ms.length + q := ⟨j - ms.length, by omega⟩
  have hq : q < (fs.map (·.f)).length := by omega
  have en : nth (rwN ms fs) (ms.length + q) = fmtF (nmsN ms) (ms.map (·.L)) (nth (fs.map (·.f)) q) := by
   unfold rwN
   rw [nth_eq (by rw [List.length_append, hzl, List.length_map]; omega), List.getElem_append_right (by omega), List.getElem_map, nth_eq hq]
   congr 2
   omega
  have hf := nth_mem hq
  obtain ⟨_, g2, _⟩ := h.flow _ hf
  obtain ⟨hrt, _⟩ := h.right _ hf
  obtain ⟨g7, _⟩ := h7 _ hf
  obtain ⟨s1, _⟩ := stair_fmt g7.cv
  obtain ⟨r1, r2⟩ := flow_read hrt (by omega) hw h5 (by have := g7.cls; have := h.hk; omega) s1
  obtain ⟨_, w2⟩ := fl_words hrt (by omega) hw
  rw [en, g2]
  unfold takeS stW
  have t1 : (nmsN ms).take (ms.length + q) = nmsN ms := List.take_of_length_le (by omega)
  have t2 : (ms.map (·.L)).take (ms.length + q) = ms.map (·.L) := List.take_of_length_le (by omega)
  have t3 : (nmsN ms).take (ms.length + q + 1) = nmsN ms := List.take_of_length_le (by omega)
  have t4 : (ms.map (·.L)).take (ms.length + q + 1) = ms.map (·.L) := List.take_of_length_le (by omega)
  rw [t1, t2, t3, t4, show ms.length + q - ms.length = q by omega, show ms.length + q + 1 - ms.length = q + 1 by omega, if_neg (fun hh => by rw [w2] at hh; exact absurd hh.1 (by decide)), if_pos r1, r2, take_nth hq]
theorem DrawN.st0 : stW ms fs 0 = zNt := by unfold stW; rw [List.take_zero, List.take_zero, Nat.zero_sub, List.take_zero]; rfl
/-- the text is read back -/
theorem DrawN.back (h : DrawN k ms fs) : parN (rowsT (rwN ms fs)) = ((nmsN ms, ms.map (·.L), fs.map (·.f)), 0, 0) := by
 obtain ⟨h1, h2, h3, _⟩ := h.facts
 obtain ⟨hlen, hr, hl, _⟩ := h.rows
 have hs := splC_rows (rwN ms fs) [] (fun r hr' => (hr r hr').1)
 rw [List.append_nil, show splC 10 ([] : List UInt8) = [[]] from rfl] at hs
 have hp := par_pre (st := stW ms fs) (rwN ms fs) [[]] 0 (by simp) (fun j hj => by rw [Nat.zero_add]; exact h.step j hj)
 rw [DrawN.st0, Nat.zero_add, hlen] at hp
 have he : stW ms fs (ms.length + fs.length) = (nmsN ms, ms.map (·.L), fs.map (·.f)) := by
  unfold stW
  rw [List.take_of_length_le (by omega), List.take_of_length_le (by omega), List.take_of_length_le (by omega)]
 rw [he, parGo, if_pos rfl] at hp
 have hc : chkN (nmsN ms, ms.map (·.L), fs.map (·.f)) = 0 := h.chk
 unfold parN
 rw [if_neg (by omega), hs, hp, if_neg (fun hh => hh rfl), if_neg (fun hh => hh hc)]
end
end Go.Proofs.YtmidibkljoaoiaaGreatDoor.M

/- A row that is put between the rows of a text. Plain. No condition. -/
namespace Go.Proofs.YtmidibkljoaoiaaGreatDoor.M
open Go Go.Proofs.YtmidibkljoaoiaaGreatDoor.K
theorem fmtN_nil (names : List (List UInt8)) (Ls : List Ln) : fmtN names Ls [] = fmtN0 names Ls := by
 unfold fmtN fmtN0 textN
 rw [chkNet_nil, show flErr names Ls [] = 0 from rfl, if_neg (c := (0 : Int) ≠ 0) (fun h => h rfl), show rowsT (([] : List Fl).map (fmtF names Ls)) = [] from rfl, List.append_nil]
def plT (RW : List (List UInt8)) (j : Nat) : Nat → List UInt8
  | 0 => []
  | i + 1 => plT RW j i ++ (if i = j then wFlows ++ [10] else []) ++ (if i < RW.length then nth RW i ++ [10] else [])
theorem splC_rwN {k : Nat} {ms : List LnM} {fs : List FlM} (h : DrawN k ms fs) : splC 10 (rowsT (rwN ms fs)) = rwN ms fs ++ [[]] := by
 obtain ⟨_, hr, _⟩ := h.rows
 have hs := splC_rows (rwN ms fs) [] (fun r hr' => (hr r hr').1)
 rw [List.append_nil] at hs
 exact hs
end Go.Proofs.YtmidibkljoaoiaaGreatDoor.M

/- Rule: a pointer against nil. No condition. -/
namespace Go.Proofs.YtmidibkljoaoiaaGreatDoor.K
open Go Go.RowKit
section
variable {P : Program} {T : Tab} {n : Nat} {env : Env} {w0 : World} {R : Ro} {E : List Ent} {o : Oper} {pc p q r : Bool}
theorem Yl.ptrNil {t e : TypeId} {t' x y} {a : Option Addr} {d : TD} (hT : TabOk P T) (ho : o.op = .binOp .eql t x y t') (hc : y = .const (.pointer none)) (hd : T.at t = some d) (hk : d.k = .ptr e) (hx : ev env x = some (p, .pointer a)) (hp : pc = true → p = true) : Yl P n env w0 R E o pc (.bool a.isNone) := by
 intro ac w hkn hm hpc
 subst hc
 have hu : P.underlying t = some (.pointer e) := by
  have := hT.kind hd
  rw [hk] at this
  unfold kindOf at this
  split at this <;> simp_all
 have hpt : P.underlying t = some (.pointer (P.pointee t)) := by rw [hu]; simp [Program.pointee, hu]
 have e1 := run_equal_pointer_nil (P := P) w t a hpt
 have hy : ac.eval (.const (.pointer none)) = .pointer none := rfl
 unfold execOp
 cases a with
 | none => simp [ho, hkn.ev hx (hp hpc), hy, eqGuard, binOp, e1]
 | some ad => simp [ho, hkn.ev hx (hp hpc), hy, eqGuard, binOp, e1]
end
end Go.Proofs.YtmidibkljoaoiaaGreatDoor.K

/- Rules: an object whose type is known (a strings.Builder), pointers against nil and themselves, unsafe.Pointer there and back, append of a string, texts of bytes, shifts. No condition. -/
namespace Go.Proofs.YtmidibkljoaoiaaGreatDoor.K
open Go Go.RowKit

def encY (c : UInt8) : List Value := [.int .u8 c.toNat]
section
variable {P : Program} {T : Tab} {n : Nat} {env : Env} {w0 : World} {R : Ro} {E : List Ent} {o : Oper} {pc p q r : Bool}
theorem Rd.obj {b : Nat} {cs : Array Value} {t : TypeId} {fz : Nat × Nat} (i : Nat) (h : E[i]? = some (.obj b (.cells cs t fz))) : Rd R E ⟨b, 0, none⟩ cs.toList := by
 intro w0 w hm j v hv
 obtain ⟨_, hb⟩ := hm.own _ (mem_of_get h)
 rw [addr_add_mk]
 have : cs[j]? = some v := by simpa using hv
 simp [World.cell?, hb, this]
theorem Ef.allocObj {K : Value → Ro → List Ent → Prop} {t : TypeId} {d : TD} (hT : TabOk P T) (ho : o.op = .alloc t) (hd : T.at t = some d) (hK : ∀ b, K (.pointer (some ⟨b, 0, none⟩)) R (.obj b (.cells d.zero.toArray t (0, 0)) :: E)) : Ef P n env w0 R E o K := by
 intro a w hk hm
 obtain ⟨z, hz, hzc⟩ := run_zeroValue hT hd w
 refine ⟨_, w.alloc (.cells d.zero.toArray t), R, _, .inl ?_, hm.newObj _, hK _⟩
 unfold execOp
 have hzc' : z.cells = d.zero.toArray := by rw [← hzc]
 simp [ho, Instr.alloc, hz, newVar, newRow, hzc']
/-- into an object -/
theorem Ef.storeObj {K : Value → Ro → List Ent → Prop} {t e : TypeId} {x y : Operand} {b off : Nat} {cs : Array Value} {v : Value} {d : TD} (i : Nat) (hT : TabOk P T) (ho : o.op = .store t x y) (hd : T.at t = some d)
  (hx : ev env x = some (true, .pointer (some ((⟨b, 0, none⟩ : Addr).add off)))) (hy : ev env y = some (true, v)) (hE : E[i]? = some (.obj b (.cells cs e (0, 0))))
  (hl : Nat.beq (vcells v).length d.size = true) (hfit : Nat.ble (off + d.size) cs.size = true) (h1 : cells1 (vcells v) = true)
  (hK : K undef R (E.set i (.obj b (.cells (setSeg cs.toList off (vcells v)).toArray e (0, 0))))) : Ef P n env w0 R E o K := by
 intro a w hk hm
 have hl := beq_true hl
 have hfit := Nat.le_of_ble_eq_true hfit
 obtain ⟨hbase, hb⟩ := hm.own _ (mem_of_get hE)
 have hst := run_storeVar_at (P := P) hT (o := off) hb hd hl hfit h1
 refine ⟨undef, w.setRow b (setSeg cs.toList off (vcells v)).toArray, R, _, .inr ⟨?_, rfl⟩, hm.set (e' := .obj b (.cells (setSeg cs.toList off (vcells v)).toArray e (0, 0))) hE (grownBy_setRow b _) (fun _ h => h) ⟨hbase, ?_⟩ (fun _ h => .inl h), hK⟩
 ·unfold execOp
  have ha : (⟨b, 0, none⟩ : Addr).add off = ⟨b, off, none⟩ := by rw [addr_add_mk]; simp
  simp [ho, hk.ev hx rfl, hk.ev hy rfl, Instr.storeAt, Instr.sureAddr, ha, hst]
 ·exact setRow_heap w b _ _ e _ hb
theorem Yl.ptrSame {t e : TypeId} {t' x y} {a : Addr} {d d2 : TD} (hT : TabOk P T) (ho : o.op = .binOp .neq t x y t') (hd : T.at t = some d) (hk : d.k = .ptr e) (hd2 : T.at e = some d2) (hx : ev env x = some (p, .pointer (some a))) (hy : ev env y = some (q, .pointer (some a))) (hpq : pc = true → (p && q) = true) : Yl P n env w0 R E o pc (.bool false) := by
 intro ac w hkn hm hpc
 obtain ⟨h1, h2⟩ := and_both (hpq hpc)
 have hu : P.underlying t = some (.pointer e) := by
  have := hT.kind hd
  rw [hk] at this
  unfold kindOf at this
  split at this <;> simp_all
 obtain ⟨j, z, hj, _⟩ := hT.info hd2
 have e1 := Lib.run_neq_ptr_same (P := P) w a hu hj
 unfold execOp
 simp [ho, hkn.ev hx h1, hkn.ev hy h2, eqGuard, e1]
theorem Yl.toUnsafe {src dst t u : TypeId} {x : Operand} {b : Nat} {cs : Array Value} {fz : Nat × Nat} {d d2 : TD} (i : Nat) (hT : TabOk P T) (ho : o.op = .convert src dst x) (hd : T.at src = some d) (hk : d.k = .ptr t) (hd2 : T.at t = some d2) (hsz : Nat.beq d2.size 0 = false) (hu : P.underlying dst = some .unsafePointer)
  (hE : E[i]? = some (.obj b (.cells cs u fz))) (hcs : Nat.blt 0 cs.size = true) (hx : ev env x = some (p, .pointer (some ⟨b, 0, none⟩))) (hp : pc = true → p = true) : Yl P n env w0 R E o pc (.pointer (some ⟨b, 0, none⟩)) := by
 intro ac w hkn hm hpc
 obtain ⟨_, hb⟩ := hm.own _ (mem_of_get hE)
 have hs : P.underlying src = some (.pointer t) := by
  have := hT.kind hd
  rw [hk] at this
  unfold kindOf at this
  split at this <;> simp_all
 obtain ⟨j, z, hj, _, _, hjs, _⟩ := hT.info hd2
 have hsh : w.shape? b = some (u, cs.size) := by simp [World.shape?, hb]
 have e1 := Lib.run_to_unsafe (P := P) w ⟨b, 0, none⟩ hs hu hj (by rw [hjs]; exact beq_false hsz) hsh (Nat.lt_of_lt_of_le (Nat.lt_of_lt_of_le Nat.zero_lt_one (Nat.le_of_ble_eq_true hcs)) (Nat.le_refl _))
 unfold execOp
 simp [ho, hkn.ev hx (hp hpc), e1]
theorem Yl.fromUnsafe {src dst t u : TypeId} {x : Operand} {b : Nat} {cs : Array Value} {fz : Nat × Nat} {d d2 : TD} (i : Nat) (hT : TabOk P T) (ho : o.op = .convert src dst x) (hd : T.at dst = some d) (hk : d.k = .ptr t) (hd2 : T.at t = some d2) (hu : P.underlying src = some .unsafePointer)
  (hE : E[i]? = some (.obj b (.cells cs u fz))) (hl : liesAt P P.depth u (cs.size / P.cellsOf u) 0 t 1 = true) (hx : ev env x = some (p, .pointer (some ⟨b, 0, none⟩))) (hp : pc = true → p = true) : Yl P n env w0 R E o pc (.pointer (some ⟨b, 0, none⟩)) := by
 intro ac w hkn hm hpc
 obtain ⟨_, hb⟩ := hm.own _ (mem_of_get hE)
 have hs : P.underlying dst = some (.pointer t) := by
  have := hT.kind hd
  rw [hk] at this
  unfold kindOf at this
  split at this <;> simp_all
 obtain ⟨j, z, hj, _, _, hjs, _⟩ := hT.info hd2
 have hsh : w.shape? b = some (u, cs.size) := by simp [World.shape?, hb]
 have e1 := Lib.run_from_unsafe (P := P) w ⟨b, 0, none⟩ hu hs hj hsh hl
 unfold execOp
 simp [ho, hkn.ev hx (hp hpc), e1]
/-- internal/abi.NoEscape -/
theorem Yl.noEscape {f : FuncId} {fn : Func} {x : Operand} {v : Value} {ats : Array TypeId} (ho : o.op = .call { callee := .value (.func f), args := #[x], argTypes := ats }) (hf : P.funcs[f]? = some fn) (hname : (fn.name == "runtime.NumGoroutine") = false) (hb : fn.body.isNone = true) (hn : Extern.findNext fn = none) (he : Extern.find fn = some Extern.AbiNoEscape.same)
  (hx : ev env x = some (p, v)) (hp : pc = true → p = true) : Yl P n env w0 R E o pc v := by
 intro ac w hkn hm hpc
 have e1 := run_callFunc_extern (P := P) (f := f) hf hname hb hn he #[v] w
 rw [Lib.run_noEscape] at e1
 have hfv : ac.eval (.func f) = .func (.func f) #[] #[] := rfl
 unfold execOp
 simp [ho, hkn.ev hx (hp hpc), resolve, invoke, hfv, Deferred.ofValue, e1]
/-- append(b, s...) -/
theorem encY_flat : ∀ ys : List UInt8, (ys.map encY).flatten = ys.map fun c => Value.int .u8 c.toNat
 | [] => rfl
 | c :: ys => by simp [encY, encY_flat ys]
theorem Ef.appendStr {K : Value → Ro → List Ent → Prop} {t u e : TypeId} {x y : Operand} {m cap : Nat} {a : Option Addr} {xs l : List UInt8} {d d2 d3 : TD} (i : Nat) (hT : TabOk P T) (ho : o.op = .call { callee := .builtin .append, args := #[x, y], argTypes := #[t, u] }) (hd : T.at t = some d) (hk : d.k = .slice e) (hd2 : T.at e = some d2) (hs2 : d2.size = 1) (hb2 : d2.bytes = 1) (hz2 : (P.info? e).bind (·.zero) = some (.int .u8 0)) (hd3 : T.at u = some d3) (hk3 : d3.k = .str)
  (hx : ev env x = some (true, .slice a m cap)) (hm : m = xs.length) (hE : E[i]? = some (.sl e 1 a cap (xs.map encY))) (hy : ev env y = some (true, .string (str l))) (hbytes : xs.length + l.length ≤ 140737488355328)
  (hK : ∀ a' cap', K (.slice a' (xs ++ l).length cap') R (E.set i (.sl e 1 a' cap' ((xs ++ l).map encY)))) : Ef P n env w0 R E o K := by
 intro ac w hkn hmm
 have hsl := own_sl hmm (mem_of_get hE)
 obtain ⟨inf, z, hi, hz, hzc, hsz, hby⟩ := hT.info hd2
 have hz' : inf.zero = some (.int .u8 0) := by rw [hi] at hz2; exact hz2
 rw [hs2] at hsz
 rw [hb2] at hby
 have hsc : Lib.strCells (str l) = l.map fun c => Value.int .u8 c.toNat := by unfold Lib.strCells; rw [show (str l).data.toList = l by simp [str]]
 have hss := str_size l
 have hlen : (xs ++ l).length = xs.length + l.length := by simp
 have hml : (xs.map encY).length = xs.length := by simp
 have hrows : ∀ r ∈ (xs ++ l).map encY, r.length = 1 := fun r hr => by obtain ⟨c, _, rfl⟩ := List.mem_map.1 hr; rfl
 have hfl : ((xs ++ l).map encY).flatten = (xs.map fun c => Value.int .u8 c.toNat) ++ (l.map fun c => Value.int .u8 c.toNat) := by rw [encY_flat, List.map_append]
 have exec : ∀ v' w', (Builtin.append_ #[t, u] o.type #[.slice a m cap, .string (str l)]).run P w = .ok v' w' → (execOp ac.eval o).run P w = .ok (.value v') w' := fun v' w' hr => by
  unfold execOp
  simp only [ho, resolve, invoke, builtin, Sem.run_bind, Sem.run_pure, Result.andThen_ok, List.map_toArray, List.map_cons, List.map_nil, hkn.ev hx rfl, hkn.ev hy rfl, hr]
 have mkNew : ∀ nc, xs.length + l.length ≤ nc → nc ≤ maxLen → ∀ cur : Array Value, cur.toList = (xs.map fun c => Value.int .u8 c.toNat) ++ (l.map fun c => Value.int .u8 c.toNat) ++ (Builtin.zeroCells (Value.int .u8 0).cells (nc - (xs.length + l.length))).toList →
   Mem w0 (w.drew.alloc (.cells cur e)) R (E.set i (.sl e 1 (some ⟨w.heap.size, 0, none⟩) nc ((xs ++ l).map encY))) := fun nc hge hcm cur hcur => by
  have hz1 : (Value.int IntKind.u8 0).cells.size = 1 := rfl
  refine hmm.set (row := none) hE ⟨rfl, rfl, rfl, by simp, fun j hj _ => heap_alloc_old w.drew _ hj⟩ (fun _ h => by cases h) (ok_sl (g := w.heap.size) hrows (by decide) hmm.below.size (heap_alloc_new w.drew _) (by rw [List.length_map, hlen]; exact hge) hcm ?_ ?_) (fun b hb => by simp [Ent.block] at hb; right; omega)
  ·rw [← Array.length_toList, hcur]
   simp only [List.length_append, List.length_map, Array.length_toList, size_zeroCells, hz1]
   omega
  ·rw [hcur, hfl, List.length_map, hlen]
   exact List.take_left' (by simp)
 by_cases hl0 : l = []
 ·subst hl0
  refine ⟨_, w, R, _, .inl (exec (.slice a m cap) w ?_), ?_, by have := hK a cap; rw [List.append_nil] at this; rw [hm]; exact this⟩
  ·have hle : m ≤ cap := by
    obtain ⟨_, _, h2⟩ := hsl
    rw [hml] at h2
    rcases h2 with ⟨_, h3, _⟩ | ⟨g, cur, _, _, _, hn, _⟩
    ·have : xs = [] := by simpa using h3
     subst this; simp at hm; omega
    ·omega
   have hf := Lib.run_firstCells_string (P := P) w 1 (str [])
   have h0 : (str []).size = 0 := rfl
   have hd0 : (str []).data.toList = [] := rfl
   rw [h0] at hf
   cases a with
   | none => simp [Builtin.append_, run_underlying (hT.slice hd hk), run_underlying (hT.str hd3 hk3), sizeOf, typeInfo, hi, hsz, Builtin.lenOf, h0, hle, hf, Lib.strCells]
   | some ad => simp [Builtin.append_, run_underlying (hT.slice hd hk), run_underlying (hT.str hd3 hk3), sizeOf, typeInfo, hi, hsz, Builtin.lenOf, h0, hle, hf, Lib.strCells, hd0, storeCells]
  ·have e1 : E.set i (.sl e 1 a cap ((xs ++ []).map encY)) = E := by
    rw [List.append_nil]
    apply List.ext_getElem?
    intro j
    by_cases hj : i = j
    ·subst hj
     rw [hE, List.getElem?_set_self (List.getElem?_eq_some_iff.1 hE).1]
    ·rw [List.getElem?_set_ne hj]
   rw [List.append_nil] at e1
   rw [e1]; exact hmm
 ·have hlp : 0 < l.length := List.length_pos_iff.2 hl0
  obtain ⟨_, _, h2⟩ := hsl
  rw [hml] at h2
  rcases h2 with ⟨ha, h3, hc0⟩ | ⟨g, cur, ha, hbase, hh, hn, hc, hs, ht⟩
  ·have hx0 : xs = [] := by simpa using h3
   subst ha; subst hx0; subst hc0
   simp only [List.length_nil] at hm
   subst hm
   have hr := run_append_nil_string (P := P) w t u o.type e inf (.int .u8 0) (hT.slice hd hk) (hT.str hd3 hk3) hi hz' (str l) (by omega) (by omega) (by rw [hby, hss]; simp at hbytes; omega)
   have hcm := grownCap_le_maxLen w (str l).size 0 e (by rw [hss]; simp only [maxLen]; simp at hbytes; omega)
   have hge := grownCap_ge w (str l).size 0 e
   have hnew := mkNew (grownCap w (str l).size 0 e) (by simp; omega) hcm ((str l).data.map (fun b => Value.int .u8 b.toNat) ++ Builtin.zeroCells (Value.int .u8 0).cells (grownCap w (str l).size 0 e - (str l).size)) (by rw [hss]; simp [str])
   refine ⟨_, _, R, _, .inl (exec _ _ hr), hnew, ?_⟩
   rw [hss]
   exact hK _ _
  ·subst ha
   rw [hm] at exec
   by_cases hroom : xs.length + (str l).size ≤ cap
   ·have hr := Lib.run_append_room_string (P := P) w t u o.type e inf (hT.slice hd hk) (hT.str hd3 hk3) hi hsz g xs.length cap cur hh (str l) hroom (by omega)
    rw [hsc, hss] at hr
    refine ⟨_, _, R, _, .inl (exec _ _ hr), hmm.set hE (grownBy_setRow g _) (fun _ h => by simpa [Ent.block] using h) (ok_sl (g := g) (rows := (xs ++ l).map encY) (cap := cap) hrows (by decide) hbase (setRow_heap w g cur _ e _ hh) (by rw [List.length_map, hlen]; omega) hc ?_ ?_) (fun _ h => .inl h), ?_⟩
    ·simp only [List.size_toArray, List.length_append, List.length_take, List.length_drop, Array.length_toList, List.length_map]
     omega
    ·have ht' : cur.toList.take xs.length = xs.map fun c => Value.int .u8 c.toNat := by rw [← encY_flat, ← ht]; simp
     rw [hfl, List.length_map, hlen]
     simp only [Nat.mul_one]
     rw [ht']
     exact List.take_left' (by simp)
    ·have := hK (some ⟨g, 0, none⟩) cap
     rw [hlen] at this
     exact this
   ·have holds : ∀ j v, (xs.map fun c => Value.int .u8 c.toNat)[j]? = some v → w.cell? ((⟨g, 0, none⟩ : Addr).add j) = some v := fun j v hv => by
     rw [← encY_flat, ← ht, List.getElem?_take] at hv
     rw [addr_add_mk]
     split at hv
     ·simpa [World.cell?, hh] using hv
     ·cases hv
    have hr := Lib.run_append_grow_string (P := P) w t u o.type e inf (.int .u8 0) (hT.slice hd hk) (hT.str hd3 hk3) hi hz' ⟨g, 0, none⟩ xs.length cap (xs.map fun c => Value.int .u8 c.toNat) (by rw [hsz]; simp) holds (str l) (by omega) (by omega) (by rw [hby]; exact growslice_fits (by omega) (by omega))
    have hcm := grownCap_le_maxLen w (xs.length + (str l).size) cap e (by simp only [maxLen]; omega)
    have hge := grownCap_ge w (xs.length + (str l).size) cap e
    have hnew := mkNew (grownCap w (xs.length + (str l).size) cap e) (by omega) hcm ((xs.map fun c => Value.int .u8 c.toNat).toArray ++ (Lib.strCells (str l)).toArray ++ Builtin.zeroCells (Value.int .u8 0).cells (grownCap w (xs.length + (str l).size) cap e - (xs.length + (str l).size))) (by simp [hsc, hss])
    refine ⟨_, _, R, _, .inl (exec _ _ hr), hnew, ?_⟩
    have := hK (some ⟨w.heap.size, 0, none⟩) (grownCap w (xs.length + (str l).size) cap e)
    rw [hlen] at this
    rw [hss] at this ⊢
    exact this
end
end Go.Proofs.YtmidibkljoaoiaaGreatDoor.K

/- Digits, plain: what the reference reads. No condition. -/
namespace Go.Proofs.YtmidibkljoaoiaaGreatDoor.M
open Go Go.Proofs.YtmidibkljoaoiaaGreatDoor.K

def digGo (n : Int) : List UInt8 → Int
  | [] => n
  | c :: r => if (c.toNat : Int) < 48 ∨ 57 < (c.toNat : Int) ∨ 1073741824 < n then 0 else digGo (10 * n + ((c.toNat : Int) - 48)) r
def digF (l : List UInt8) : Int := digGo 0 l
def noExit (n : Int) : List UInt8 → Prop
  | [] => True
  | c :: r => ¬ ((c.toNat : Int) < 48 ∨ 57 < (c.toNat : Int) ∨ 1073741824 < n) ∧ noExit (10 * n + ((c.toNat : Int) - 48)) r
def rnum (l : List UInt8) : Int := if 0 < l.length ∧ byteAt l 0 = 45 then -(digF (l.drop 1)) else digF l
def rparts (l : List UInt8) : List UInt8 × List UInt8 := if (cutS l).2.2 = true then ((cutS l).1, (cutS l).2.1) else (l, [49])
end Go.Proofs.YtmidibkljoaoiaaGreatDoor.M

/- Rules of shifts and texts of bytes. No condition. -/
namespace Go.Proofs.YtmidibkljoaoiaaGreatDoor.K
open Go Go.RowKit
section
variable {P : Program} {T : Tab} {n : Nat} {env : Env} {w0 : World} {R : Ro} {E : List Ent} {o : Oper} {pc p q r : Bool}
/-- string(b) of bytes of one's own -/
theorem Yl.bytesStr {src dst e : TypeId} {x : Operand} {m cap : Nat} {a : Option Addr} {l : List UInt8} {d d2 d3 : TD} (i : Nat) (hT : TabOk P T) (ho : o.op = .convert src dst x) (hd : T.at src = some d) (hk : d.k = .slice e) (hd2 : T.at e = some d2) (hk2 : d2.k = .int .u8) (hd3 : T.at dst = some d3) (hk3 : d3.k = .str)
  (hE : E[i]? = some (.sl e 1 a cap (l.map encY))) (hx : ev env x = some (p, .slice a m cap)) (hm : m = l.length) (hl : 0 < l.length) (hp : pc = true → p = true) : Yl P n env w0 R E o pc (.string (str l)) := by
 intro ac w hkn hmm hpc
 subst hm
 obtain ⟨_, _, h2⟩ := own_sl hmm (mem_of_get hE)
 rcases h2 with ⟨_, h3, _⟩ | ⟨g, cur, rfl, hbase, hh, hn, hc, hs, ht⟩
 ·have : l = [] := by simpa using h3
  subst this; simp at hl
 ·have hcells : ∀ (j : Nat) (b : UInt8), l[j]? = some b → w.cell? ((⟨g, 0, none⟩ : Addr).add j) = some (.int .u8 b.toNat) := fun j b hj => by
   have h4 : ((l.map encY).flatten)[j]? = some (.int .u8 b.toNat) := by rw [encY_flat, List.getElem?_map, hj]; rfl
   rw [← ht, List.getElem?_take] at h4
   rw [addr_add_mk]
   split at h4
   ·simpa [World.cell?, hh] using h4
   ·cases h4
  have e1 := run_convert_bytes_back w src dst e ⟨g, 0, none⟩ cap l (hT.slice hd hk) (hT.int hd2 hk2) (hT.str hd3 hk3) (fun j hj => hcells j _ (List.getElem?_eq_getElem hj))
  unfold execOp
  simp [ho, hkn.ev hx (hp hpc), e1, str]
end
def RBelow (w0 : World) (R : Ro) : Prop := ∀ b cs, R b = some cs → b < w0.heap.size
theorem FnV.ofOwn {P : Program} {f : FuncId} {args : List Value} {R : Ro} {v : Value} (h : ∀ w0, RBelow w0 R → Fn P f args w0 R [] (fun v' _ _ => v' = v)) : FnV P f args R v := by
 intro w0 E w hm
 have hm0 : Mem w w R [] := ⟨Below.refl _ w, hm.ro, fun e he => (by cases he), fun e he => (by cases he), List.Pairwise.nil⟩
 refine (h w (fun b cs hb => hm.ro_lt hb) w hm0).mono ?_
 rintro e w' ⟨v', R', E', rfl, _, hm', rfl⟩
 exact ⟨rfl, hm.belowAll hm'.below⟩
end Go.Proofs.YtmidibkljoaoiaaGreatDoor.K

/- A call under a guard that is known to hold. No condition. -/
namespace Go.Proofs.YtmidibkljoaoiaaGreatDoor.K
open Go Go.RowKit
section
variable {P : Program} {T : Tab} {ops rest : List Oper} {Q : Exit → Act → World → Prop} {n : Nat} {env : Env} {w0 : World} {R : Ro} {E : List Ent} {o : Oper} {pc p q : Bool}
theorem WL.callT {d : Nat} {f : FuncId} {vs : List Value} {Post : Value → Ro → List Ent → Prop} (hf : Enters P f) (hg : gpc ops env o = some pc) (hpc : pc = true) (hd : o.dst = some d) (hdn : d < n)
  (hc : CallOp env o.op q f vs) (hq : q = true) (hv : Fn P f vs w0 R E Post)
  (h : ∀ v R' E', RLe R R' → Post v R' E' → WG false P ops Q rest n ((d, true, v) :: env) w0 R' E') : WG false P ops Q (o :: rest) n env w0 R E := by
 subst hpc
 intro a w hk hm
 refine wpList_step fun K hK => ?_
 rw [hk.wanted hg]
 simp only [if_true, Oper.wp, run_call hk hc hq hf, Oper.upon, hd]
 refine (hv w hm).mono ?_
 rintro e w' ⟨v, R', E', rfl, hR, hm', hp⟩
 exact hK _ _ (h v R' E' hR hp _ _ (hk.putT hdn v) hm')
theorem WL.callAtT {d : Nat} {f : FuncId} {vs : List Value} {e : Ent} {Post : Value → Ro → Ent → List Ent → Prop} (i : Nat) (hf : Enters P f) (hg : gpc ops env o = some pc) (hpc : pc = true) (hd : o.dst = some d) (hdn : d < n)
  (hc : CallOp env o.op q f vs) (hq : q = true) (hE : E[i]? = some e)
  (hv : Fn P f vs w0 R (e :: E.eraseIdx i) (fun v R' E' => ∃ e' N, E' = N ++ e' :: E.eraseIdx i ∧ Post v R' e' N))
  (h : ∀ v R' e' N, RLe R R' → Post v R' e' N → WG false P ops Q rest n ((d, true, v) :: env) w0 R' (N ++ E.set i e')) : WG false P ops Q (o :: rest) n env w0 R E := by
 subst hpc
 intro a w hk hm
 refine wpList_step fun K hK => ?_
 rw [hk.wanted hg]
 simp only [if_true, Oper.wp, run_call hk hc hq hf, Oper.upon, hd]
 refine (hv w (hm.perm (perm_get hE))).mono ?_
 rintro e0 w' ⟨v, R', E', rfl, hR, hm', e', N, rfl, hp⟩
 exact hK _ _ (h v R' e' N hR hp _ _ (hk.putT hdn v) (hm'.perm ((perm_set e' hE).append_left N)))
end
end Go.Proofs.YtmidibkljoaoiaaGreatDoor.K

/- Chapter 24: names and numbers. No condition. -/
set_option maxRecDepth 4000
set_option linter.unusedSimpArgs false
set_option linter.unusedVariables false
namespace Go.Proofs.YtmidibkljoaoiaaGreatDoor
open Go Go.RowKit Go.Proofs.YtmidibkljoaoiaaGreatDoor.K Go.Proofs.YtmidibkljoaoiaaGreatDoor.M

set_option maxHeartbeats 1000000 in
theorem Word_V {R : Ro} {s : List UInt8} (hs : s.length ≤ 9223372036854775807) : FnV Tryz.prog 41 [.string (str s)] R (.bool (wordB s)) := by
 refine Fn.toV (fun w0 E => ?_)
 have hss := str_size s
 have hse : str s = ⟨#[]⟩ ↔ s = [] := ⟨fun h => str_inj (b := []) h, fun h => by rw [h]; rfl⟩
 have h0l : s ≠ [] → 0 < s.length := List.length_pos_iff.2
 refine fE 49 Tryz.func41 ?_
 refine zQ (zG (zR 1 rfl (zN (zU (zQ (zQ (zG (zR 1 rfl ?_))))))))
 refine WG.y rfl rfl qD (Yl.eqS rfl rfl rfl (fun _ => rfl)) ?_
 refine zR 1 rfl ?_
 refine yP ?_
 refine yP ?_
 refine yP ?_
 refine yO ?_
 refine zR 1 rfl ?_
 refine yP ?_
 refine WG.y rfl rfl (by decide) (Yl.sidx tab_ok rfl rfl rfl rfl rfl qE (by intro hg; (try simp only [zk] at hg); (have h1 := hg; have h2 : s ≠ [] := (fun h => by subst h; simp [str] at h1); have h3 := h0l h2; constructor <;> omega))) ?_
 refine yP ?_
 refine yO ?_
 refine zR 1 rfl ?_
 refine yP ?_
 refine WG.y rfl rfl (by decide) (Yl.sidx tab_ok rfl rfl rfl rfl rfl qE (by intro hg; (try simp only [zk] at hg); (have h1 := hg; have h2 : s ≠ [] := (fun h => by subst h; simp [str] at h1); have h3 := h0l h2; constructor <;> omega))) ?_
 refine yP ?_
 refine yO ?_
 refine zN (zU ?_)
 refine W.cond rfl (fun hc0 => ?_) (fun hc0 => ?_)
 ·try simp only [zk] at hc0
  have h00 : byteAt s ((0 : Int)).toNat = byteAt s 0 := rfl
  try rw [h00] at hc0
  have hno : wordB s = false := by
   unfold wordB
   rw [decide_eq_false_iff_not]
   rintro ⟨h1, h2, h3, h4⟩
   rcases hc0 with ((h | h) | h) | h
   ·rw [hse.1 h] at h1; simp at h1
   all_goals omega
  refine zQ (zG (zR 1 rfl (zN (zU (zT (wt ?_))))))
  refine sE (E := E) ?_
  refine WE.retF tab_ok [_] rfl ⟨rfl, trivial⟩ (RLe.refl _) ?_
  exact ⟨by rw [hno]; rfl, rfl⟩
 ·try simp only [zk] at hc0
  have h00 : byteAt s ((0 : Int)).toNat = byteAt s 0 := rfl
  try rw [h00] at hc0
  have hne : s ≠ [] := fun h => by rw [h] at hc0; simp [str] at hc0
  have hl1 := h0l hne
  have hok : 1 ≤ s.length ∧ s.length ≤ 12 ∧ 97 ≤ byteAt s 0 ∧ byteAt s 0 ≤ 122 := by omega
  refine zK (zU (zQ (zQ (zG (zR 1 rfl (zN (zU (zB ?_))))))))
  refine W.loopK (β := Nat) (fun i => (1 ≤ i ∧ i ≤ s.length) ∧ ∀ j, j < i → wordOk s j) (fun i => [(3, true, .int .i64 (i : Int))]) [0] [_] [] _ rfl (fun i => []) (fun i => s.length - i) (1) (⟨⟨Nat.le_refl _, hok.1⟩, fun j hj => by
   obtain rfl : j = 0 := by omega
   exact .inr (.inr hok.2.2)⟩) ⟨rfl, rfl, rfl⟩ qS ?_
  intro i hst
  dsimp only [zipE, setAll, List.cons_append, List.nil_append, List.set_cons_zero, List.set_cons_succ] at hst ⊢
  
  refine zQ (zQ (zG (zR 4 rfl (zN (zU ?_)))))
  refine W.condD rfl (fun hc1 => ?_) (fun hc1 => ?_)
  ·try dsimp only at hc1
   have hil : i < s.length := by omega
   have hbt : byteAt s ((i : Int)).toNat = byteAt s i := rfl
   refine zK (zU (zQ (zB (zQ (zG (zR 2 rfl ?_))))))
   refine WG.y rfl rfl qD (Yl.sidx tab_ok rfl rfl rfl rfl rfl (fun _ => rfl) qA) ?_
   refine zR 1 rfl (zN (zU (zQ (zG (zR 3 rfl ?_)))))
   refine yP ?_
   refine yP ?_
   refine yP ?_
   refine yP ?_
   refine yP ?_
   refine yO ?_
   refine yN ?_
   refine zR 1 rfl ?_
   refine yP ?_
   refine yP ?_
   refine yP ?_
   refine yP ?_
   refine yP ?_
   refine yO ?_
   refine yN ?_
   refine zN (zU ?_)
   refine W.cond rfl (fun hc2 => ?_) (fun hc2 => ?_)
   ·try simp only [zk] at hc2
    have hno : wordB s = false := by
     unfold wordB
     rw [decide_eq_false_iff_not]
     rintro ⟨h1, h2, h3, h4⟩
     have := h4 i hil
     unfold wordOk at this
     rw [hbt] at hc2
     omega
    refine zQ (zG (zR 1 rfl (zN (zU (zT (wb (wt (wt (wb (wt ?_))))))))))
    refine sE (E := E) ?_
    refine WE.retF tab_ok [_] rfl ⟨rfl, trivial⟩ (RLe.refl _) ?_
    exact ⟨by rw [hno]; rfl, rfl⟩
   ·try simp only [zk] at hc2
    rw [hbt] at hc2
    have hy : wordOk s i := by unfold wordOk; omega
    refine zK (zL (zU (zG (zR 1 rfl ?_))))
    refine yA ?_
    refine zR 1 rfl (zN ?_)
    refine WE.again (i + 1) (⟨by omega, fun j hj => by
     by_cases e : j = i
     ·subst e; exact hy
     ·exact hst.2 j (by omega)⟩) (by (try dsimp only); omega) ⟨rfl, rfl, rfl⟩ (RLe.refl _) qS
  ·try dsimp only at hc1
   obtain rfl : i = s.length := by omega
   refine zX ?_
   refine wx (wx (zY (zU (zQ (zG (zR 1 rfl (zN (zU (zT ?_)))))))))
   refine sE (E := E) ?_
   refine WE.retF tab_ok [_] rfl ⟨rfl, trivial⟩ (RLe.refl _) ?_
   exact ⟨by rw [show wordB s = true from decide_eq_true ⟨hok.1, hok.2.1, hok.2.2, hst.2⟩]; rfl, rfl⟩

set_option maxHeartbeats 1000000 in
theorem Number9_V {R : Ro} {w : List UInt8} (hw : w.length ≤ 9223372036854775807) : FnV Tryz.prog 89 [.string (str w)] R (.tuple #[.int .i64 (num9V w : Int), .bool (num9 w)]) := by
 refine Fn.toV (fun w0 E => ?_)
 have hss := str_size w
 have hse : str w = ⟨#[]⟩ ↔ w = [] := ⟨fun h => str_inj (b := []) h, fun h => by rw [h]; rfl⟩
 have h0l : w ≠ [] → 0 < w.length := List.length_pos_iff.2
 refine fE 48 Tryz.func89 ?_
 refine zQ (zG (zR 2 rfl (zN (zU (zQ (zQ (zG (zR 1 rfl ?_))))))))
 refine WG.y rfl rfl qD (Yl.eqS rfl rfl rfl (fun _ => rfl)) ?_
 refine zR 1 rfl ?_
 refine yP ?_
 refine yP ?_
 refine yP ?_
 refine yO ?_
 refine zR 1 rfl ?_
 refine yP ?_
 refine yP ?_
 refine yP ?_
 refine yP ?_
 refine yP ?_
 refine WG.y rfl rfl (by decide) (Yl.sidx tab_ok rfl rfl rfl rfl rfl qE (by intro hg; (try simp only [zk] at hg); (have h1 := hg.2; constructor <;> omega))) ?_
 refine yP ?_
 refine yN ?_
 refine yO ?_
 refine zN (zU ?_)
 refine W.cond rfl (fun hc0 => ?_) (fun hc0 => ?_)
 ·try simp only [zk] at hc0
  have hno : num9 w = false := by
   unfold num9
   rw [Bool.and_eq_false_iff, decide_eq_false_iff_not]
   rcases hc0 with (h | h) | h
   ·left; rw [hse.1 h]; rfl
   ·right; omega
   ·left
    unfold digs
    rw [decide_eq_false_iff_not]
    rintro ⟨_, h2, _⟩
    exact h2 ⟨by omega, h.2⟩
  refine zQ (zG (zR 2 rfl (zN (zU (zT (wt ?_))))))
  refine sE (E := E) ?_
  refine WE.retF tab_ok [_, _] rfl ⟨rfl, rfl, trivial⟩ (RLe.refl _) ?_
  exact ⟨by unfold num9V; rw [hno]; rfl, rfl⟩
 ·try simp only [zk] at hc0
  have hy : w ≠ [] ∧ ¬ (1 < w.length ∧ byteAt w 0 = 48) ∧ w.length ≤ 9 := by
   have q1 : w ≠ [] := fun h => by rw [h] at hc0; simp [str] at hc0
   obtain ⟨⟨_, q2⟩, q3⟩ := hc0
   exact ⟨q1, fun h => by first | exact q3 qO h.2 | (have := q3 qO; omega) | (rcases q3 with q3 | q3; omega; exact q3 h.2), by omega⟩
  refine zK (zU (zQ (zG (zR 1 rfl (zN (zU (zQ (zQ (zG (zR 1 rfl (zN (zU (zB ?_)))))))))))))
  refine W.loopK (β := Nat) (fun i => i ≤ w.length ∧ ∀ j, j < i → 48 ≤ byteAt w j ∧ byteAt w j ≤ 57) (fun i => [(4, true, .int .i64 (numV (w.take i) : Int)), (5, true, .int .i64 (i : Int))]) [0] [_] [] _ rfl (fun i => []) (fun i => w.length - i) (0) (⟨Nat.zero_le _, fun j hj => by omega⟩) ⟨rfl, rfl, rfl, rfl⟩ qS ?_
  intro i hst
  dsimp only [zipE, setAll, List.cons_append, List.nil_append, List.set_cons_zero, List.set_cons_succ] at hst ⊢
  
  refine zQ (zQ (zG (zR 4 rfl (zN (zU ?_)))))
  refine W.condD rfl (fun hc1 => ?_) (fun hc1 => ?_)
  ·try dsimp only at hc1
   have hil : i < w.length := by omega
   have hbt : byteAt w ((i : Int)).toNat = byteAt w i := rfl
   have hnl := numV_lt (by omega) hst.2
   have hp9 := pow9 (show i ≤ 9 by omega)
   refine zK (zU (zQ (zB (zQ (zQ (zG (zR 2 rfl ?_)))))))
   refine WG.y rfl rfl qD (Yl.sidx tab_ok rfl rfl rfl rfl rfl (fun _ => rfl) qA) ?_
   refine zR 2 rfl ?_
   refine yP ?_
   refine yP ?_
   refine WG.y rfl rfl (by decide) (Yl.sidx tab_ok rfl rfl rfl rfl rfl qE (by intro hg; (try simp only [zk] at hg); constructor <;> (try dsimp only) <;> omega)) ?_
   refine yP ?_
   refine yO ?_
   refine zN (zU ?_)
   refine W.cond rfl (fun hc2 => ?_) (fun hc2 => ?_)
   ·try simp only [zk] at hc2
    have hno : num9 w = false := by
     unfold num9
     rw [Bool.and_eq_false_iff, decide_eq_false_iff_not]
     left
     unfold digs
     rw [decide_eq_false_iff_not]
     rintro ⟨_, _, h3⟩
     have := h3 i hil
     rw [hbt] at hc2
     omega
    refine zQ (zG (zR 2 rfl (zN (zU (zT (wt (wb (wt (wt (wb (wt ?_)))))))))))
    refine sE (E := E) ?_
    refine WE.retF tab_ok [_, _] rfl ⟨rfl, rfl, trivial⟩ (RLe.refl _) ?_
    exact ⟨by unfold num9V; rw [hno]; rfl, rfl⟩
   ·try simp only [zk] at hc2
    rw [hbt] at hc2
    have hyd : 48 ≤ byteAt w i ∧ byteAt w i ≤ 57 := by omega
    refine zK (zU (zG (zR 1 rfl ?_)))
    refine WG.y rfl rfl qD (Yl.mul rfl rfl rfl (fun _ => rfl) qA) ?_
    refine zR 2 rfl ?_
    refine WG.y rfl rfl qD (Yl.sidx tab_ok rfl rfl rfl rfl rfl (fun _ => rfl) qA) ?_
    refine WG.y rfl rfl qD (Yl.subB rfl rfl rfl (fun _ => rfl) qA) ?_
    refine WG.y rfl rfl qD (Yl.convId tab_ok rfl rfl rfl rfl rfl rfl (fun _ => rfl) (by intro _; (try dsimp only); first | exact u64_id ⟨by omega, by omega⟩ | exact i64_wrap ⟨by omega, by omega⟩ | exact u8_id ⟨by omega, by omega⟩)) ?_
    refine yA ?_
    refine zR 1 rfl (zN (zL (zU (zG (zR 1 rfl ?_)))))
    refine yA ?_
    refine zR 1 rfl (zN ?_)
    refine WE.again (i + 1) (⟨by omega, fun j hj => by
     by_cases e : j = i
     ·subst e; exact hyd
     ·exact hst.2 j (by omega)⟩) (by (try dsimp only); omega) ⟨vint (by rw [numV_next hil hyd]; rw [hbt]), rfl, rfl, rfl⟩ (RLe.refl _) qS
  ·try dsimp only at hc1
   obtain rfl : i = w.length := by omega
   refine zX ?_
   refine wx (wx (zY (zU (zQ (zG (zR 3 rfl (zN (zU (zT ?_)))))))))
   refine sE (E := E) ?_
   refine WE.retF tab_ok [_, _] rfl ⟨rfl, rfl, trivial⟩ (RLe.refl _) ?_
   have hyes : num9 w = true := by unfold num9; rw [show digs w = true from decide_eq_true ⟨hy.1, hy.2.1, hst.2⟩, decide_eq_true hy.2.2]; rfl
   exact ⟨by unfold num9V; rw [hyes, if_pos rfl, List.take_length]; rfl, rfl⟩

end Go.Proofs.YtmidibkljoaoiaaGreatDoor

/- Rules: remainders of numbers of any kind. No condition. -/
namespace Go.Proofs.YtmidibkljoaoiaaGreatDoor.K
open Go Go.RowKit
section
variable {P : Program} {T : Tab} {n : Nat} {env : Env} {w0 : World} {R : Ro} {E : List Ent} {o : Oper} {pc p q r : Bool}
end
end Go.Proofs.YtmidibkljoaoiaaGreatDoor.K

/- Rules: the bytes of a string as a slice of one's own (a place behind the last is marked), xor of bytes. No condition. -/
namespace Go.Proofs.YtmidibkljoaoiaaGreatDoor.K
open Go Go.RowKit
def byCells (l : List UInt8) (n : Nat) : Array Value := (l.map (fun c => Value.int .u8 c.toNat) ++ List.replicate n (Value.int .u8 0)).toArray
def byB (b : Nat) (e : TypeId) (l : List UInt8) (n : Nat) : Ent := .obj b (.cells (byCells l n) e (l.length + n, l.length + n + 1))
theorem byteAt_get {l : List UInt8} {i : Nat} (h : i < l.length) : byteAt l i = ((l[i]'h).toNat : Int) := by
 unfold byteAt
 rw [List.getD_eq_getElem?_getD, List.getElem?_eq_getElem h, Option.getD_some]
theorem byCells_get {l : List UInt8} {n i : Nat} (h : i < l.length) : (byCells l n)[i]? = some (.int .u8 (byteAt l i)) := by
 rw [byteAt_get h]
 unfold byCells
 rw [List.getElem?_toArray, List.getElem?_append_left (by simpa using h), List.getElem?_map, List.getElem?_eq_getElem h]
 rfl
section
variable {P : Program} {T : Tab} {n : Nat} {env : Env} {w0 : World} {R : Ro} {E : List Ent} {o : Oper} {pc p q r : Bool}
theorem Rd.byB {b : Nat} {e : TypeId} {l : List UInt8} {m i : Nat} (k : Nat) (h : E[k]? = some (byB b e l m)) (hi : i < l.length) : Rd R E (eaddr (some ⟨b, 0, none⟩) 1 i) [.int .u8 (byteAt l i)] := by
 intro w0 w hm j v hv
 obtain ⟨_, hb⟩ := hm.own _ (mem_of_get h)
 have hj : j = 0 := by
  rcases j with _ | j
  ·rfl
  ·simp at hv
 subst hj
 simp only [List.getElem?_cons_zero, Option.some.injEq] at hv
 subst hv
 have e1 : (eaddr (some ⟨b, 0, none⟩) 1 i).add 0 = ⟨b, i, none⟩ := by
  unfold eaddr
  rw [Option.getD_some, addr_add_add, addr_add_mk]
  simp
 rw [e1]
 simp [World.cell?, hb, byCells_get hi]
end
end Go.Proofs.YtmidibkljoaoiaaGreatDoor.K

/- Rules: what is behind a place of an array, and its bytes as a string. No condition. -/
namespace Go.Proofs.YtmidibkljoaoiaaGreatDoor.K
open Go Go.RowKit Go.Proofs.YtmidibkljoaoiaaGreatDoor.M
section
variable {P : Program} {T : Tab} {n : Nat} {env : Env} {w0 : World} {R : Ro} {E : List Ent} {o : Oper} {pc p q : Bool}
theorem Yl.sliceArrL {t e : TypeId} {x l : Operand} {b m : Nat} {i : Int} {d d2 : TD} (hT : TabOk P T) (ho : o.op = .slice t x (some l) none none) (hd : T.at t = some d) (hk : d.k = .arr m e) (hd2 : T.at e = some d2) (hs : d2.size = 1)
  (hx : ev env x = some (p, .pointer (some ⟨b, 0, none⟩))) (hl : ev env l = some (q, .int .i64 i)) (hpq : pc = true → (p && q) = true) (hi : pc = true → 0 ≤ i ∧ i < m) : Yl P n env w0 R E o pc (.slice (some ⟨b, i.toNat, none⟩) (m - i.toNat) (m - i.toNat)) := by
 intro ac w hkn hm hpc
 obtain ⟨h1, h2⟩ := and_both (hpq hpc)
 have hi := hi hpc
 have hne : ¬ m = i.toNat := by omega
 unfold execOp
 simp [ho, hkn.ev hx h1, hkn.ev hl h2, Instr.sliceAt, Instr.sureAddr, Instr.sliceBounds, Instr.sliceBound, asIntOf, underlying, hT.arr hd hk, hi, run_sizeOf hT hd2, hs, Addr.add, hne, show i ≤ (m : Int) by omega]
 intro _; omega
theorem Yl.blkStr {src dst e : TypeId} {x : Operand} {m b k cap : Nat} {cs : List Value} {l : List UInt8} {d d2 d3 : TD} (i : Nat) (hT : TabOk P T) (ho : o.op = .convert src dst x) (hd : T.at src = some d) (hk : d.k = .slice e) (hd2 : T.at e = some d2) (hk2 : d2.k = .int .u8) (hd3 : T.at dst = some d3) (hk3 : d3.k = .str)
  (hE : E[i]? = some (.blk b cs)) (hx : ev env x = some (p, .slice (some ⟨b, k, none⟩) m cap)) (hm : m = l.length) (hc : cs.drop k = l.map fun c => Value.int .u8 c.toNat) (hp : pc = true → p = true) : Yl P n env w0 R E o pc (.string (str l)) := by
 intro ac w hkn hmm hpc
 subst hm
 obtain ⟨hb, t, hh⟩ := hmm.own _ (mem_of_get hE)
 have e1 := run_convert_bytes_back w src dst e ⟨b, k, none⟩ cap l (hT.slice hd hk) (hT.int hd2 hk2) (hT.str hd3 hk3) (fun j hj => by
  rw [addr_add_mk]
  have h4 : (cs.drop k)[j]? = some (.int .u8 (l[j]).toNat) := by rw [hc, List.getElem?_map, List.getElem?_eq_getElem hj]; rfl
  rw [List.getElem?_drop] at h4
  simp [World.cell?, hh, h4])
 unfold execOp
 simp [ho, hkn.ev hx (hp hpc), e1, str]
end
end Go.Proofs.YtmidibkljoaoiaaGreatDoor.K

/- Chapter 24: decimals. No condition. -/
set_option maxRecDepth 4000
set_option linter.unusedSimpArgs false
set_option linter.unusedVariables false
namespace Go.Proofs.YtmidibkljoaoiaaGreatDoor
open Go Go.RowKit Go.Proofs.YtmidibkljoaoiaaGreatDoor.K Go.Proofs.YtmidibkljoaoiaaGreatDoor.M

set_option maxHeartbeats 1000000 in
theorem Dec24_V {R : Ro} {n : Nat} (hn : n ≤ 9223372036854775807) : FnV Tryz.prog 38 [.int .i64 (n : Int)] R (.string (str (Lib.decDigits n))) := by
 refine FnV.ofOwn (fun w0 hb0 => ?_)
 refine fE 20 Tryz.func38 ?_
 refine zQ (zG (zR 1 rfl (zN (zU (zQ (zG ?_))))))
 refine zA fun b3 => ?_
 refine zN (zU (zQ (zG (zR 1 rfl (zN (zU (zB ?_)))))))
 refine W.loopK (β := Nat × Nat × List Value × List UInt8) (fun (x, k, cs, suf) => x ≤ 9223372036854775807 ∧ cs.length = 20 ∧ k + suf.length = 20 ∧ 1 ≤ k ∧ x < 10 ^ (k - 1) ∧ cs.drop k = suf.map (fun c => Value.int .u8 c.toNat) ∧ Lib.decDigits x ++ suf = Lib.decDigits n) (fun (x, k, cs, suf) => [(0, true, .int .i64 (x : Int)), (4, true, .int .i64 (k : Int))]) [3] [_] [] _ rfl (fun (x, k, cs, suf) => [(0, .blk b3 cs)]) (fun (x, k, cs, suf) => k) ((n, 20, List.replicate 20 (.int .u8 0), [])) (⟨hn, rfl, rfl, by decide, by show n < 10 ^ 19; omega, rfl, List.append_nil _⟩) ⟨rfl, rfl, rfl, rfl⟩ qS ?_
 intro zz hst
 obtain ⟨x, k, cs, suf⟩ := zz
 dsimp only [zipE, setAll, List.cons_append, List.nil_append, List.set_cons_zero, List.set_cons_succ] at hst ⊢
 obtain ⟨hxm, hcl, hks, hk1, hxk, hdr, hde⟩ := hst
 refine zB (zQ (zG (zR 1 rfl ?_)))
 refine yS ?_
 rw [show (k : Int) - 1 = ((k - 1 : Nat) : Int) by omega]
 have hk11 : k - 1 < cs.length := by omega
 have hseg := seg_snoc (v := Value.int .u8 (UInt8.ofNat (48 + x % 10)).toNat) hk11
 rw [show k - 1 + 1 = k by omega, hdr] at hseg
 have hsl := setSeg_length (cs := cs) (off := k - 1) (vs := [Value.int .u8 (UInt8.ofNat (48 + x % 10)).toNat]) (by show k - 1 + 1 ≤ _; omega)
 refine zR 1 rfl (zN (zU (zQ (zG (zR 2 rfl ?_)))))
 refine WG.y rfl rfl qD (Yl.rem rfl rfl rfl (fun _ => rfl) qN qN) ?_
 refine yA ?_
 rw [show (48 : Int) + (x : Int) % 10 = ((UInt8.ofNat (48 + x % 10)).toNat : Int) from by rw [← u8_dig (show x % 10 ≤ 9 by omega)]; omega]
 have hu8 := UInt8.toNat_lt (UInt8.ofNat (48 + x % 10))
 refine WG.y rfl rfl qD (Yl.convId tab_ok rfl rfl rfl rfl rfl rfl (fun _ => rfl) (by intro _; (try dsimp only); first | exact u64_id ⟨by omega, by omega⟩ | exact i64_wrap ⟨by omega, by omega⟩ | exact u8_id ⟨by omega, by omega⟩)) ?_
 refine WG.y rfl rfl qD (Yl.indexArr tab_ok rfl rfl rfl rfl rfl rfl (fun _ => rfl) qA) ?_
 refine WL.efN rfl rfl (Ef.store (off := k - 1) 0 tab_ok rfl rfl (by show some (true, Value.pointer (some ((⟨b3, 0, none⟩ : Addr).add ((((k - 1 : Nat) : Int)).toNat * 1)))) = _; rw [Int.toNat_natCast, Nat.mul_one]) rfl rfl rfl (Nat.ble_eq_true_of_le (by show k - 1 + 1 ≤ cs.length; omega)) rfl ?_)
 refine zN (zU (zQ (zG (zR 1 rfl ?_))))
 refine WG.y rfl rfl qD (Yl.quo rfl rfl rfl (fun _ => rfl) qA (by intro _; omega)) ?_
 rw [show (x : Int) / 10 = ((x / 10 : Nat) : Int) by omega]
 refine zR 1 rfl (zN (zU (zQ (zG (zR 2 rfl (zN (zU ?_)))))))
 refine W.condE rfl (fun hc0 => ?_) (fun hc0 => ?_)
 ·try dsimp only at hc0
  have hx10 : x < 10 := by omega
  rw [dec_one hx10] at hde
  refine zQ (zG (zR 1 rfl ?_))
  refine WG.y rfl rfl qD (Yl.sliceArrL tab_ok rfl rfl rfl rfl rfl rfl rfl (fun _ => rfl) qN) ?_
  refine WG.y rfl rfl qD (Yl.blkStr (l := UInt8.ofNat (48 + x % 10) :: suf) 0 tab_ok rfl rfl rfl rfl rfl rfl rfl rfl rfl (by show _ = suf.length + 1; omega) hseg (fun _ => rfl)) ?_
  refine zR 1 rfl (zN (zU (zT (wb (wt (wb ?_))))))
  refine WE.subE (E' := []) qS ?_
  refine WE.retF tab_ok [_] rfl ⟨rfl, trivial⟩ (RLe.refl _) ?_
  show Value.string _ = Value.string _
  rw [← hde, Nat.mod_eq_of_lt hx10]; rfl
 ·try dsimp only at hc0
  have hx10 : ¬ x < 10 := by omega
  rw [dec_step hx10, List.append_assoc] at hde
  refine zK (zL ?_)
  refine WE.again ((x / 10, k - 1, setSeg cs (k - 1) [.int .u8 (UInt8.ofNat (48 + x % 10)).toNat], UInt8.ofNat (48 + x % 10) :: suf)) (⟨by omega, by rw [hsl]; exact hcl, by show k - 1 + (suf.length + 1) = 20; omega, by show 1 ≤ k - 1; rcases Nat.eq_or_lt_of_le hk1 with h | h; (rw [← h] at hxk; simp at hxk; omega); omega, by
   have e : 10 ^ (k - 1) = 10 ^ (k - 1 - 1) * 10 := by
    cases hk2 : k - 1 with
    | zero => rw [hk2] at hxk; omega
    | succ m => rw [Nat.pow_succ]; rfl
   show x / 10 < 10 ^ (k - 1 - 1)
   omega, hseg, hde⟩) (by show k - 1 < k; omega) ⟨rfl, rfl, rfl, rfl⟩ (RLe.refl _) qS

end Go.Proofs.YtmidibkljoaoiaaGreatDoor

/- The contracts of the library that the walks take, laid at this translation. No condition. -/
namespace Go.Proofs.YtmidibkljoaoiaaGreatDoor
open Go.Shelf
def sh_lays169_ren : Go.Shelf.Ren := ⟨fun | 169 => 35 | n => n, fun | 70 => 72 | 9 => 9 | 0 => 0 | 72 => 75 | 37 => 73 | 127 => 106 | 3 => 3 | 5 => 5 | n => n, fun | n => n⟩
theorem sh_lays169 : Go.Proofs.Lays.n169 Tryz.prog sh_lays169_ren := {
  mixed := by kernel_rfl
  f169 := Tryz.func35.trans (congrArg some (by kernel_rfl))
  t0 := Tryz.underlying0
  a0 := Tryz.isAgg0
  z0 := Tryz.sizeOf0
  v0 := Tryz.zeroValue0
  t3 := Tryz.underlying3
  a3 := Tryz.isAgg3
  z3 := Tryz.sizeOf3
  v3 := Tryz.zeroValue3
  t9 := Tryz.underlying9
  a9 := Tryz.isAgg9
  z9 := Tryz.sizeOf9
  v9 := Tryz.zeroValue9
  t37 := Tryz.underlying73
  a37 := Tryz.isAgg73
  z37 := Tryz.sizeOf73
  v37 := Tryz.zeroValue73
  t70 := Tryz.underlying72
  a70 := Tryz.isAgg72
  z70 := Tryz.sizeOf72
  v70 := Tryz.zeroValue72
  t72 := Tryz.underlying75
  a72 := Tryz.isAgg75
  z72 := Tryz.sizeOf75
  v72 := Tryz.zeroValue75
  t127 := Tryz.underlying106
  a127 := Tryz.isAgg106
  z127 := Tryz.sizeOf106
  v127 := Tryz.zeroValue106 }
theorem sh_Builder_Extra_169 : Builder.Extra Tryz.prog sh_lays169_ren := {
  sizeBuilder := by kernel_rfl
  liesBuilder := by kernel_rfl
  t5 := Tryz.underlying5
  a5 := Tryz.isAgg5
  z5 := Tryz.sizeOf5
  v5 := Tryz.zeroValue5
  infoByte := by kernel_rfl
  cellsByte := by kernel_rfl
  sizeByte := by kernel_rfl
  neB5 := by decide }
open Go.RowKit in
theorem sh_Builder_String_any (B b : Nat) (l : List UInt8) (w : World) (h : Lib.IsBuilder 75 5 B b (Lib.byteCells l) w) (hBw : B ≤ w.heap.size) :
  Calls Tryz.prog 35 #[.pointer (some ⟨b, 0, none⟩)] w fun e w' => e = .returned (.string ⟨l.toArray⟩) ∧ Below B w w' := Any.Builder_String_any sh_lays169 sh_Builder_Extra_169 B b l w h hBw
def sh_lays156_ren : Go.Shelf.Ren := ⟨fun | 156 => 37 | 165 => 68 | 166 => 33 | 169 => 35 | 240 => 65 | 241 => 86 | 276 => 84 | 277 => 96 | n => n, fun | 31 => 23 | 9 => 9 | 3 => 3 | 4 => 4 | 0 => 0 | 20 => 20 | 72 => 75 | 76 => 78 | 70 => 72 | 37 => 73 | 75 => 77 | 127 => 106 | 164 => 125 | 5 => 5 | 80 => 81 | n => n, fun | n => n⟩
theorem sh_lays156 : Go.Proofs.Lays.n156 Tryz.prog sh_lays156_ren := {
  mixed := by kernel_rfl
  f156 := Tryz.func37.trans (congrArg some (by kernel_rfl))
  f165 := Tryz.func68.trans (congrArg some (by kernel_rfl))
  f166 := Tryz.func33.trans (congrArg some (by kernel_rfl))
  f169 := Tryz.func35.trans (congrArg some (by kernel_rfl))
  f240 := Tryz.func65.trans (congrArg some (by kernel_rfl))
  f241 := Tryz.func86.trans (congrArg some (by kernel_rfl))
  f276 := Tryz.func84.trans (congrArg some (by kernel_rfl))
  f277 := Tryz.func96.trans (congrArg some (by kernel_rfl))
  t0 := Tryz.underlying0
  a0 := Tryz.isAgg0
  z0 := Tryz.sizeOf0
  v0 := Tryz.zeroValue0
  t3 := Tryz.underlying3
  a3 := Tryz.isAgg3
  z3 := Tryz.sizeOf3
  v3 := Tryz.zeroValue3
  t4 := Tryz.underlying4
  a4 := Tryz.isAgg4
  z4 := Tryz.sizeOf4
  v4 := Tryz.zeroValue4
  t9 := Tryz.underlying9
  a9 := Tryz.isAgg9
  z9 := Tryz.sizeOf9
  v9 := Tryz.zeroValue9
  t20 := Tryz.underlying20
  a20 := Tryz.isAgg20
  z20 := Tryz.sizeOf20
  v20 := Tryz.zeroValue20
  t31 := Tryz.underlying23
  a31 := Tryz.isAgg23
  z31 := Tryz.sizeOf23
  v31 := Tryz.zeroValue23
  t37 := Tryz.underlying73
  a37 := Tryz.isAgg73
  z37 := Tryz.sizeOf73
  v37 := Tryz.zeroValue73
  t70 := Tryz.underlying72
  a70 := Tryz.isAgg72
  z70 := Tryz.sizeOf72
  v70 := Tryz.zeroValue72
  t72 := Tryz.underlying75
  a72 := Tryz.isAgg75
  z72 := Tryz.sizeOf75
  v72 := Tryz.zeroValue75
  t75 := Tryz.underlying77
  a75 := Tryz.isAgg77
  z75 := Tryz.sizeOf77
  v75 := Tryz.zeroValue77
  t76 := Tryz.underlying78
  a76 := Tryz.isAgg78
  z76 := Tryz.sizeOf78
  v76 := Tryz.zeroValue78
  t127 := Tryz.underlying106
  a127 := Tryz.isAgg106
  z127 := Tryz.sizeOf106
  v127 := Tryz.zeroValue106
  t164 := Tryz.underlying125
  a164 := Tryz.isAgg125
  z164 := Tryz.sizeOf125
  v164 := Tryz.zeroValue125 }
theorem sh_Builder_Extra_156 : Builder.Extra Tryz.prog sh_lays156_ren := {
  sizeBuilder := by kernel_rfl
  liesBuilder := by kernel_rfl
  t5 := Tryz.underlying5
  a5 := Tryz.isAgg5
  z5 := Tryz.sizeOf5
  v5 := Tryz.zeroValue5
  infoByte := by kernel_rfl
  cellsByte := by kernel_rfl
  sizeByte := by kernel_rfl
  neB5 := by decide }
open Go.RowKit in
theorem sh_strings_Join (bk o c : Nat) (xs : List ByteArray) (sep : ByteArray) (w : World) (hcells : ∀ (j : Nat) x, xs[j]? = some x → w.cell? ⟨bk, o + j, none⟩ = some (.string x)) (hbk : bk < w.heap.size) (hN : xs.length ≤ 140737488355328) (hcap : xs.length ≤ c) (hlen : (Lib.join (xs.map (·.data.toList)) sep.data.toList).length ≤ 140737488355328) :
  Calls Tryz.prog 37 #[.slice (some ⟨bk, o, none⟩) xs.length c, .string sep] w fun e w' => e = .returned (.string ⟨(Lib.join (xs.map (·.data.toList)) sep.data.toList).toArray⟩) ∧ Below w.heap.size w w' := Any.strings_Join sh_lays156 sh_Builder_Extra_156 bk o c xs sep w hcells hbk hN hcap hlen
def sh_laysC172_ren : Go.Shelf.Ren := ⟨fun | 172 => 123 | 244 => 130 | 245 => 131 | 247 => 134 | 279 => 135 | 280 => 136 | 281 => 137 | 282 => 138 | 287 => 139 | 316 => 140 | 171 => 142 | 205 => 141 | 321 => 143 | 322 => 144 | 243 => 145 | 246 => 146 | 283 => 115 | 284 => 116 | 285 => 117 | 286 => 118 | 129 => 125 | 317 => 124 | 318 => 126 | 319 => 127 | 320 => 128 | 337 => 132 | 338 => 133 | n => n, fun | 9 => 9 | 3 => 3 | 75 => 77 | 76 => 78 | 4 => 4 | 5 => 5 | 167 => 178 | 37 => 73 | 0 => 0 | 85 => 179 | 2 => 2 | 168 => 181 | 53 => 150 | 175 => 186 | 46 => 142 | 210 => 190 | 127 => 106 | 145 => 195 | 143 => 193 | 21 => 21 | 171 => 159 | 173 => 162 | 212 => 168 | 51 => 152 | 20 => 20 | 213 => 169 | 232 => 184 | 233 => 185 | 80 => 81 | n => n, fun | 15 => 6 | 16 => 7 | 17 => 1 | 18 => 4 | 19 => 5 | n => n⟩
theorem sh_laysC172 : Go.Proofs.LaysC.n172 Tryz.prog sh_laysC172_ren := {
  mixed := by kernel_rfl
  f129 := Tryz.func125.trans (congrArg some (by kernel_rfl))
  f171 := Tryz.func142.trans (congrArg some (by kernel_rfl))
  f172 := Tryz.func123.trans (congrArg some (by kernel_rfl))
  f205 := Tryz.func141.trans (congrArg some (by kernel_rfl))
  f243 := Tryz.func145.trans (congrArg some (by kernel_rfl))
  f244 := Tryz.func130.trans (congrArg some (by kernel_rfl))
  f245 := Tryz.func131.trans (congrArg some (by kernel_rfl))
  f246 := Tryz.func146.trans (congrArg some (by kernel_rfl))
  f247 := Tryz.func134.trans (congrArg some (by kernel_rfl))
  f279 := Tryz.func135.trans (congrArg some (by kernel_rfl))
  f280 := Tryz.func136.trans (congrArg some (by kernel_rfl))
  f281 := Tryz.func137.trans (congrArg some (by kernel_rfl))
  f282 := Tryz.func138.trans (congrArg some (by kernel_rfl))
  f283 := Tryz.func115.trans (congrArg some (by kernel_rfl))
  f284 := Tryz.func116.trans (congrArg some (by kernel_rfl))
  f285 := Tryz.func117.trans (congrArg some (by kernel_rfl))
  f286 := Tryz.func118.trans (congrArg some (by kernel_rfl))
  f287 := Tryz.func139.trans (congrArg some (by kernel_rfl))
  f316 := Tryz.func140.trans (congrArg some (by kernel_rfl))
  f317 := Tryz.func124.trans (congrArg some (by kernel_rfl))
  f318 := Tryz.func126.trans (congrArg some (by kernel_rfl))
  f319 := Tryz.func127.trans (congrArg some (by kernel_rfl))
  f320 := Tryz.func128.trans (congrArg some (by kernel_rfl))
  f321 := Tryz.func143.trans (congrArg some (by kernel_rfl))
  f322 := Tryz.func144.trans (congrArg some (by kernel_rfl))
  f337 := Tryz.func132.trans (congrArg some (by kernel_rfl))
  f338 := Tryz.func133.trans (congrArg some (by kernel_rfl))
  t0 := Tryz.underlying0
  a0 := Tryz.isAgg0
  z0 := Tryz.sizeOf0
  v0 := Tryz.zeroValue0
  t2 := Tryz.underlying2
  a2 := Tryz.isAgg2
  z2 := Tryz.sizeOf2
  v2 := Tryz.zeroValue2
  t3 := Tryz.underlying3
  a3 := Tryz.isAgg3
  z3 := Tryz.sizeOf3
  v3 := Tryz.zeroValue3
  t4 := Tryz.underlying4
  a4 := Tryz.isAgg4
  z4 := Tryz.sizeOf4
  v4 := Tryz.zeroValue4
  t5 := Tryz.underlying5
  a5 := Tryz.isAgg5
  z5 := Tryz.sizeOf5
  v5 := Tryz.zeroValue5
  t9 := Tryz.underlying9
  a9 := Tryz.isAgg9
  z9 := Tryz.sizeOf9
  v9 := Tryz.zeroValue9
  t20 := Tryz.underlying20
  a20 := Tryz.isAgg20
  z20 := Tryz.sizeOf20
  v20 := Tryz.zeroValue20
  t21 := Tryz.underlying21
  a21 := Tryz.isAgg21
  z21 := Tryz.sizeOf21
  v21 := Tryz.zeroValue21
  t37 := Tryz.underlying73
  a37 := Tryz.isAgg73
  z37 := Tryz.sizeOf73
  v37 := Tryz.zeroValue73
  t46 := Tryz.underlying142
  a46 := Tryz.isAgg142
  z46 := Tryz.sizeOf142
  v46 := Tryz.zeroValue142
  t51 := Tryz.underlying152
  a51 := Tryz.isAgg152
  z51 := Tryz.sizeOf152
  v51 := Tryz.zeroValue152
  t53 := Tryz.underlying150
  a53 := Tryz.isAgg150
  z53 := Tryz.sizeOf150
  v53 := Tryz.zeroValue150
  t75 := Tryz.underlying77
  a75 := Tryz.isAgg77
  z75 := Tryz.sizeOf77
  v75 := Tryz.zeroValue77
  t76 := Tryz.underlying78
  a76 := Tryz.isAgg78
  z76 := Tryz.sizeOf78
  v76 := Tryz.zeroValue78
  t85 := Tryz.underlying179
  a85 := Tryz.isAgg179
  z85 := Tryz.sizeOf179
  v85 := Tryz.zeroValue179
  t127 := Tryz.underlying106
  a127 := Tryz.isAgg106
  z127 := Tryz.sizeOf106
  v127 := Tryz.zeroValue106
  t143 := Tryz.underlying193
  a143 := Tryz.isAgg193
  z143 := Tryz.sizeOf193
  v143 := Tryz.zeroValue193
  t145 := Tryz.underlying195
  a145 := Tryz.isAgg195
  z145 := Tryz.sizeOf195
  v145 := Tryz.zeroValue195
  t167 := Tryz.underlying178
  a167 := Tryz.isAgg178
  z167 := Tryz.sizeOf178
  v167 := Tryz.zeroValue178
  t168 := Tryz.underlying181
  a168 := Tryz.isAgg181
  z168 := Tryz.sizeOf181
  v168 := Tryz.zeroValue181
  t171 := Tryz.underlying159
  a171 := Tryz.isAgg159
  z171 := Tryz.sizeOf159
  v171 := Tryz.zeroValue159
  t173 := Tryz.underlying162
  a173 := Tryz.isAgg162
  z173 := Tryz.sizeOf162
  v173 := Tryz.zeroValue162
  t175 := Tryz.underlying186
  a175 := Tryz.isAgg186
  z175 := Tryz.sizeOf186
  v175 := Tryz.zeroValue186
  t210 := Tryz.underlying190
  a210 := Tryz.isAgg190
  z210 := Tryz.sizeOf190
  v210 := Tryz.zeroValue190
  t212 := Tryz.underlying168
  a212 := Tryz.isAgg168
  z212 := Tryz.sizeOf168
  v212 := Tryz.zeroValue168
  t213 := Tryz.underlying169
  a213 := Tryz.isAgg169
  z213 := Tryz.sizeOf169
  t232 := Tryz.underlying184
  a232 := Tryz.isAgg184
  z232 := Tryz.sizeOf184
  v232 := Tryz.zeroValue184
  t233 := Tryz.underlying185
  a233 := Tryz.isAgg185
  z233 := Tryz.sizeOf185
  v233 := Tryz.zeroValue185
  g15 := by kernel_rfl
  g16 := by kernel_rfl
  g17 := by kernel_rfl
  g18 := by kernel_rfl
  g19 := by kernel_rfl
  t80 := Tryz.underlying81
  a80 := Tryz.isAgg81
  z80 := Tryz.sizeOf81
  v80 := Tryz.zeroValue81
  i0 := by kernel_rfl
  i2 := by kernel_rfl
  i3 := by kernel_rfl
  i4 := by kernel_rfl
  i5 := by kernel_rfl
  i9 := by kernel_rfl
  i20 := by kernel_rfl
  i21 := by kernel_rfl
  i37 := by kernel_rfl
  i46 := by kernel_rfl
  i51 := by kernel_rfl
  i53 := by kernel_rfl
  i75 := by kernel_rfl
  i76 := by kernel_rfl
  i80 := by kernel_rfl
  i85 := by kernel_rfl
  i127 := by kernel_rfl
  i143 := by kernel_rfl
  i145 := by kernel_rfl
  i167 := by kernel_rfl
  i168 := by kernel_rfl
  i171 := by kernel_rfl
  i173 := by kernel_rfl
  i175 := by kernel_rfl
  i210 := by kernel_rfl
  i212 := by kernel_rfl
  i232 := by kernel_rfl
  i233 := by kernel_rfl
  m15 := by kernel_rfl
  m16 := by kernel_rfl
  m17 := by kernel_rfl
  m18 := by kernel_rfl
  m19 := by kernel_rfl
  c0 := by kernel_rfl
  c2 := by kernel_rfl
  c3 := by kernel_rfl
  c4 := by kernel_rfl
  c5 := by kernel_rfl
  c9 := by kernel_rfl
  c20 := by kernel_rfl
  c21 := by kernel_rfl
  c37 := by kernel_rfl
  c46 := by kernel_rfl
  c51 := by kernel_rfl
  c53 := by kernel_rfl
  c75 := by kernel_rfl
  c76 := by kernel_rfl
  c80 := by kernel_rfl
  c85 := by kernel_rfl
  c127 := by kernel_rfl
  c143 := by kernel_rfl
  c145 := by kernel_rfl
  c167 := by kernel_rfl
  c168 := by kernel_rfl
  c171 := by kernel_rfl
  c173 := by kernel_rfl
  c175 := by kernel_rfl
  c210 := by kernel_rfl
  c212 := by kernel_rfl
  c213 := by kernel_rfl
  c232 := by kernel_rfl
  c233 := by kernel_rfl }
open Go.RowKit in
theorem sh_strconv_Atoi_ok (s : ByteArray) (hmax : s.size ≤ 9223372036854775806) (v : Int) (h : Lib.atoiAll s.data.toList = .ok v) (w : World) :
  Calls Tryz.prog 123 #[.string s] w fun e w' => e = .returned (.tuple #[.int .i64 v, .nilIface]) ∧ (w' = w ∨ ∃ t, w' = Lib.bytesWorld w 5 t) := Any.strconv_Atoi_ok sh_laysC172 s hmax v h w
open Go.RowKit in
theorem sh_strconv_Atoi_syntax (s : ByteArray) (hlim : s.size ≤ 281474976710656) (h : Lib.atoiAll s.data.toList = (Lib.NumEnd.ofOption none)) (ev : Value) (w : World) (hv : w.cell? ⟨6, 0, none⟩ = some ev) (hev : ev = .nilIface ∨ ∃ te pe, ev = .iface te pe) :
  Calls Tryz.prog 123 #[.string s] w fun e w' => ∃ N, e = .returned (.tuple #[.int .i64 (0), .iface 181 (.pointer (some ⟨N, 0, none⟩))]) ∧ w.heap.size ≤ N ∧ w'.heap[N]? = some (.cells #[.string ⟨#[65, 116, 111, 105]⟩, .string s, ev] 190 (0, 0)) ∧ Below w.heap.size w w' := Any.strconv_Atoi_syntax sh_laysC172 s hlim h ev w hv hev
open Go.RowKit in
theorem sh_strconv_Atoi_range (s : ByteArray) (hlim : s.size ≤ 281474976710656) (h : Lib.atoiAll s.data.toList = .range) (ev : Value) (w : World) (hv : w.cell? ⟨7, 0, none⟩ = some ev) (hev : ev = .nilIface ∨ ∃ te pe, ev = .iface te pe) :
  Calls Tryz.prog 123 #[.string s] w fun e w' => ∃ N, e = .returned (.tuple #[.int .i64 (Lib.atoiSat s.data.toList), .iface 181 (.pointer (some ⟨N, 0, none⟩))]) ∧ w.heap.size ≤ N ∧ w'.heap[N]? = some (.cells #[.string ⟨#[65, 116, 111, 105]⟩, .string s, ev] 190 (0, 0)) ∧ Below w.heap.size w w' := Any.strconv_Atoi_range sh_laysC172 s hlim h ev w hv hev
def sh_lays145_ren : Go.Shelf.Ren := ⟨fun | 145 => 51 | 220 => 74 | 219 => 87 | 217 => 97 | 225 => 98 | 224 => 99 | 267 => 100 | 266 => 105 | 314 => 106 | n => n, fun | 9 => 9 | 4 => 4 | 59 => 90 | 3 => 3 | 5 => 5 | 46 => 142 | 146 => 153 | 51 => 152 | n => n, fun | 1 => 0 | n => n⟩
theorem sh_lays145 : Go.Proofs.Lays.n145 Tryz.prog sh_lays145_ren := {
  mixed := by kernel_rfl
  f145 := Tryz.func51.trans (congrArg some (by kernel_rfl))
  f217 := Tryz.func97.trans (congrArg some (by kernel_rfl))
  f219 := Tryz.func87.trans (congrArg some (by kernel_rfl))
  f220 := Tryz.func74.trans (congrArg some (by kernel_rfl))
  f224 := Tryz.func99.trans (congrArg some (by kernel_rfl))
  f225 := Tryz.func98.trans (congrArg some (by kernel_rfl))
  f266 := Tryz.func105.trans (congrArg some (by kernel_rfl))
  f267 := Tryz.func100.trans (congrArg some (by kernel_rfl))
  f314 := Tryz.func106.trans (congrArg some (by kernel_rfl))
  t3 := Tryz.underlying3
  a3 := Tryz.isAgg3
  z3 := Tryz.sizeOf3
  v3 := Tryz.zeroValue3
  t4 := Tryz.underlying4
  a4 := Tryz.isAgg4
  z4 := Tryz.sizeOf4
  v4 := Tryz.zeroValue4
  t5 := Tryz.underlying5
  a5 := Tryz.isAgg5
  z5 := Tryz.sizeOf5
  v5 := Tryz.zeroValue5
  t9 := Tryz.underlying9
  a9 := Tryz.isAgg9
  z9 := Tryz.sizeOf9
  v9 := Tryz.zeroValue9
  t46 := Tryz.underlying142
  a46 := Tryz.isAgg142
  z46 := Tryz.sizeOf142
  v46 := Tryz.zeroValue142
  t51 := Tryz.underlying152
  a51 := Tryz.isAgg152
  z51 := Tryz.sizeOf152
  v51 := Tryz.zeroValue152
  t59 := Tryz.underlying90
  a59 := Tryz.isAgg90
  z59 := Tryz.sizeOf90
  v59 := Tryz.zeroValue90
  t146 := Tryz.underlying153
  a146 := Tryz.isAgg153
  z146 := Tryz.sizeOf153
  v146 := Tryz.zeroValue153
  g1 := by kernel_rfl }
open Go.RowKit Go.Lib in
theorem sh_strings_Cut (s sep : ByteArray) (m : Int) (w : World) (hs : s.size < 4294967281) (hm : w.cell? ⟨0, 0, none⟩ = some (.int .i64 m)) :
  Calls Tryz.prog 51 #[.string s, .string sep] w fun e w' => e = .returned (.tuple #[.string ⟨(Lib.cut s.data.toList sep.data.toList).1.toArray⟩, .string ⟨(Lib.cut s.data.toList sep.data.toList).2.1.toArray⟩, .bool (Lib.cut s.data.toList sep.data.toList).2.2]) ∧ ∃ n, w' = w.drewN n := Any.strings_Cut sh_lays145 s sep m w hs hm
def sh_laysM176_ren : Go.Shelf.Ren := ⟨fun | 176 => 85 | 249 => 95 | 288 => 104 | 283 => 115 | 284 => 116 | 285 => 117 | 286 => 118 | 129 => 125 | 317 => 124 | 318 => 126 | 319 => 127 | 320 => 128 | 337 => 132 | 338 => 133 | n => n, fun | 37 => 73 | 2 => 2 | 3 => 3 | 53 => 150 | 4 => 4 | 9 => 9 | 171 => 159 | 0 => 0 | 173 => 162 | 212 => 168 | 51 => 152 | 5 => 5 | 20 => 20 | 213 => 169 | 46 => 142 | 232 => 184 | 233 => 185 | n => n, fun | 17 => 1 | 18 => 4 | 19 => 5 | n => n⟩
theorem sh_laysM176 : Go.Proofs.LaysM.n176 Tryz.prog sh_laysM176_ren := {
  mixed := by kernel_rfl
  f129 := Tryz.func125.trans (congrArg some (by kernel_rfl))
  f176 := Tryz.func85.trans (congrArg some (by kernel_rfl))
  f249 := Tryz.func95.trans (congrArg some (by kernel_rfl))
  f283 := Tryz.func115.trans (congrArg some (by kernel_rfl))
  f284 := Tryz.func116.trans (congrArg some (by kernel_rfl))
  f285 := Tryz.func117.trans (congrArg some (by kernel_rfl))
  f286 := Tryz.func118.trans (congrArg some (by kernel_rfl))
  f288 := Tryz.func104.trans (congrArg some (by kernel_rfl))
  f317 := Tryz.func124.trans (congrArg some (by kernel_rfl))
  f318 := Tryz.func126.trans (congrArg some (by kernel_rfl))
  f319 := Tryz.func127.trans (congrArg some (by kernel_rfl))
  f320 := Tryz.func128.trans (congrArg some (by kernel_rfl))
  f337 := Tryz.func132.trans (congrArg some (by kernel_rfl))
  f338 := Tryz.func133.trans (congrArg some (by kernel_rfl))
  t0 := Tryz.underlying0
  a0 := Tryz.isAgg0
  z0 := Tryz.sizeOf0
  v0 := Tryz.zeroValue0
  t2 := Tryz.underlying2
  a2 := Tryz.isAgg2
  z2 := Tryz.sizeOf2
  v2 := Tryz.zeroValue2
  t3 := Tryz.underlying3
  a3 := Tryz.isAgg3
  z3 := Tryz.sizeOf3
  v3 := Tryz.zeroValue3
  t4 := Tryz.underlying4
  a4 := Tryz.isAgg4
  z4 := Tryz.sizeOf4
  v4 := Tryz.zeroValue4
  t5 := Tryz.underlying5
  a5 := Tryz.isAgg5
  z5 := Tryz.sizeOf5
  v5 := Tryz.zeroValue5
  t9 := Tryz.underlying9
  a9 := Tryz.isAgg9
  z9 := Tryz.sizeOf9
  v9 := Tryz.zeroValue9
  t20 := Tryz.underlying20
  a20 := Tryz.isAgg20
  z20 := Tryz.sizeOf20
  v20 := Tryz.zeroValue20
  t37 := Tryz.underlying73
  a37 := Tryz.isAgg73
  z37 := Tryz.sizeOf73
  v37 := Tryz.zeroValue73
  t46 := Tryz.underlying142
  a46 := Tryz.isAgg142
  z46 := Tryz.sizeOf142
  v46 := Tryz.zeroValue142
  t51 := Tryz.underlying152
  a51 := Tryz.isAgg152
  z51 := Tryz.sizeOf152
  v51 := Tryz.zeroValue152
  t53 := Tryz.underlying150
  a53 := Tryz.isAgg150
  z53 := Tryz.sizeOf150
  v53 := Tryz.zeroValue150
  t171 := Tryz.underlying159
  a171 := Tryz.isAgg159
  z171 := Tryz.sizeOf159
  v171 := Tryz.zeroValue159
  t173 := Tryz.underlying162
  a173 := Tryz.isAgg162
  z173 := Tryz.sizeOf162
  v173 := Tryz.zeroValue162
  t212 := Tryz.underlying168
  a212 := Tryz.isAgg168
  z212 := Tryz.sizeOf168
  v212 := Tryz.zeroValue168
  t213 := Tryz.underlying169
  a213 := Tryz.isAgg169
  z213 := Tryz.sizeOf169
  t232 := Tryz.underlying184
  a232 := Tryz.isAgg184
  z232 := Tryz.sizeOf184
  v232 := Tryz.zeroValue184
  t233 := Tryz.underlying185
  a233 := Tryz.isAgg185
  z233 := Tryz.sizeOf185
  v233 := Tryz.zeroValue185
  g17 := by kernel_rfl
  g18 := by kernel_rfl
  g19 := by kernel_rfl
  i0 := by kernel_rfl
  i2 := by kernel_rfl
  i3 := by kernel_rfl
  i4 := by kernel_rfl
  i5 := by kernel_rfl
  i9 := by kernel_rfl
  i20 := by kernel_rfl
  i37 := by kernel_rfl
  i46 := by kernel_rfl
  i51 := by kernel_rfl
  i53 := by kernel_rfl
  i171 := by kernel_rfl
  i173 := by kernel_rfl
  i212 := by kernel_rfl
  i232 := by kernel_rfl
  i233 := by kernel_rfl
  m17 := by kernel_rfl
  m18 := by kernel_rfl
  m19 := by kernel_rfl }
open Go.RowKit Go.Sort Go.Lib in
theorem sh_strconv_AppendInt_10 (B n : Nat) (i : Int) (h0 : -9223372036854775808 ≤ i) (h1 : i ≤ 9223372036854775807) (sv : Value) (xs : List Value) (w : World) (hown : w.ownsRow B 5 1 sv n xs) (hBw : B ≤ w.heap.size) (hlim : n + 21 ≤ 140737488355328) (htab : Lib.TabBelow Tryz.prog B w "internal/strconv.uint64pow10" .u64 Lib.pow10Tab) :
  Calls Tryz.prog 85 #[sv, .int .i64 i, .int .i64 10] w fun e w' => ∃ v', e = .returned v' ∧ w'.ownsRow B 5 1 v' (n + (Lib.itoa i).length) (xs ++ Lib.byteCells (Lib.itoa i)) ∧ Below B w w' ∧ Lib.OthersKept 5 none w w' := Any.strconv_AppendInt_10 sh_laysM176 B n i h0 h1 sv xs w hown hBw hlim htab
def sh_lays146_ren : Go.Shelf.Ren := ⟨fun | 146 => 88 | 221 => 101 | 268 => 107 | 138 => 108 | 143 => 109 | 195 => 119 | 197 => 120 | 218 => 121 | 219 => 87 | 260 => 129 | 217 => 97 | 225 => 98 | 224 => 99 | 267 => 100 | 266 => 105 | 314 => 106 | n => n, fun | 9 => 9 | 31 => 23 | 3 => 3 | 4 => 4 | 0 => 0 | 105 => 165 | 21 => 21 | 5 => 5 | 46 => 142 | 119 => 174 | 139 => 177 | 138 => 176 | 146 => 153 | 51 => 152 | n => n, fun | 1 => 0 | 3 => 2 | 4 => 3 | n => n⟩
theorem sh_lays146 : Go.Proofs.Lays.n146 Tryz.prog sh_lays146_ren := {
  mixed := by kernel_rfl
  f138 := Tryz.func108.trans (congrArg some (by kernel_rfl))
  f143 := Tryz.func109.trans (congrArg some (by kernel_rfl))
  f146 := Tryz.func88.trans (congrArg some (by kernel_rfl))
  f195 := Tryz.func119.trans (congrArg some (by kernel_rfl))
  f197 := Tryz.func120.trans (congrArg some (by kernel_rfl))
  f217 := Tryz.func97.trans (congrArg some (by kernel_rfl))
  f218 := Tryz.func121.trans (congrArg some (by kernel_rfl))
  f219 := Tryz.func87.trans (congrArg some (by kernel_rfl))
  f221 := Tryz.func101.trans (congrArg some (by kernel_rfl))
  f224 := Tryz.func99.trans (congrArg some (by kernel_rfl))
  f225 := Tryz.func98.trans (congrArg some (by kernel_rfl))
  f260 := Tryz.func129.trans (congrArg some (by kernel_rfl))
  f266 := Tryz.func105.trans (congrArg some (by kernel_rfl))
  f267 := Tryz.func100.trans (congrArg some (by kernel_rfl))
  f268 := Tryz.func107.trans (congrArg some (by kernel_rfl))
  f314 := Tryz.func106.trans (congrArg some (by kernel_rfl))
  t0 := Tryz.underlying0
  a0 := Tryz.isAgg0
  z0 := Tryz.sizeOf0
  v0 := Tryz.zeroValue0
  t3 := Tryz.underlying3
  a3 := Tryz.isAgg3
  z3 := Tryz.sizeOf3
  v3 := Tryz.zeroValue3
  t4 := Tryz.underlying4
  a4 := Tryz.isAgg4
  z4 := Tryz.sizeOf4
  v4 := Tryz.zeroValue4
  t5 := Tryz.underlying5
  a5 := Tryz.isAgg5
  z5 := Tryz.sizeOf5
  v5 := Tryz.zeroValue5
  t9 := Tryz.underlying9
  a9 := Tryz.isAgg9
  z9 := Tryz.sizeOf9
  v9 := Tryz.zeroValue9
  t21 := Tryz.underlying21
  a21 := Tryz.isAgg21
  z21 := Tryz.sizeOf21
  v21 := Tryz.zeroValue21
  t31 := Tryz.underlying23
  a31 := Tryz.isAgg23
  z31 := Tryz.sizeOf23
  v31 := Tryz.zeroValue23
  t46 := Tryz.underlying142
  a46 := Tryz.isAgg142
  z46 := Tryz.sizeOf142
  v46 := Tryz.zeroValue142
  t51 := Tryz.underlying152
  a51 := Tryz.isAgg152
  z51 := Tryz.sizeOf152
  v51 := Tryz.zeroValue152
  t105 := Tryz.underlying165
  a105 := Tryz.isAgg165
  z105 := Tryz.sizeOf165
  v105 := Tryz.zeroValue165
  t119 := Tryz.underlying174
  a119 := Tryz.isAgg174
  z119 := Tryz.sizeOf174
  t138 := Tryz.underlying176
  a138 := Tryz.isAgg176
  z138 := Tryz.sizeOf176
  v138 := Tryz.zeroValue176
  t139 := Tryz.underlying177
  a139 := Tryz.isAgg177
  z139 := Tryz.sizeOf177
  v139 := Tryz.zeroValue177
  t146 := Tryz.underlying153
  a146 := Tryz.isAgg153
  z146 := Tryz.sizeOf153
  v146 := Tryz.zeroValue153
  g1 := by kernel_rfl
  g3 := by kernel_rfl
  g4 := by kernel_rfl }
open Go.RowKit Go.Lib in
theorem sh_strings_Split (s sep : ByteArray) (m : Int) (w : World) (hs : s.size < 4294967281) (hm : w.cell? ⟨0, 0, none⟩ = some (.int .i64 m)) (h1 : 1 ≤ sep.size) :
  Calls Tryz.prog 88 #[.string s, .string sep] w fun e w' =>
   e = .returned (.slice (some ⟨w.heap.size, 0, none⟩) (Lib.countB s sep + 1) (Lib.countB s sep + 1)) ∧ w' = w.alloc (.cells ((Lib.splitB sep 0 (Lib.countB s sep) s).map Value.string).toArray 9) := Any.strings_Split sh_lays146 (by kernel_rfl) s sep m w hs hm h1
def sh_lays147_ren : Go.Shelf.Ren := ⟨fun | 147 => 91 | 221 => 101 | 268 => 107 | 138 => 108 | 143 => 109 | 195 => 119 | 197 => 120 | 218 => 121 | 219 => 87 | 260 => 129 | 217 => 97 | 225 => 98 | 224 => 99 | 267 => 100 | 266 => 105 | 314 => 106 | n => n, fun | 9 => 9 | 3 => 3 | 31 => 23 | 4 => 4 | 0 => 0 | 105 => 165 | 21 => 21 | 5 => 5 | 46 => 142 | 119 => 174 | 139 => 177 | 138 => 176 | 146 => 153 | 51 => 152 | n => n, fun | 1 => 0 | 3 => 2 | 4 => 3 | n => n⟩
theorem sh_lays147 : Go.Proofs.Lays.n147 Tryz.prog sh_lays147_ren := {
  mixed := by kernel_rfl
  f138 := Tryz.func108.trans (congrArg some (by kernel_rfl))
  f143 := Tryz.func109.trans (congrArg some (by kernel_rfl))
  f147 := Tryz.func91.trans (congrArg some (by kernel_rfl))
  f195 := Tryz.func119.trans (congrArg some (by kernel_rfl))
  f197 := Tryz.func120.trans (congrArg some (by kernel_rfl))
  f217 := Tryz.func97.trans (congrArg some (by kernel_rfl))
  f218 := Tryz.func121.trans (congrArg some (by kernel_rfl))
  f219 := Tryz.func87.trans (congrArg some (by kernel_rfl))
  f221 := Tryz.func101.trans (congrArg some (by kernel_rfl))
  f224 := Tryz.func99.trans (congrArg some (by kernel_rfl))
  f225 := Tryz.func98.trans (congrArg some (by kernel_rfl))
  f260 := Tryz.func129.trans (congrArg some (by kernel_rfl))
  f266 := Tryz.func105.trans (congrArg some (by kernel_rfl))
  f267 := Tryz.func100.trans (congrArg some (by kernel_rfl))
  f268 := Tryz.func107.trans (congrArg some (by kernel_rfl))
  f314 := Tryz.func106.trans (congrArg some (by kernel_rfl))
  t0 := Tryz.underlying0
  a0 := Tryz.isAgg0
  z0 := Tryz.sizeOf0
  v0 := Tryz.zeroValue0
  t3 := Tryz.underlying3
  a3 := Tryz.isAgg3
  z3 := Tryz.sizeOf3
  v3 := Tryz.zeroValue3
  t4 := Tryz.underlying4
  a4 := Tryz.isAgg4
  z4 := Tryz.sizeOf4
  v4 := Tryz.zeroValue4
  t5 := Tryz.underlying5
  a5 := Tryz.isAgg5
  z5 := Tryz.sizeOf5
  v5 := Tryz.zeroValue5
  t9 := Tryz.underlying9
  a9 := Tryz.isAgg9
  z9 := Tryz.sizeOf9
  v9 := Tryz.zeroValue9
  t21 := Tryz.underlying21
  a21 := Tryz.isAgg21
  z21 := Tryz.sizeOf21
  v21 := Tryz.zeroValue21
  t31 := Tryz.underlying23
  a31 := Tryz.isAgg23
  z31 := Tryz.sizeOf23
  v31 := Tryz.zeroValue23
  t46 := Tryz.underlying142
  a46 := Tryz.isAgg142
  z46 := Tryz.sizeOf142
  v46 := Tryz.zeroValue142
  t51 := Tryz.underlying152
  a51 := Tryz.isAgg152
  z51 := Tryz.sizeOf152
  v51 := Tryz.zeroValue152
  t105 := Tryz.underlying165
  a105 := Tryz.isAgg165
  z105 := Tryz.sizeOf165
  v105 := Tryz.zeroValue165
  t119 := Tryz.underlying174
  a119 := Tryz.isAgg174
  z119 := Tryz.sizeOf174
  t138 := Tryz.underlying176
  a138 := Tryz.isAgg176
  z138 := Tryz.sizeOf176
  v138 := Tryz.zeroValue176
  t139 := Tryz.underlying177
  a139 := Tryz.isAgg177
  z139 := Tryz.sizeOf177
  v139 := Tryz.zeroValue177
  t146 := Tryz.underlying153
  a146 := Tryz.isAgg153
  z146 := Tryz.sizeOf153
  v146 := Tryz.zeroValue153
  g1 := by kernel_rfl
  g3 := by kernel_rfl
  g4 := by kernel_rfl }
open Go.RowKit Go.Lib in
theorem sh_strings_SplitN (s sep : ByteArray) (n : Nat) (m : Int) (w : World) (hs : s.size < 4294967281) (hm : w.cell? ⟨0, 0, none⟩ = some (.int .i64 m)) (h1 : 1 ≤ sep.size) (hn : 1 ≤ n) (hn63 : n ≤ 9223372036854775807) :
  Calls Tryz.prog 91 #[.string s, .string sep, .int .i64 n] w fun e w' =>
   e = .returned (.slice (some ⟨w.heap.size, 0, none⟩) (Lib.splitB sep 0 (min n (s.size + 1) - 1) s).length (min n (s.size + 1))) ∧ w' = w.alloc (.cells (Lib.cellsOf (Lib.splitB sep 0 (min n (s.size + 1) - 1) s) (min n (s.size + 1))) 9) := Any.strings_SplitN sh_lays147 (by kernel_rfl) s sep n m w hs hm h1 hn hn63
end Go.Proofs.YtmidibkljoaoiaaGreatDoor

/- The reader of words: a certain word; digits. No condition. -/
set_option maxRecDepth 4000
set_option linter.unusedSimpArgs false
set_option linter.unusedVariables false
namespace Go.Proofs.YtmidibkljoaoiaaGreatDoor
open Go Go.RowKit Go.Proofs.YtmidibkljoaoiaaGreatDoor.K Go.Proofs.YtmidibkljoaoiaaGreatDoor.M

theorem Word_C {R : Ro} {b : Nat} {a : Option Addr} {cp : Nat} {ws : List (List UInt8)} {k at' size : Nat} (w0 : World) (hws : RS R 1 encT a ws) (hsz : size ≤ 1000000) {want : List UInt8} (hat : k < ws.length → at' + (nth ws k).length ≤ 2000000) : FnXAt Tryz.prog 113 [.pointer (some ⟨b, 0, none⟩), .string (str want)] w0 R (rdE b a cp ws k at' size) (fun v R' e' N => v = .tuple #[] ∧ k < ws.length ∧ nth ws k = want ∧ R = R' ∧ e' = (rdE b a cp ws (k + 1) (at' + (nth ws k).length + 1) size) ∧ N = []) (fun v R' e' => v = failV (wordE ws want k at' size).1 (wordE ws want k at' size).2 ∧ (wordE ws want k at' size).2 ≠ 0 ∧ R = R' ∧ e' = (rdE b a cp ws k at' size)) := by
 intro F
 have hwl := hws.len
 refine FnX.enter (n := 16) Tryz.func113 rfl rfl (Nat.le_of_ble_eq_true rfl) rfl ?_
 refine zQ (zQ (zG (zR 1 rfl ?_)))
 refine WL.callXAt 0 en110 rfl rfl qD (CallOp.mkT rfl rfl rfl rfl) rfl (Need_C w0 hws hsz _) ?_ ?_
 ·
  rintro _ _ _ - ⟨rfl, hk, rfl, rfl⟩
  refine WE.then_panic ?_
  refine WE.then_panic ?_
  refine WE.panicX (RLe.refl _) ?_
  have hE : wordE ws want k at' size = (size, 4) := by unfold wordE; rw [if_neg hk]
  exact ⟨_, rfl, by rw [hE], by rw [hE]; show (4 : Int) ≠ 0; decide, rfl, rfl⟩
 rintro _ _ _ _ - ⟨rfl, hk, rfl, rfl, rfl⟩
 refine zR 1 rfl ?_
 refine WG.y rfl rfl qD (Yl.neS rfl rfl rfl (fun _ => rfl)) ?_
 refine zN (zU ?_)
 refine W.cond rfl (fun hc0 => ?_) (fun hc0 => ?_)
 ·try simp only [zk] at hc0
  have hne : nth ws k ≠ want := fun h => by rw [h] at hc0; simp at hc0
  have hE : wordE ws want k at' size = (at', 4) := by unfold wordE; rw [if_pos hk, if_neg hne]
  refine zG (zR 3 rfl ?_)
  refine yL (Rd.add (Rd.blk 0 rfl) _) ?_
  -- build
  refine WG.y rfl rfl qD (Yl.build (parts := [(0, .tmp 11), (1, .const (.int .i64 4))]) tab_ok rfl rfl rfl rfl (fun _ => rfl) rfl rfl) ?_
  refine WG.y rfl rfl qD (Yl.toIface tab_ok rfl rfl rfl rfl (fun _ => rfl)) ?_
  refine WL.panic rfl rfl rfl ?_
  refine WE.then_panic ?_
  refine WE.panicX (RLe.refl _) ?_
  exact ⟨_, rfl, by rw [hE]; rfl, by rw [hE]; show (4 : Int) ≠ 0; decide, rfl, rfl⟩
 ·try simp only [zk] at hc0
  have hew : nth ws k = want := str_inj (by simpa using hc0)
  refine zK (zU (zG (zR 1 rfl ?_)))
  refine WL.callAt 0 en111 rfl rfl qD (CallOp.mkT rfl rfl rfl rfl) rfl (Skip_C w0 hws hsz hk (hat hk) _) ?_
  rintro _ _ _ _ - ⟨rfl, rfl, rfl, rfl⟩
  refine zN ?_
  refine WE.endX tab_ok [] rfl trivial (RLe.refl _) ?_
  exact ⟨_, [], rfl, rfl, hk, hew, rfl, rfl, rfl⟩

theorem Digs_V {R : Ro} {w : List UInt8} (hw : w.length ≤ 1000000) : FnV Tryz.prog 122 [.string (str w)] R (.bool (digs w)) := by
 refine Fn.toV (fun w0 E => ?_)
 have hss := str_size w
 have hse : str w = ⟨#[]⟩ ↔ w = [] := ⟨fun h => str_inj (b := []) h, fun h => by rw [h]; rfl⟩
 have h0l : w ≠ [] → 0 < w.length := List.length_pos_iff.2
 refine fE 32 Tryz.func122 ?_
 refine zQ (zG (zR 1 rfl (zN (zU (zQ (zQ (zG (zR 1 rfl ?_))))))))
 refine WG.y rfl rfl qD (Yl.eqS rfl rfl rfl (fun _ => rfl)) ?_
 refine zR 1 rfl ?_
 refine yP ?_
 refine yP ?_
 refine yP ?_
 refine yP ?_
 refine yP ?_
 refine WG.y rfl rfl (by decide) (Yl.sidx tab_ok rfl rfl rfl rfl rfl qE (by intro hg; (try simp only [zk] at hg); (have h1 := hg.2; constructor <;> omega))) ?_
 refine yP ?_
 refine yN ?_
 refine yO ?_
 refine zN (zU ?_)
 refine W.cond rfl (fun hc0 => ?_) (fun hc0 => ?_)
 ·try simp only [zk] at hc0
  have hno : digs w = false := by
   unfold digs
   rw [decide_eq_false_iff_not]
   rintro ⟨h1, h2, _⟩
   rcases hc0 with h | h
   ·exact h1 (hse.1 h)
   ·exact h2 ⟨by omega, h.2⟩
  refine zQ (zG (zR 1 rfl (zN (zU (zT (wt ?_))))))
  refine sE (E := E) ?_
  refine WE.retF tab_ok [_] rfl ⟨rfl, trivial⟩ (RLe.refl _) ?_
  exact ⟨by rw [hno]; rfl, rfl⟩
 ·try simp only [zk] at hc0
  have hy1 : w ≠ [] := fun h => by rw [h] at hc0; simp [str] at hc0
  have hy2 : ¬ (1 < w.length ∧ byteAt w 0 = 48) := fun h => by
   obtain ⟨h1, h2⟩ := hc0
   exact h2 qO h.2
  refine zK (zU (zQ (zQ (zG (zR 1 rfl (zN (zU (zB ?_))))))))
  refine W.loopK (β := Nat) (fun i => i ≤ w.length ∧ ∀ j, j < i → 48 ≤ byteAt w j ∧ byteAt w j ≤ 57) (fun i => [(3, true, .int .i64 (i : Int))]) [0] [_] [] _ rfl (fun i => []) (fun i => w.length - i) (0) (⟨Nat.zero_le _, fun j hj => by omega⟩) ⟨rfl, rfl, rfl⟩ qS ?_
  intro i hst
  dsimp only [zipE, setAll, List.cons_append, List.nil_append, List.set_cons_zero, List.set_cons_succ] at hst ⊢
  
  refine zQ (zQ (zG (zR 4 rfl (zN (zU ?_)))))
  refine W.condD rfl (fun hc1 => ?_) (fun hc1 => ?_)
  ·try dsimp only at hc1
   have hil : i < w.length := by omega
   have hbt : byteAt w ((i : Int)).toNat = byteAt w i := rfl
   refine zK (zU (zQ (zB (zQ (zG (zR 2 rfl ?_))))))
   refine WG.y rfl rfl qD (Yl.sidx tab_ok rfl rfl rfl rfl rfl (fun _ => rfl) qA) ?_
   refine zR 2 rfl ?_
   refine yP ?_
   refine yP ?_
   refine WG.y rfl rfl (by decide) (Yl.sidx tab_ok rfl rfl rfl rfl rfl qE (by intro hg; (try simp only [zk] at hg); constructor <;> (try dsimp only) <;> omega)) ?_
   refine yP ?_
   refine yO ?_
   refine zN (zU ?_)
   refine W.cond rfl (fun hc2 => ?_) (fun hc2 => ?_)
   ·try simp only [zk] at hc2
    have hno : digs w = false := by
     unfold digs
     rw [decide_eq_false_iff_not]
     rintro ⟨_, _, h3⟩
     have := h3 i hil
     rw [hbt] at hc2
     omega
    refine zQ (zG (zR 1 rfl (zN (zU (zT (wb (wt (wt (wb (wt ?_))))))))))
    refine sE (E := E) ?_
    refine WE.retF tab_ok [_] rfl ⟨rfl, trivial⟩ (RLe.refl _) ?_
    exact ⟨by rw [hno]; rfl, rfl⟩
   ·try simp only [zk] at hc2
    rw [hbt] at hc2
    have hy : 48 ≤ byteAt w i ∧ byteAt w i ≤ 57 := by omega
    refine zK (zL (zU (zG (zR 1 rfl ?_))))
    refine yA ?_
    refine zR 1 rfl (zN ?_)
    refine WE.again (i + 1) (⟨by omega, fun j hj => by
     by_cases e : j = i
     ·subst e; exact hy
     ·exact hst.2 j (by omega)⟩) (by (try dsimp only); omega) ⟨rfl, rfl, rfl⟩ (RLe.refl _) qS
  ·try dsimp only at hc1
   obtain rfl : i = w.length := by omega
   refine zX ?_
   refine wx (wx (zY (zU (zQ (zG (zR 1 rfl (zN (zU (zT ?_)))))))))
   refine sE (E := E) ?_
   refine WE.retF tab_ok [_] rfl ⟨rfl, trivial⟩ (RLe.refl _) ?_
   exact ⟨by rw [show digs w = true from decide_eq_true ⟨hy1, hy2, hst.2⟩]; rfl, rfl⟩



theorem nilI77 : Tryz.prog.underlying 77 = some (.interface (Tryz.prog.methodsAt 77)) := by kernel_rfl
structure GlobE (R : Ro) : Prop where
 m : ∃ (m : Int) (rest : List Value), R 0 = some (.int .i64 m :: rest)
 pow : R 1 = some (Lib.pow10Tab.map fun z => Value.int .u64 z)
 es : ∃ (t : TypeId) (p : Value), R 6 = some [.iface t p]
 er : ∃ (t : TypeId) (p : Value), R 7 = some [.iface t p]
theorem GlobE.mono {R R' : Ro} (h : GlobE R) (hR : RLe R R') : GlobE R' := ⟨by obtain ⟨m, r, h⟩ := h.m; exact ⟨m, r, hR _ _ h⟩, hR _ _ h.pow, by obtain ⟨t, p, h⟩ := h.es; exact ⟨t, p, hR _ _ h⟩, by obtain ⟨t, p, h⟩ := h.er; exact ⟨t, p, hR _ _ h⟩⟩
theorem AtoiA_C {R : Ro} (hE : GlobE R) {s : List UInt8} (hs : s.length ≤ 4000000000) (w0 : World) (E : List Ent) : K.Fn Tryz.prog 123 [.string (str s)] w0 R E (fun v R' E' => ∃ (n : Int) (t : TypeId) (p : Value), (atBad s = false → Lib.atoiAll s = .ok n ∧ n = atNum s) ∧ InR n ∧ v = .tuple #[.int .i64 n, errV (atBad s) t p] ∧ R = R' ∧ E = E') := by
 intro w hm
 have hsz := str_size s
 have hli := str_list s
 obtain ⟨t1, p1, h1⟩ := hE.es
 obtain ⟨t2, p2, h2⟩ := hE.er
 rcases h : Lib.atoiAll s with v | _ | _
 ·refine (sh_strconv_Atoi_ok (str s) (by omega) v (by rw [hli]; exact h) w).mono ?_
  obtain ⟨e1, e2⟩ := atBad_ok h
  rintro e w' ⟨rfl, hw⟩
  refine ⟨_, R, E, rfl, RLe.refl _, hm.belowAll ?_, v, 0, .nilIface, fun _ => ⟨rfl, e2.symm⟩, Lib.atoiAll_bounds h, by rw [e1]; rfl, rfl, rfl⟩
  rcases hw with rfl | ⟨t, rfl⟩
  ·exact Below.refl _ _
  ·exact Lib.bytesWorld_below w _ t
 ·refine (sh_strconv_Atoi_syntax (str s) (by omega) (by rw [hli]; exact h) _ w (hm.cell h1) (.inr ⟨_, _, rfl⟩)).mono ?_
  have e1 : atBad s = true := by unfold atBad; rw [h]
  rintro e w' ⟨N, rfl, _, _, hb⟩
  exact ⟨_, R, E, rfl, RLe.refl _, hm.belowAll hb, 0, _, _, fun hh => absurd (e1.symm.trans hh) (by decide), by constructor <;> decide, by rw [e1]; rfl, rfl, rfl⟩
 ·refine (sh_strconv_Atoi_range (str s) (by omega) (by rw [hli]; exact h) _ w (hm.cell h2) (.inr ⟨_, _, rfl⟩)).mono ?_
  have e1 : atBad s = true := by unfold atBad; rw [h]
  rintro e w' ⟨N, rfl, _, _, hb⟩
  exact ⟨_, R, E, rfl, RLe.refl _, hm.belowAll hb, Lib.atoiSat (str s).data.toList, _, _, fun hh => absurd (e1.symm.trans hh) (by decide), by unfold Lib.atoiSat; split <;> constructor <;> decide, by rw [e1]; rfl, rfl, rfl⟩

theorem Number_C {R : Ro} {b : Nat} {a : Option Addr} {cp : Nat} {ws : List (List UInt8)} {k at' size : Nat} (w0 : World) (hws : RS R 1 encT a ws) (hsz : size ≤ 1000000) (hG : GlobE R) (hlw : ∀ w ∈ ws, w.length ≤ 1000000) (hat : k < ws.length → at' + (nth ws k).length ≤ 2000000) : FnXAt Tryz.prog 112 [.pointer (some ⟨b, 0, none⟩)] w0 R (rdE b a cp ws k at' size) (fun v R' e' N => v = .int .i64 (numV (nth ws k) : Int) ∧ k < ws.length ∧ numE ws k at' size = (0, 0) ∧ R = R' ∧ e' = (rdE b a cp ws (k + 1) (at' + (nth ws k).length + 1) size) ∧ N = []) (fun v R' e' => v = failV (numE ws k at' size).1 (numE ws k at' size).2 ∧ (numE ws k at' size).2 ≠ 0 ∧ R = R' ∧ e' = (rdE b a cp ws k at' size)) := by
 intro F
 have hwl := hws.len
 refine FnX.enter (n := 37) Tryz.func112 rfl rfl (Nat.le_of_ble_eq_true rfl) rfl ?_
 refine zQ (zG (zR 1 rfl (zN (zU (zQ (zG (zR 1 rfl ?_)))))))
 refine WL.callXAt 0 en110 rfl rfl qD (CallOp.mkT rfl rfl rfl rfl) rfl (Need_C w0 hws hsz _) ?_ ?_
 ·
  rintro _ _ _ - ⟨rfl, hk, rfl, rfl⟩
  refine WE.then_panic ?_
  refine WE.panicX (RLe.refl _) ?_
  have hE : numE ws k at' size = (size, 4) := by unfold numE; rw [if_neg hk]
  exact ⟨_, rfl, by rw [hE], by rw [hE]; show (4 : Int) ≠ 0; decide, rfl, rfl⟩
 rintro _ _ _ _ - ⟨rfl, hk, rfl, rfl, rfl⟩
 refine zR 1 rfl (zN (zU (zQ (zQ (zG (zR 1 rfl ?_))))))
 refine WG.callV en122 rfl rfl qD (CallOp.mk' rfl rfl rfl rfl) (fun _ => rfl) (fun hg => Digs_V (hlw _ (nth_mem hk))) ?_
 refine zR 1 rfl (zN (zU ?_))
 refine W.cond rfl (fun hc0 => ?_) (fun hc0 => ?_)
 ·try simp only [zk] at hc0
  have hE : numE ws k at' size = (at', 4) := by unfold numE; rw [if_pos hk, if_neg (by rw [hc0]; decide)]
  refine zG (zR 3 rfl ?_)
  refine yL (Rd.add (Rd.blk 0 rfl) _) ?_
  -- build
  refine WG.y rfl rfl qD (Yl.build (parts := [(0, .tmp 14), (1, .const (.int .i64 4))]) tab_ok rfl rfl rfl rfl (fun _ => rfl) rfl rfl) ?_
  refine WG.y rfl rfl qD (Yl.toIface tab_ok rfl rfl rfl rfl (fun _ => rfl)) ?_
  refine WL.panic rfl rfl rfl ?_
  refine WE.then_panic ?_
  refine WE.panicX (RLe.refl _) ?_
  exact ⟨_, rfl, by rw [hE]; rfl, by rw [hE]; show (4 : Int) ≠ 0; decide, rfl, rfl⟩
 ·try simp only [zk] at hc0
  refine zK (zU (zQ (zG (zR 1 rfl ?_))))
  refine WL.call en123 rfl rfl qD (CallOp.mkT rfl rfl rfl rfl) (AtoiA_C hG (s := nth ws k) (by have := hlw _ (nth_mem hk); omega) w0 _) ?_
  rintro _ _ _ - ⟨n, t, p, hn, hr, rfl, rfl, rfl⟩
  obtain ⟨hd1, hd2⟩ := digs_num hc0
  refine zR 5 rfl (zN (zU (zQ (zQ (zG (zR 1 rfl ?_))))))
  refine WG.y rfl rfl qD (Yl.neNilI nilI77 rfl rfl rfl (fun _ => rfl) (errV_cases _ _ _)) ?_
  refine zR 1 rfl ?_
  refine yP ?_
  refine yP ?_
  refine yO ?_
  refine zN (zU ?_)
  refine W.cond rfl (fun hc1 => ?_) (fun hc1 => ?_)
  ·try simp only [zk] at hc1
   have hE : numE ws k at' size = (at', 2) := by
    unfold numE
    rw [if_pos hk, if_pos hc0, if_pos]
    cases hb : atBad (nth ws k) with
    | true => exact hd2 hb
    | false => have e1 := hd1 hb; have e2 := (hn hb).2; rw [hb] at hc1; simp at hc1; omega
   refine zG (zR 3 rfl ?_)
   refine yL (Rd.add (Rd.blk 0 rfl) _) ?_
   -- build
   refine WG.y rfl rfl qD (Yl.build (parts := [(0, .tmp 31), (1, .const (.int .i64 2))]) tab_ok rfl rfl rfl rfl (fun _ => rfl) rfl rfl) ?_
   refine WG.y rfl rfl qD (Yl.toIface tab_ok rfl rfl rfl rfl (fun _ => rfl)) ?_
   refine WL.panic rfl rfl rfl ?_
   refine WE.then_panic ?_
   refine WE.panicX (RLe.refl _) ?_
   exact ⟨_, rfl, by rw [hE]; rfl, by rw [hE]; show (2 : Int) ≠ 0; decide, rfl, rfl⟩
  ·try simp only [zk] at hc1
   have e1 := hd1 hc1.1
   have e2 := (hn hc1.1).2
   have hE : numE ws k at' size = (0, 0) := by unfold numE; rw [if_pos hk, if_pos hc0, if_neg (by omega)]
   have hnv : n = (numV (nth ws k) : Int) := by omega
   refine zK (zU (zQ (zG (zR 1 rfl ?_))))
   refine WL.callAt 0 en111 rfl rfl qD (CallOp.mkT rfl rfl rfl rfl) rfl (Skip_C w0 hws hsz hk (hat hk) _) ?_
   rintro _ _ _ _ - ⟨rfl, rfl, rfl, rfl⟩
   refine zN (zU (zQ (zG (zR 2 rfl (zN (zU (zT ?_)))))))
   refine WE.retX tab_ok [_] rfl ⟨rfl, trivial⟩ (RLe.refl _) ?_
   exact ⟨_, [], rfl, by rw [hnv]; rfl, hk, hE, rfl, rfl, rfl⟩

end Go.Proofs.YtmidibkljoaoiaaGreatDoor
