/- The plain functions that the walks speak of: traces and numbers out of a list. No condition. -/
import Derived.Test.YtcfnckccmkjjlaaMore
namespace Go.Proofs.Ytcfnckccmkjjlaa.M
open Go Go.Proofs.Ytcfnckccmkjjlaa.K

structure Pkt where
  flow : Int
  time : Int
  size : Int
instance instPkt : Inhabited Pkt := ⟨⟨0, 0, 0⟩⟩
def encP (p : Pkt) : List Value := [.int .i64 p.flow, .int .i64 p.time, .int .i64 p.size]
def valP (p : Pkt) : Value := .agg #[.int .i64 p.flow, .int .i64 p.time, .int .i64 p.size]

/-- a slice in a slice -/
structure Sl where
  a : Option Addr
  cap : Nat
  xs : List Int
instance instSl : Inhabited Sl := ⟨⟨none, 0, []⟩⟩
def encS (s : Sl) : List Value := [.slice s.a s.xs.length s.cap]

def mod (x n : Int) : Int := if n < 1 then 0 else x % n
theorem mod_range (x : Int) {n : Int} (h : 1 ≤ n) : 0 ≤ mod x n ∧ mod x n < n := by
  unfold mod
  rw [if_neg (by omega)]
  exact ⟨Int.emod_nonneg x (by omega), Int.emod_lt_of_pos x (by omega)⟩

/-- the reader of numbers: c of them have been read -/
def srcE (b : Nat) (a : Option Addr) (cp : Nat) (xs : List Int) (c : Nat) : Ent := .blk b [.slice a xs.length cp, .int .i64 ((min c xs.length : Nat) : Int)]

def pick7 (i : Int) : Int := nth [0, 0, 0, 1, 1, 2, 7] i.toNat
theorem pick7_range (i : Int) : 0 ≤ pick7 i ∧ pick7 i ≤ 7 := by
  unfold pick7
  generalize i.toNat = k
  match k with
  | 0 | 1 | 2 | 3 | 4 | 5 | 6 => simp [nth]
  | k + 7 => simp [nth]

def trafficGo (xs : List Int) (flows most : Int) : Nat → Nat → Int → List Pkt
  | 0, _, _ => []
  | k + 1, c, t => ⟨mod (nth xs c) flows, t, 1 + mod (nth xs (c + 1)) most⟩ :: trafficGo xs flows most k (c + 3) (t + pick7 (mod (nth xs (c + 2)) 7))
def trafficK (xs : List Int) (n : Int) (c : Nat) : Nat := (mod (nth xs c) (n + 1)).toNat
def traffic (xs : List Int) (n flows most : Int) (c : Nat) : List Pkt := trafficGo xs flows most (trafficK xs n c) (c + 1) 0
theorem trafficGo_length (xs : List Int) (flows most : Int) : ∀ (k c : Nat) (t : Int), (trafficGo xs flows most k c t).length = k
  | 0, _, _ => rfl
  | k + 1, c, t => by simp [trafficGo, trafficGo_length xs flows most k]
end Go.Proofs.Ytcfnckccmkjjlaa.M
namespace Go.Proofs.Ytcfnckccmkjjlaa.K
open Go
/-- a call that turns one resource: its contract -/
def FnAt (P : Program) (f : FuncId) (vs : List Value) (w0 : World) (R : Ro) (e : Ent) (Post : Value → Ro → Ent → List Ent → Prop) : Prop :=
  ∀ F, Fn P f vs w0 R (e :: F) (fun v R' E' => ∃ e' N, E' = N ++ e' :: F ∧ Post v R' e' N)
/-- it hands back x, and e has become e' -/
def RdPost (x : Value) (R : Ro) (e' : Ent) : Value → Ro → Ent → List Ent → Prop := fun v R' e N => v = x ∧ R = R' ∧ e = e' ∧ N = []
theorem nth_out {α : Type} [Inhabited α] {xs : List α} {i : Nat} (h : xs.length ≤ i) : nth xs i = default := by simp [nth, List.getD, List.getElem?_eq_none h]
end Go.Proofs.Ytcfnckccmkjjlaa.K
