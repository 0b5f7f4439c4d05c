/- Rules and walks, joined from 25 texts: the first of them says: The journal, plain: a line in which one byte was changed is no line. No condition. -/
import Derived.Test.YtjacpnojnoompaaDoorG1
import Derived.Laws.IdiomCopy
import Derived.Laws.BitsAllLaws
import Derived.Laws.IdiomStrings
import Derived.Shelf.Strings.Builder1
import Derived.Shelf.Strings.Cut
import Derived.Shelf.Strings.Split
import Derived.Shelf.Lays
import Derived.Test.YtjacpnojnoompaaDoorRows
import Derived.ProofKit
import Derived.SizedLaws
import Derived.Maps.OwnSet
import Derived.WideKeyElems2
import Derived.Carry
/- The journal, plain: a line in which one byte was changed is no line. No condition. -/
namespace Go.Proofs.YtjacpnojnoompaaDoor.M
open Go Go.Proofs.YtjacpnojnoompaaDoor.K
/-! ### numbers read back -/
theorem dec_inj {u v : Nat} (hu : u ≤ 1073741824) (hv : v ≤ 1073741824) (h : Lib.decDigits u = Lib.decDigits v) : u = v := by
  have h1 := (dig_dec u hu).2
  have h2 := (dig_dec v hv).2
  rw [h] at h1
  omega
theorem dec_len (u : Nat) (h : ¬ u < 10) : (Lib.decDigits u).length = (Lib.decDigits (u / 10)).length + 1 := by
  conv => lhs; rw [Lib.decDigits, dif_neg h]
  simp
theorem dec_mono (v : Nat) : ∀ u, u ≤ v → (Lib.decDigits u).length ≤ (Lib.decDigits v).length := by
  induction v using Nat.strongRecOn with
  | _ v ih =>
    intro u hu
    have hl : ∀ w : Nat, 1 ≤ (Lib.decDigits w).length := by
      intro w; rw [Lib.decDigits]; split
      · simp
      · simp
    by_cases hu9 : u < 10
    · have e : (Lib.decDigits u).length = 1 := by rw [Lib.decDigits, dif_pos hu9]; rfl
      have := hl v; omega
    · have e1 := dec_len u hu9
      have e2 := dec_len v (by omega)
      have := ih (v / 10) (by omega) (u / 10) (by omega)
      omega
theorem hexD_inj {a b : Int} (h : hexD a = hexD b) : a % 16 = b % 16 := by
  have h1 : 0 ≤ a % 16 ∧ a % 16 < 16 := by omega
  have h2 : 0 ≤ b % 16 ∧ b % 16 < 16 := by omega
  have key : ∀ x y : Fin 16, ([48, 49, 50, 51, 52, 53, 54, 55, 56, 57, 97, 98, 99, 100, 101, 102] : List UInt8).getD x.val 0 = ([48, 49, 50, 51, 52, 53, 54, 55, 56, 57, 97, 98, 99, 100, 101, 102] : List UInt8).getD y.val 0 → x = y := by decide
  have := key ⟨(a % 16).toNat, by omega⟩ ⟨(b % 16).toNat, by omega⟩ h
  have h3 : (a % 16).toNat = (b % 16).toNat := congrArg Fin.val this
  omega
theorem hex_inj : ∀ (k : Nat) (a b : Int), 0 ≤ a → a < 16 ^ k → 0 ≤ b → b < 16 ^ k → hexF a k = hexF b k → a = b
  | 0, a, b, h1, h2, h3, h4, _ => by simp at h2 h4; omega
  | k + 1, a, b, h1, h2, h3, h4, h => by
    rw [hexF_snoc, hexF_snoc] at h
    have h5 := List.append_inj' h rfl
    have h6 := hexD_inj (by simpa using h5.2)
    have hp : (16 : Int) ^ (k + 1) = 16 ^ k * 16 := Int.pow_succ _ _
    rw [hp] at h2 h4
    have h7 := hex_inj k (a / 16) (b / 16) (by omega) (by omega) (by omega) (by omega) h5.1
    omega
/-! ### the sum of bytes -/
def bsum : List UInt8 → Int
  | [] => 0
  | c :: r => c.toNat + bsum r
theorem sumGo_fst : ∀ (l : List UInt8) (a b : Int), (0 ≤ a ∧ a ≤ 65520) → (sumGo a b l).1 = (a + bsum l) % 65521
  | [], a, b, h => by simp only [sumGo, bsum]; omega
  | c :: r, a, b, h => by
    simp only [sumGo, bsum]
    rw [sumGo_fst r _ _ (by omega)]
    omega
theorem bsum_set : ∀ (l : List UInt8) (i : Nat) (h : i < l.length) (c : UInt8), bsum (l.set i c) = bsum l + c.toNat - (l[i]'h).toNat
  | x :: r, 0, _, c => by simp only [List.set_cons_zero, bsum, List.getElem_cons_zero]; omega
  | x :: r, i + 1, h, c => by
    simp only [List.set_cons_succ, bsum, List.getElem_cons_succ]
    rw [bsum_set r i (by simpa using h) c]
    omega
theorem sum_same {x y : List UInt8} (h : sumF x = sumF y) : (1 + bsum x) % 65521 = (1 + bsum y) % 65521 := by
  rw [← sumGo_fst x 1 0 (by omega), ← sumGo_fst y 1 0 (by omega)]
  have hx := sumGo_range x 1 0 (by omega) (by omega)
  have hy := sumGo_range y 1 0 (by omega) (by omega)
  unfold sumF at h
  omega
theorem sum_changed {x : List UInt8} {i : Nat} (h : i < x.length) {c : UInt8} (hs : sumF x = sumF (x.set i c)) : c = x[i] := by
  have h1 := sum_same hs
  rw [bsum_set x i h c] at h1
  have h2 := UInt8.toNat_lt c
  have h3 := UInt8.toNat_lt x[i]
  apply UInt8.toNat.inj
  omega
/-! ### lists with one place changed -/
theorem set_eq_self {l : List UInt8} {i : Nat} (h : i < l.length) {c : UInt8} (e : l.set i c = l) : c = l[i] := by
  have h1 : (l.set i c)[i]? = l[i]? := by rw [e]
  rw [List.getElem?_set_self h, List.getElem?_eq_getElem h] at h1
  exact Option.some.inj h1
theorem set_append {a b a' b' : List UInt8} {i : Nat} {c : UInt8} (hl : a.length = a'.length) (h : (a ++ b).set i c = a' ++ b') : (i < a.length ∧ a.set i c = a' ∧ b = b') ∨ (a.length ≤ i ∧ a = a' ∧ b.set (i - a.length) c = b') := by
  by_cases hi : i < a.length
  · left
    rw [List.set_append_left _ _ hi] at h
    have := List.append_inj h (by simpa using hl)
    exact ⟨hi, this.1, this.2⟩
  · right
    rw [List.set_append_right _ _ (by omega)] at h
    have := List.append_inj h hl
    exact ⟨by omega, this.1, this.2⟩
theorem split_same {a b A B : List UInt8} (ha : ∀ x ∈ a, x ≠ 32) (hb : ∀ x ∈ b, x ≠ 32) (h : a ++ 32 :: A = b ++ 32 :: B) : a = b := by
  have h1 := cut_at ha A
  have h2 := cut_at hb B
  rw [h, h2] at h1
  exact (congrArg (fun x : List UInt8 × List UInt8 × Bool => x.1) h1).symm
theorem dec_no (u : Nat) : ∀ y ∈ Lib.decDigits u, y ≠ 32 := fun y hy e => by have := dec_bytes u y hy; rw [e] at this; exact absurd this.1 (by decide)
theorem body_prefix {k : Int} {x y t : List UInt8} (hx : x.length ≤ 1000) (hy : y.length ≤ 1000) (h : bodyF k y ++ t = bodyF k x) : y.length = x.length := by
  unfold bodyF at h
  rw [List.append_assoc] at h
  have h1 := List.append_cancel_left h
  rw [List.cons_append, List.append_assoc, List.cons_append] at h1
  have h2 := split_same (dec_no _) (dec_no _) (List.cons.inj h1).2
  exact dec_inj (by omega) (by omega) h2
theorem body_len (k : Int) (x : List UInt8) : (bodyF k x).length = (Lib.decDigits k.toNat).length + 1 + (Lib.decDigits x.length).length + 1 + 8 + 1 + x.length := by
  unfold bodyF
  simp only [List.length_append, List.length_cons, hexF_length]
  omega
/-- one byte of the line's body is another one: no line's body -/
theorem body_changed {k : Int} {x y : List UInt8} {i : Nat} {c : UInt8} (hx : x.length ≤ 1000) (hy : y.length ≤ 1000) (hi : i < (bodyF k x).length) (h : (bodyF k x).set i c = bodyF k y) : c = (bodyF k x)[i] := by
  have hl : (bodyF k x).length = (bodyF k y).length := by rw [← h, List.length_set]
  rw [body_len, body_len] at hl
  have hxy : x.length = y.length := by
    rcases Nat.lt_trichotomy x.length y.length with h1 | h1 | h1
    · have := dec_mono y.length x.length (by omega); omega
    · exact h1
    · have := dec_mono x.length y.length (by omega); omega
  by_cases hsame : y = x
  · rw [hsame] at h
    exact set_eq_self hi h
  · exfalso
    let p := Lib.decDigits k.toNat ++ 32 :: (Lib.decDigits x.length ++ [32])
    have ex : bodyF k x = p ++ (hexF (sumF x) 8 ++ 32 :: x) := by simp [bodyF, p]
    have ey : bodyF k y = p ++ (hexF (sumF y) 8 ++ 32 :: y) := by simp [bodyF, p, hxy]
    rw [ex, ey] at h
    rcases set_append rfl h with ⟨_, _, h3⟩ | ⟨_, _, h3⟩
    · have := List.append_inj h3 (by rw [hexF_length, hexF_length])
      exact hsame (List.cons.inj this.2).2.symm
    · rcases set_append (by rw [hexF_length, hexF_length]) h3 with ⟨_, _, h4⟩ | ⟨h5, h4, h6⟩
      · exact hsame (List.cons.inj h4).2.symm
      · have hs : sumF x = sumF y := hex_inj 8 _ _ (sumF_range x).1 (by have := (sumF_range x).2; omega) (sumF_range y).1 (by have := (sumF_range y).2; omega) h4
        generalize i - p.length - (hexF (sumF x) 8).length = q at h6
        cases q with
        | zero => exact hsame (List.cons.inj h6).2.symm
        | succ q =>
          rw [List.set_cons_succ] at h6
          have h7 := (List.cons.inj h6).2
          by_cases hq : q < x.length
          · rw [← h7] at hs
            have := sum_changed hq hs
            rw [this, List.set_getElem_self] at h7
            exact hsame h7.symm
          · rw [List.set_eq_of_length_le (by omega)] at h7
            exact hsame h7.symm
end Go.Proofs.YtjacpnojnoompaaDoor.M

/- The journal, plain: what is read of a journal in which one byte was changed. No condition. -/
namespace Go.Proofs.YtjacpnojnoompaaDoor.M
open Go Go.Proofs.YtjacpnojnoompaaDoor.K
theorem split_ten {a b A B : List UInt8} (ha : ∀ x ∈ a, x ≠ 10) (hb : ∀ x ∈ b, x ≠ 10) (h : a ++ 10 :: A = b ++ 10 :: B) : a = b := by
  have h1 := cut_at ha A
  have h2 := cut_at hb B
  rw [h, h2] at h1
  exact (congrArg (fun x : List UInt8 × List UInt8 × Bool => x.1) h1).symm
theorem stepF_changed {k : Int} {x : List UInt8} {zs : List (List UInt8)} {o : Nat} {c : UInt8} (h : (lineF k x).2 = 0) (hz : OkL (k + 1) zs) (ho : o < (bodyF k x).length + 1) (hc : ((bodyF k x) ++ [10])[o]? ≠ some c) : stepF k ((bodyF k x ++ 10 :: linesF (k + 1) zs).set o c) = none := by
  cases hs : stepF k ((bodyF k x ++ 10 :: linesF (k + 1) zs).set o c) with
  | none => rfl
  | some y =>
    exfalso
    obtain ⟨h1, _, h3, h4⟩ := stepF_some hs
    obtain ⟨i, hi, he, hS, hn⟩ := cut_ten _ h4
    rw [he] at h3
    have hY : bodyF k y.1 = ((bodyF k x ++ 10 :: linesF (k + 1) zs).set o c).take i := by
      have := line_body h1
      rw [h3] at this
      exact (List.append_cancel_right this).symm
    rw [← hY] at hS hn
    generalize ((bodyF k x ++ 10 :: linesF (k + 1) zs).set o c).drop (i + 1) = r' at hS
    have hx := (lineF_ok h).2.2.2.1
    have hy := (lineF_ok h1).2.2.2.1
    have hXn := body_ten h
    by_cases hoX : o < (bodyF k x).length
    · rw [List.set_append_left _ _ hoX] at hS
      rw [List.getElem?_append_left hoX, List.getElem?_eq_getElem hoX] at hc
      by_cases h10 : c = 10
      · subst h10
        rw [List.set_eq_take_append_cons_drop, if_pos hoX, List.append_assoc, List.cons_append] at hS
        have h5 := split_ten (fun z hz => hXn z (List.mem_of_mem_take hz)) hn hS
        have h6 := body_prefix (t := (bodyF k x).drop o) hx hy (by rw [← h5, List.take_append_drop])
        have h7 := body_len k x
        have h8 := body_len k y.1
        rw [h6, ← h5, List.length_take] at h8
        omega
      · have h5 := split_ten (fun z hz => by
          rcases List.mem_or_eq_of_mem_set hz with h | h
          · exact hXn z h
          · rw [h]; exact h10) hn hS
        exact hc (by rw [body_changed hx hy hoX h5])
    · obtain rfl : o = (bodyF k x).length := by omega
      rw [List.getElem?_append_right (Nat.le_refl _), Nat.sub_self] at hc
      have h10 : c ≠ 10 := fun e => hc (by rw [e]; rfl)
      rw [List.set_append_right _ _ (Nat.le_refl _), Nat.sub_self, List.set_cons_zero] at hS
      cases zs with
      | nil =>
        simp only [linesF] at hS
        have hm : (10 : UInt8) ∈ bodyF k x ++ [c] := by rw [hS]; simp
        rcases List.mem_append.1 hm with h5 | h5
        · exact hXn _ h5 rfl
        · exact h10 (List.mem_singleton.1 h5).symm
      | cons z zs =>
        simp only [linesF] at hS
        rw [line_body hz.1] at hS
        have hzn := body_ten hz.1
        have h5 := split_ten (a := bodyF k x ++ c :: bodyF (k + 1) z) (A := linesF (k + 1 + 1) zs) (fun w hw => by
          rcases List.mem_append.1 hw with h6 | h6
          · exact hXn w h6
          · rcases List.mem_cons.1 h6 with h6 | h6
            · rw [h6]; exact h10
            · exact hzn w h6) hn (by rw [← hS]; simp)
        have h6 := body_prefix (x := y.1) (y := x) (t := c :: bodyF (k + 1) z) hy hx h5
        have h7 := body_len k x
        have h8 := body_len k y.1
        rw [← h6, ← h5, List.length_append, List.length_cons] at h8
        omega
theorem changed_lines : ∀ (ys : List (List UInt8)) (k : Int) (i : Nat) (c : UInt8), OkL k ys → i < (linesF k ys).length → (linesF k ys)[i]? ≠ some c →
    ∃ p r, p ≤ ys.length ∧ (linesF k ys).set i c = linesF k (ys.take p) ++ r ∧ stepF (k + p) r = none ∧ (linesF k (ys.take p)).length ≤ i ∧ ((linesF k ys).take i).count 10 = p
  | [], k, i, c, _, hi, _ => by simp [linesF] at hi
  | y :: ys, k, i, c, h, hi, hc => by
    have hb := line_body h.1
    have hbl : (lineF k y).1.length = (bodyF k y).length + 1 := by rw [hb]; simp
    by_cases hL : i < (lineF k y).1.length
    · refine ⟨0, (linesF k (y :: ys)).set i c, Nat.zero_le _, by simp [linesF], ?_, by simp [linesF], ?_⟩
      · have e : linesF k (y :: ys) = bodyF k y ++ 10 :: linesF (k + 1) ys := by simp only [linesF]; rw [hb]; simp
        rw [e]
        rw [e] at hc
        have := stepF_changed (k := k) (x := y) (zs := ys) (o := i) (c := c) h.1 h.2 (by omega) (by
          rw [show bodyF k y ++ 10 :: linesF (k + 1) ys = (bodyF k y ++ [10]) ++ linesF (k + 1) ys by simp, List.getElem?_append_left (by simp; omega)] at hc
          exact hc)
        rw [show k + ((0 : Nat) : Int) = k by omega]
        exact this
      · simp only [linesF]
        rw [List.take_append, show i - (lineF k y).1.length = 0 by omega, List.take_zero, List.append_nil, hb, List.take_append, show i - (bodyF k y).length = 0 by omega, List.take_zero, List.append_nil]
        rw [List.count_eq_zero]
        intro hm
        exact body_ten h.1 _ (List.mem_of_mem_take hm) rfl
    · simp only [linesF] at hi hc ⊢
      rw [List.length_append] at hi
      rw [List.getElem?_append_right (by omega)] at hc
      obtain ⟨p, r, h1, h2, h3, h4, h5⟩ := changed_lines ys (k + 1) (i - (lineF k y).1.length) c h.2 (by omega) hc
      refine ⟨p + 1, r, by simp only [List.length_cons]; omega, ?_, by rw [show k + ((p + 1 : Nat) : Int) = k + 1 + (p : Int) by omega]; exact h3, ?_, ?_⟩
      · rw [List.set_append_right _ _ (by omega), h2]
        simp only [linesF, List.take_succ_cons, List.append_assoc]
      · simp only [linesF, List.take_succ_cons, List.length_append]; omega
      · rw [List.take_append, List.take_of_length_le (by omega), List.count_append, h5]
        have hc1 : (lineF k y).1.count 10 = 1 := by
          rw [hb, List.count_append, List.count_eq_zero.2 (fun hm => body_ten h.1 _ hm rfl)]; rfl
        omega
theorem xor_ne {a b : UInt8} (h : b ≠ 0) : a ^^^ b ≠ a := by
  intro e
  apply h
  have h1 : a ^^^ (a ^^^ b) = a ^^^ a := by rw [e]
  rw [← UInt8.xor_assoc, UInt8.xor_self, UInt8.zero_xor] at h1
  exact h1
end Go.Proofs.YtjacpnojnoompaaDoor.M

/- Rules: remainders of numbers of any kind. No condition. -/
namespace Go.Proofs.YtjacpnojnoompaaDoor.K
open Go Go.RowKit
section
variable {P : Program} {T : Tab} {n : Nat} {env : Env} {w0 : World} {R : Ro} {E : List Ent} {o : Oper} {pc p q r : Bool}
end
end Go.Proofs.YtjacpnojnoompaaDoor.K

/- Rules: the bytes of a string as a slice of one's own (a place behind the last is marked), xor of bytes. No condition. -/
namespace Go.Proofs.YtjacpnojnoompaaDoor.K
open Go Go.RowKit
def byCells (l : List UInt8) (n : Nat) : Array Value := (l.map (fun c => Value.int .u8 c.toNat) ++ List.replicate n (Value.int .u8 0)).toArray
def byB (b : Nat) (e : TypeId) (l : List UInt8) (n : Nat) : Ent := .obj b (.cells (byCells l n) e (l.length + n, l.length + n + 1))
theorem byteAt_get {l : List UInt8} {i : Nat} (h : i < l.length) : byteAt l i = ((l[i]'h).toNat : Int) := by
  unfold byteAt
  rw [List.getD_eq_getElem?_getD, List.getElem?_eq_getElem h, Option.getD_some]
theorem byCells_get {l : List UInt8} {n i : Nat} (h : i < l.length) : (byCells l n)[i]? = some (.int .u8 (byteAt l i)) := by
  rw [byteAt_get h]
  unfold byCells
  rw [List.getElem?_toArray, List.getElem?_append_left (by simpa using h), List.getElem?_map, List.getElem?_eq_getElem h]
  rfl
theorem byCells_size (l : List UInt8) (n : Nat) : (byCells l n).size = l.length + n := by simp [byCells]
theorem byCells_set {l : List UInt8} {n i : Nat} (h : i < l.length) (c : UInt8) : (byCells l n).setIfInBounds i (.int .u8 c.toNat) = byCells (l.set i c) n := by
  unfold byCells
  rw [List.setIfInBounds_toArray, List.set_append_left _ _ (by simpa using h), List.map_set]
section
variable {P : Program} {T : Tab} {n : Nat} {env : Env} {w0 : World} {R : Ro} {E : List Ent} {o : Oper} {pc p q r : Bool}
theorem Rd.byB {b : Nat} {e : TypeId} {l : List UInt8} {m i : Nat} (k : Nat) (h : E[k]? = some (byB b e l m)) (hi : i < l.length) : Rd R E (eaddr (some ⟨b, 0, none⟩) 1 i) [.int .u8 (byteAt l i)] := by
  intro w0 w hm j v hv
  obtain ⟨_, hb⟩ := hm.own _ (mem_of_get h)
  have hj : j = 0 := by
    rcases j with _ | j
    · rfl
    · simp at hv
  subst hj
  simp only [List.getElem?_cons_zero, Option.some.injEq] at hv
  subst hv
  have e1 : (eaddr (some ⟨b, 0, none⟩) 1 i).add 0 = ⟨b, i, none⟩ := by
    unfold eaddr
    rw [Option.getD_some, addr_add_add, addr_add_mk]
    simp
  rw [e1]
  simp [World.cell?, hb, byCells_get hi]
theorem Ef.bytesOf {K : Value → Ro → List Ent → Prop} {src dst e : TypeId} {x : Operand} {l : List UInt8} {d d2 d3 : TD} (hT : TabOk P T) (ho : o.op = .convert src dst x) (hd : T.at src = some d) (hk : d.k = .str) (hd2 : T.at dst = some d2) (hk2 : d2.k = .slice e) (hd3 : T.at e = some d3) (hk3 : d3.k = .int .u8)
    (hx : ev env x = some (true, .string (str l))) (hK : ∀ b cap m, K (.slice (some ⟨b, 0, none⟩) l.length cap) R (byB b e l m :: E)) : Ef P n env w0 R E o K := by
  intro a w hk' hm
  have e1 := run_bytes_of_string (P := P) w src dst e (str l) (hT.str hd hk) (hT.slice hd2 hk2) (hT.int hd3 hk3)
  rw [str_size] at e1
  have e2 : bytesRow (str l) (grownCap w l.length 0 e) = byCells l (grownCap w l.length 0 e - l.length) := by
    unfold bytesRow byCells
    rw [str_size]
    apply Array.ext'
    simp [str]
  rw [e2, byCells_size] at e1
  refine ⟨_, w.drew.alloc (.cells (byCells l (grownCap w l.length 0 e - l.length)) e (l.length + (grownCap w l.length 0 e - l.length), l.length + (grownCap w l.length 0 e - l.length) + 1)), R, _, .inl ?_, hm.new (e' := byB w.heap.size e l (grownCap w l.length 0 e - l.length)) ⟨rfl, rfl, rfl, by simp, fun j hj _ => heap_alloc_old w.drew _ hj⟩ ⟨hm.below.size, World.alloc_heap_new w.drew _⟩ (fun b hb => by simp [byB, Ent.block] at hb; omega), hK _ (grownCap w l.length 0 e) _⟩
  unfold execOp
  simp [ho, hk'.ev hx rfl, e1]
theorem Ef.storeB {K : Value → Ro → List Ent → Prop} {t e : TypeId} {x y : Operand} {b i m : Nat} {l : List UInt8} {c : UInt8} {d : TD} (k : Nat) (hT : TabOk P T) (ho : o.op = .store t x y) (hd : T.at t = some d) (hs : d.size = 1)
    (hx : ev env x = some (true, .pointer (some (eaddr (some ⟨b, 0, none⟩) 1 i)))) (hy : ev env y = some (true, .int .u8 c.toNat)) (hE : E[k]? = some (byB b e l m)) (hi : i < l.length)
    (hK : K undef R (E.set k (byB b e (l.set i c) m))) : Ef P n env w0 R E o K := by
  intro a w hk hm
  obtain ⟨hbase, hb⟩ := hm.own _ (mem_of_get hE)
  have e1 : eaddr (some ⟨b, 0, none⟩) 1 i = ⟨b, i, none⟩ := by
    unfold eaddr
    rw [Option.getD_some, addr_add_mk]
    simp
  rw [e1] at hx
  have hc : w.cell? ⟨b, i, none⟩ = some (.int .u8 (byteAt l i)) := by simp [World.cell?, hb, byCells_get hi]
  have hf : w.frozen? ⟨b, i, none⟩ = false := by simp [World.frozen?, hb]; omega
  have hsz := run_sizeOf hT hd w
  rw [hs] at hsz
  have hst := run_storeCells_cells (P := P) b i [Value.int .u8 c.toNat] 0 w (fun j hj => by
    have : j = 0 := by simpa using hj
    subst this; simp [hc]) (fun j hj => by
    have : j = 0 := by simpa using hj
    subst this; simpa using hf) (fun v hv => by rw [List.mem_singleton.1 hv]; rfl)
  have hw : w.setCells b (i + 0) [Value.int .u8 c.toNat] = w.setCell ⟨b, i, none⟩ (.int .u8 c.toNat) := rfl
  rw [hw] at hst
  have hheap : (w.setCell ⟨b, i, none⟩ (.int .u8 c.toNat)).heap[b]? = some (.cells (byCells (l.set i c) m) e (l.length + m, l.length + m + 1)) := by
    show (w.heap.modify b _)[b]? = _
    rw [Array.getElem?_modify, if_pos rfl, hb]
    simp [byCells_set hi]
  have hg : w.grownBy (w.setCell ⟨b, i, none⟩ (.int .u8 c.toNat)) (some b) := ⟨rfl, rfl, rfl, by show w.heap.size ≤ (w.heap.modify b _).size; simp, fun j hj hne => by
    show (w.heap.modify b _)[j]? = _
    rw [Array.getElem?_modify]
    rw [if_neg (fun h => hne (by rw [h]))]⟩
  refine ⟨undef, w.setCell ⟨b, i, none⟩ (.int .u8 c.toNat), R, _, .inr ⟨?_, rfl⟩, hm.set (e' := byB b e (l.set i c) m) hE hg (fun _ h => h) ⟨hbase, by rw [hheap]; simp⟩ (fun _ h => .inl h), hK⟩
  unfold execOp
  have hv : (Value.int IntKind.u8 (c.toNat : Int)).cells.toList = [Value.int .u8 c.toNat] := rfl
  have hv2 : (Value.int IntKind.u8 (c.toNat : Int)).cells.size = 1 := rfl
  simp [ho, hk.ev hx rfl, hk.ev hy rfl, Instr.storeAt, Instr.sureAddr, storeVar, hsz, hv, hv2, hst]
theorem Yl.xorB {t t' x y} {a b : UInt8} (ho : o.op = .binOp .xor t x y t') (hx : ev env x = some (p, .int .u8 a.toNat)) (hy : ev env y = some (q, .int .u8 b.toNat))
    (hpq : pc = true → (p && q) = true) : Yl P n env w0 R E o pc (.int .u8 ((a ^^^ b).toNat : Int)) := by
  intro ac w hk hm hp
  obtain ⟨h1, h2⟩ := and_both (hpq hp)
  have e1 := u8_xor_nat a.toNat b.toNat (UInt8.toNat_lt a) (UInt8.toNat_lt b)
  have e3 : (Op.intBits .xor .u8 (a.toNat : Int) (b.toNat : Int)).run P w = .ok (.int .u8 ((a ^^^ b).toNat : Int)) w := by
    have : Op.intBits .xor .u8 (a.toNat : Int) (b.toNat : Int) = pure (.int .u8 (bits .xor .u8 (a.toNat : Int) (b.toNat : Int))) := rfl
    rw [this, e1, UInt8.toNat_xor]; rfl
  unfold execOp
  simp [ho, hk.ev hx h1, hk.ev hy h2, eqGuard, binOp, e3]
theorem Yl.bytesB {src dst e : TypeId} {x : Operand} {m b cap u : Nat} {l : List UInt8} {d d2 d3 : TD} (i : Nat) (hT : TabOk P T) (ho : o.op = .convert src dst x) (hd : T.at src = some d) (hk : d.k = .slice e) (hd2 : T.at e = some d2) (hk2 : d2.k = .int .u8) (hd3 : T.at dst = some d3) (hk3 : d3.k = .str)
    (hE : E[i]? = some (byB b e l u)) (hx : ev env x = some (p, .slice (some ⟨b, 0, none⟩) m cap)) (hm : m = l.length) (hp : pc = true → p = true) : Yl P n env w0 R E o pc (.string (str l)) := by
  intro ac w hkn hmm hpc
  subst hm
  obtain ⟨_, hb⟩ := hmm.own _ (mem_of_get hE)
  have e1 := run_convert_bytes_back w src dst e ⟨b, 0, none⟩ cap l (hT.slice hd hk) (hT.int hd2 hk2) (hT.str hd3 hk3) (fun j hj => by
    rw [addr_add_mk]
    have := byCells_get (n := u) hj
    rw [byteAt_get hj] at this
    simp [World.cell?, hb, this])
  unfold execOp
  simp [ho, hkn.ev hx (hp hpc), e1, str]
end
end Go.Proofs.YtjacpnojnoompaaDoor.K

/- The journal, plain: a cut, and a text behind it. No condition. -/
namespace Go.Proofs.YtjacpnojnoompaaDoor.M
open Go Go.Proofs.YtjacpnojnoompaaDoor.K
theorem OkL_take {ys : List (List UInt8)} {k : Int} (h : OkL k ys) (m : Nat) : OkL k (ys.take m) := by
  have := (OkL_append (ys.take m) (ys.drop m) k).1 (by rw [List.take_append_drop]; exact h)
  exact this.1
end Go.Proofs.YtjacpnojnoompaaDoor.M

/- The contracts of the library that the walks take, laid at this translation. No condition. -/
namespace Go.Proofs.YtjacpnojnoompaaDoor
open Go.Shelf
def sh_lays169_ren : Go.Shelf.Ren := ⟨fun | 169 => 65 | n => n, fun | 70 => 77 | 9 => 9 | 0 => 0 | 72 => 79 | 37 => 30 | 127 => 93 | 3 => 3 | 5 => 5 | n => n, fun | n => n⟩
theorem sh_lays169 : Go.Proofs.Lays.n169 Tryd.prog sh_lays169_ren := {
  mixed := by kernel_rfl
  f169 := Tryd.func65.trans (congrArg some (by kernel_rfl))
  t0 := Tryd.underlying0
  a0 := Tryd.isAgg0
  z0 := Tryd.sizeOf0
  v0 := Tryd.zeroValue0
  t3 := Tryd.underlying3
  a3 := Tryd.isAgg3
  z3 := Tryd.sizeOf3
  v3 := Tryd.zeroValue3
  t9 := Tryd.underlying9
  a9 := Tryd.isAgg9
  z9 := Tryd.sizeOf9
  v9 := Tryd.zeroValue9
  t37 := Tryd.underlying30
  a37 := Tryd.isAgg30
  z37 := Tryd.sizeOf30
  v37 := Tryd.zeroValue30
  t70 := Tryd.underlying77
  a70 := Tryd.isAgg77
  z70 := Tryd.sizeOf77
  v70 := Tryd.zeroValue77
  t72 := Tryd.underlying79
  a72 := Tryd.isAgg79
  z72 := Tryd.sizeOf79
  v72 := Tryd.zeroValue79
  t127 := Tryd.underlying93
  a127 := Tryd.isAgg93
  z127 := Tryd.sizeOf93
  v127 := Tryd.zeroValue93 }
theorem sh_Builder_Extra_169 : Builder.Extra Tryd.prog sh_lays169_ren := {
  sizeBuilder := by kernel_rfl
  liesBuilder := by kernel_rfl
  t5 := Tryd.underlying5
  a5 := Tryd.isAgg5
  z5 := Tryd.sizeOf5
  v5 := Tryd.zeroValue5
  infoByte := by kernel_rfl
  cellsByte := by kernel_rfl
  sizeByte := by kernel_rfl
  neB5 := by decide }
open Go.RowKit in
theorem sh_Builder_String_any (B b : Nat) (l : List UInt8) (w : World) (h : Lib.IsBuilder 79 5 B b (Lib.byteCells l) w) (hBw : B ≤ w.heap.size) :
    Calls Tryd.prog 65 #[.pointer (some ⟨b, 0, none⟩)] w fun e w' => e = .returned (.string ⟨l.toArray⟩) ∧ Below B w w' := Any.Builder_String_any sh_lays169 sh_Builder_Extra_169 B b l w h hBw
end Go.Proofs.YtjacpnojnoompaaDoor

/- strings.Builder. No condition. -/
set_option linter.unusedSimpArgs false
set_option linter.unusedVariables false
namespace Go.Proofs.YtjacpnojnoompaaDoor
open Go Go.RowKit Go.Proofs.YtjacpnojnoompaaDoor.K Go.Proofs.YtjacpnojnoompaaDoor.M

theorem CopyF_C {R : Ro} {b n cap : Nat} {a : Option Addr} {S : Ent} {F : List Ent} (w0 : World) : K.Fn Tryd.prog 79 [.pointer (some ⟨b, 0, none⟩)] w0 R (S :: .obj b (.cells #[.pointer none, .slice a n cap] 79 (0, 0)) :: F) (fun v R' E' => v = .tuple #[] ∧ R = R' ∧ E' = S :: .obj b (.cells #[.pointer (some ⟨b, 0, none⟩), .slice a n cap] 79 (0, 0)) :: F) := by
  refine Fn.enter (n := 20) Tryd.func79 rfl rfl (Nat.le_of_ble_eq_true rfl) rfl ?_
  refine W.seq ?_
  refine W.region _ ?_
  refine WG.run tab_ok 3 rfl ?_
  refine' WG.y rfl rfl (by decide) (Yl.load1 tab_ok rfl rfl rfl (fun _ => rfl) ?r1 rfl ?h1) ?_
  case r1 => apply Rd.add; exact Rd.obj 1 rfl
  case h1 => rfl
  refine WG.y rfl rfl (by decide) (Yl.ptrNil tab_ok rfl rfl rfl rfl rfl (fun _ => rfl)) ?_
  refine WG.nil ?_
  refine WE.nxt ?_
  refine W.cond rfl (fun hc0 => ?_) (fun hc0 => ?_)
  · try simp only [decide_eq_true_eq, decide_eq_false_iff_not, beq_iff_eq, bne_iff_ne, beq_eq_false_iff_ne, bne_eq_false_iff_eq, ne_eq, Bool.or_eq_true, Bool.or_eq_false_iff, Bool.and_eq_true, Bool.and_eq_false_imp, Bool.not_eq_true, Bool.not_eq_true', Bool.not_eq_false', Classical.not_not, Int.not_lt, Int.not_le, gt_iff_lt, ge_iff_le] at hc0
    refine W.region _ ?_
    refine WG.run tab_ok 2 rfl ?_
    refine WG.y rfl rfl (by decide) (Yl.toUnsafe 1 tab_ok rfl rfl rfl rfl rfl Tryd.underlying97 rfl rfl rfl (fun _ => rfl)) ?_
    refine WG.y rfl rfl (by decide) (Yl.noEscape rfl Tryd.func87 (by kernel_rfl) (by kernel_rfl) (by kernel_rfl) (by kernel_rfl) rfl (fun _ => rfl)) ?_
    refine WG.y rfl rfl (by decide) (Yl.fromUnsafe 1 tab_ok rfl rfl rfl rfl Tryd.underlying97 rfl (by kernel_rfl) rfl (fun _ => rfl)) ?_
    refine WG.run tab_ok 2 rfl ?_
    refine WL.efN rfl rfl (Ef.storeObj (off := 0) 1 tab_ok rfl rfl rfl rfl rfl rfl rfl rfl ?_)
    refine WG.nil ?_
    refine WE.endF tab_ok [] rfl trivial (RLe.refl _) ?_
    exact ⟨rfl, rfl, rfl⟩
  · try simp only [decide_eq_true_eq, decide_eq_false_iff_not, beq_iff_eq, bne_iff_ne, beq_eq_false_iff_ne, bne_eq_false_iff_eq, ne_eq, Bool.or_eq_true, Bool.or_eq_false_iff, Bool.and_eq_true, Bool.and_eq_false_imp, Bool.not_eq_true, Bool.not_eq_true', Bool.not_eq_false', Classical.not_not, Int.not_lt, Int.not_le, gt_iff_lt, ge_iff_le] at hc0
    first | (simp at hc0; done) | exact absurd hc0 (by decide)

theorem CopyU_C {R : Ro} {b n cap : Nat} {a : Option Addr} {S : Ent} {F : List Ent} (w0 : World) : K.Fn Tryd.prog 79 [.pointer (some ⟨b, 0, none⟩)] w0 R (S :: .obj b (.cells #[.pointer (some ⟨b, 0, none⟩), .slice a n cap] 79 (0, 0)) :: F) (fun v R' E' => v = .tuple #[] ∧ R = R' ∧ E' = S :: .obj b (.cells #[.pointer (some ⟨b, 0, none⟩), .slice a n cap] 79 (0, 0)) :: F) := by
  refine Fn.enter (n := 20) Tryd.func79 rfl rfl (Nat.le_of_ble_eq_true rfl) rfl ?_
  refine W.seq ?_
  refine W.region _ ?_
  refine WG.run tab_ok 3 rfl ?_
  refine' WG.y rfl rfl (by decide) (Yl.load1 tab_ok rfl rfl rfl (fun _ => rfl) ?r1 rfl ?h1) ?_
  case r1 => apply Rd.add; exact Rd.obj 1 rfl
  case h1 => rfl
  refine WG.y rfl rfl (by decide) (Yl.ptrNil tab_ok rfl rfl rfl rfl rfl (fun _ => rfl)) ?_
  refine WG.nil ?_
  refine WE.nxt ?_
  refine W.cond rfl (fun hc0 => ?_) (fun hc0 => ?_)
  · try simp only [decide_eq_true_eq, decide_eq_false_iff_not, beq_iff_eq, bne_iff_ne, beq_eq_false_iff_ne, bne_eq_false_iff_eq, ne_eq, Bool.or_eq_true, Bool.or_eq_false_iff, Bool.and_eq_true, Bool.and_eq_false_imp, Bool.not_eq_true, Bool.not_eq_true', Bool.not_eq_false', Classical.not_not, Int.not_lt, Int.not_le, gt_iff_lt, ge_iff_le] at hc0
    first | (simp at hc0; done) | exact absurd hc0 (by decide)
  · try simp only [decide_eq_true_eq, decide_eq_false_iff_not, beq_iff_eq, bne_iff_ne, beq_eq_false_iff_ne, bne_eq_false_iff_eq, ne_eq, Bool.or_eq_true, Bool.or_eq_false_iff, Bool.and_eq_true, Bool.and_eq_false_imp, Bool.not_eq_true, Bool.not_eq_true', Bool.not_eq_false', Classical.not_not, Int.not_lt, Int.not_le, gt_iff_lt, ge_iff_le] at hc0
    refine W.seq ?_
    refine W.region _ ?_
    refine WG.run tab_ok 3 rfl ?_
    refine' WG.y rfl rfl (by decide) (Yl.load1 tab_ok rfl rfl rfl (fun _ => rfl) ?r2 rfl ?h2) ?_
    case r2 => apply Rd.add; exact Rd.obj 1 rfl
    case h2 => rfl
    refine WG.run tab_ok 1 rfl ?_
    refine WG.y rfl rfl (by decide) (Yl.ptrSame tab_ok rfl rfl rfl rfl rfl rfl (fun _ => rfl)) ?_
    refine WG.nil ?_
    refine WE.nxt ?_
    refine W.cond rfl (fun hc1 => ?_) (fun hc1 => ?_)
    · try simp only [decide_eq_true_eq, decide_eq_false_iff_not, beq_iff_eq, bne_iff_ne, beq_eq_false_iff_ne, bne_eq_false_iff_eq, ne_eq, Bool.or_eq_true, Bool.or_eq_false_iff, Bool.and_eq_true, Bool.and_eq_false_imp, Bool.not_eq_true, Bool.not_eq_true', Bool.not_eq_false', Classical.not_not, Int.not_lt, Int.not_le, gt_iff_lt, ge_iff_le] at hc1
      first | (simp at hc1; done) | exact absurd hc1 (by decide)
    · try simp only [decide_eq_true_eq, decide_eq_false_iff_not, beq_iff_eq, bne_iff_ne, beq_eq_false_iff_ne, bne_eq_false_iff_eq, ne_eq, Bool.or_eq_true, Bool.or_eq_false_iff, Bool.and_eq_true, Bool.and_eq_false_imp, Bool.not_eq_true, Bool.not_eq_true', Bool.not_eq_false', Classical.not_not, Int.not_lt, Int.not_le, gt_iff_lt, ge_iff_le] at hc1
      refine W.skip ?_
      refine WE.endF tab_ok [] rfl trivial (RLe.refl _) ?_
      exact ⟨rfl, rfl, rfl⟩

theorem Copy_C {R : Ro} {b n cap : Nat} {a p : Option Addr} {S : Ent} {F : List Ent} (hp : p = none ∨ p = some ⟨b, 0, none⟩) (w0 : World) : K.Fn Tryd.prog 79 [.pointer (some ⟨b, 0, none⟩)] w0 R (S :: .obj b (.cells #[.pointer p, .slice a n cap] 79 (0, 0)) :: F) (fun v R' E' => v = .tuple #[] ∧ R = R' ∧ E' = S :: .obj b (.cells #[.pointer (some ⟨b, 0, none⟩), .slice a n cap] 79 (0, 0)) :: F) := by
  rcases hp with rfl | rfl
  · exact CopyF_C w0
  · exact CopyU_C w0

theorem WriteByte_C {R : Ro} {b cap : Nat} {a p : Option Addr} {l : List UInt8} {F : List Ent} (hp : p = none ∨ p = some ⟨b, 0, none⟩) (hl : l.length ≤ 1000000) (c : UInt8) (w0 : World) : K.Fn Tryd.prog 63 [.pointer (some ⟨b, 0, none⟩), .int .u8 c.toNat] w0 R (.sl 5 1 a cap (l.map encY) :: .obj b (.cells #[.pointer p, .slice a l.length cap] 79 (0, 0)) :: F) (fun v R' E' => ∃ (a' : Option Addr) (cap' : Nat), v = .nilIface ∧ R = R' ∧ E' = .sl 5 1 a' cap' ((l ++ [c]).map encY) :: .obj b (.cells #[.pointer (some ⟨b, 0, none⟩), .slice a' (l ++ [c]).length cap'] 79 (0, 0)) :: F) := by
  refine Fn.enter (n := 17) Tryd.func63 rfl rfl (Nat.le_of_ble_eq_true rfl) rfl ?_
  refine W.seq ?_
  refine W.region _ ?_
  refine WG.run tab_ok 1 rfl ?_
  refine WG.nil ?_
  refine WE.nxt ?_
  refine W.seq ?_
  refine W.region _ ?_
  refine WG.run tab_ok 1 rfl ?_
  refine WL.call en79 rfl rfl (by decide) (CallOp.mkT rfl rfl rfl rfl) (Copy_C hp w0) ?_
  rintro _ _ _ - ⟨rfl, rfl, rfl⟩
  refine WG.nil ?_
  refine WE.nxt ?_
  refine W.seq ?_
  refine W.region _ ?_
  refine WG.run tab_ok 4 rfl ?_
  refine' WG.y rfl rfl (by decide) (Yl.load1 tab_ok rfl rfl rfl (fun _ => rfl) ?r1 rfl ?h1) ?_
  case r1 => apply Rd.add; exact Rd.obj 1 rfl
  case h1 => rfl
  refine WG.run tab_ok 1 rfl ?_
  refine WL.ef rfl rfl (by decide) (Ef.buildSliceD (enc := encY) (parts := [.tmp 12]) [c] tab_ok rfl rfl rfl rfl rfl rfl rfl rfl (by decide) (by decide) (fun a13 => ?_))
  first | refine WL.ef rfl rfl (by decide) (Ef.appendD 1 0 tab_ok rfl rfl rfl rfl rfl rfl rfl rfl rfl rfl rfl (fun _ _ => rfl) (by simp only [List.length_cons, List.length_nil]; omega) (by simp only [List.length_cons, List.length_nil]; omega) (fun a14 c14 ha14 => ?_)) | refine WL.ef rfl rfl (by decide) (Ef.appendD 2 0 tab_ok rfl rfl rfl rfl rfl rfl rfl rfl rfl rfl rfl (fun _ _ => rfl) (by simp only [List.length_cons, List.length_nil]; omega) (by simp only [List.length_cons, List.length_nil]; omega) (fun a14 c14 ha14 => ?_)) | refine WL.ef rfl rfl (by decide) (Ef.appendD 3 0 tab_ok rfl rfl rfl rfl rfl rfl rfl rfl rfl rfl rfl (fun _ _ => rfl) (by simp only [List.length_cons, List.length_nil]; omega) (by simp only [List.length_cons, List.length_nil]; omega) (fun a14 c14 ha14 => ?_)) | refine WL.ef rfl rfl (by decide) (Ef.appendR 0 tab_ok rfl rfl rfl rfl rfl rfl rfl rfl rfl rfl (by assumption) (fun _ _ => rfl) (by (try dsimp only); omega) (by omega) (fun a14 c14 ha14 => ?_)) | refine WL.ef rfl rfl (by decide) (Ef.appendR 1 tab_ok rfl rfl rfl rfl rfl rfl rfl rfl rfl rfl (by assumption) (fun _ _ => rfl) (by (try dsimp only); omega) (by omega) (fun a14 c14 ha14 => ?_)) | refine WL.ef rfl rfl (by decide) (Ef.appendR 2 tab_ok rfl rfl rfl rfl rfl rfl rfl rfl rfl rfl (by assumption) (fun _ _ => rfl) (by (try dsimp only); omega) (by omega) (fun a14 c14 ha14 => ?_)) | refine WL.ef rfl rfl (by decide) (Ef.appendR 3 tab_ok rfl rfl rfl rfl rfl rfl rfl rfl rfl rfl (by assumption) (fun _ _ => rfl) (by (try dsimp only); omega) (by omega) (fun a14 c14 ha14 => ?_))
  refine WG.run tab_ok 2 rfl ?_
  refine WL.efN rfl rfl (Ef.storeObj (off := 1) 2 tab_ok rfl rfl rfl rfl rfl rfl rfl rfl ?_)
  refine WG.nil ?_
  refine WE.nxt ?_
  refine W.seq ?_
  refine W.region _ ?_
  refine WG.run tab_ok 1 rfl ?_
  refine WG.nil ?_
  refine WE.nxt ?_
  refine W.ret ?_
  refine WE.subE (E' := (.sl 5 1 a14 c14 ((l ++ [c]).map encY) :: .obj b (.cells #[.pointer (some ⟨b, 0, none⟩), .slice a14 (l ++ [c]).length c14] 79 (0, 0)) :: F)) (by (repeat (first | exact List.Sublist.refl _ | exact List.nil_sublist _ | apply List.Sublist.cons_cons | apply List.Sublist.cons)); done) ?_
  refine WE.retF tab_ok [_] rfl ⟨rfl, trivial⟩ (RLe.refl _) ?_
  exact ⟨a14, c14, rfl, rfl, rfl⟩

theorem WriteString_C {R : Ro} {b cap : Nat} {a p : Option Addr} {l : List UInt8} {F : List Ent} (hp : p = none ∨ p = some ⟨b, 0, none⟩) (hl : l.length ≤ 1000000) (x : List UInt8) (hx : x.length ≤ 1000000) (w0 : World) : K.Fn Tryd.prog 64 [.pointer (some ⟨b, 0, none⟩), .string (str x)] w0 R (.sl 5 1 a cap (l.map encY) :: .obj b (.cells #[.pointer p, .slice a l.length cap] 79 (0, 0)) :: F) (fun v R' E' => ∃ (a' : Option Addr) (cap' : Nat), v = .tuple #[.int .i64 ((str x).size : Int), .nilIface] ∧ R = R' ∧ E' = .sl 5 1 a' cap' ((l ++ x).map encY) :: .obj b (.cells #[.pointer (some ⟨b, 0, none⟩), .slice a' (l ++ x).length cap'] 79 (0, 0)) :: F) := by
  refine Fn.enter (n := 19) Tryd.func64 rfl rfl (Nat.le_of_ble_eq_true rfl) rfl ?_
  refine W.seq ?_
  refine W.region _ ?_
  refine WG.run tab_ok 2 rfl ?_
  refine WG.nil ?_
  refine WE.nxt ?_
  refine W.seq ?_
  refine W.region _ ?_
  refine WG.run tab_ok 1 rfl ?_
  refine WL.call en79 rfl rfl (by decide) (CallOp.mkT rfl rfl rfl rfl) (Copy_C hp w0) ?_
  rintro _ _ _ - ⟨rfl, rfl, rfl⟩
  refine WG.nil ?_
  refine WE.nxt ?_
  refine W.seq ?_
  refine W.region _ ?_
  refine WG.run tab_ok 4 rfl ?_
  refine' WG.y rfl rfl (by decide) (Yl.load1 tab_ok rfl rfl rfl (fun _ => rfl) ?r1 rfl ?h1) ?_
  case r1 => apply Rd.add; exact Rd.obj 1 rfl
  case h1 => rfl
  refine WG.run tab_ok 1 rfl ?_
  refine WL.ef rfl rfl (by decide) (Ef.appendStr 0 tab_ok rfl rfl rfl rfl rfl rfl (by kernel_rfl) rfl rfl rfl rfl rfl rfl (by omega) (fun a14 c14 => ?_))
  refine WG.run tab_ok 2 rfl ?_
  refine WL.efN rfl rfl (Ef.storeObj (off := 1) 1 tab_ok rfl rfl rfl rfl rfl rfl rfl rfl ?_)
  refine WG.nil ?_
  refine WE.nxt ?_
  refine W.seq ?_
  refine W.region _ ?_
  refine WG.run tab_ok 4 rfl ?_
  refine WG.nil ?_
  refine WE.nxt ?_
  refine W.ret ?_
  refine WE.retF tab_ok [_, _] rfl ⟨rfl, rfl, trivial⟩ (RLe.refl _) ?_
  exact ⟨a14, c14, rfl, rfl, rfl⟩

end Go.Proofs.YtjacpnojnoompaaDoor

/- The journal: digits into a builder, check numbers. No condition. -/
set_option linter.unusedSimpArgs false
set_option linter.unusedVariables false
namespace Go.Proofs.YtjacpnojnoompaaDoor
open Go Go.RowKit Go.Proofs.YtjacpnojnoompaaDoor.K Go.Proofs.YtjacpnojnoompaaDoor.M

theorem BString_C {R : Ro} {b cap : Nat} {a p : Option Addr} {l : List UInt8} (hp : p = none ∨ p = some ⟨b, 0, none⟩) (w0 : World) (hR : RBelow w0 R) : K.Fn Tryd.prog 65 [.pointer (some ⟨b, 0, none⟩)] w0 R [.sl 5 1 a cap (l.map encY), .obj b (.cells #[.pointer p, .slice a l.length cap] 79 (0, 0))] (fun v R' E' => v = .string (str l) ∧ R = R' ∧ E' = []) := by
  intro w hm
  obtain ⟨hb0, hb1⟩ := hm.own _ (show .obj b (.cells #[.pointer p, .slice a l.length cap] 79 (0, 0)) ∈ _ by simp)
  obtain ⟨_, _, hs2⟩ := hm.own _ (show .sl 5 1 a cap (l.map encY) ∈ _ by simp)
  rw [encY_flat, List.length_map] at hs2
  have hne : (Value.slice a l.length cap).ownBlock ≠ some b := fun h => by
    have hnd := hm.nodup
    rw [List.pairwise_cons] at hnd
    have := hnd.1 _ (List.mem_singleton.2 rfl) b (by cases a with
      | none => simp [Value.ownBlock] at h
      | some ad => simpa [Value.ownBlock, Ent.block] using h)
    exact this rfl
  have hB : Lib.BuilderAt 79 5 w0.heap.size b (.pointer p) (Lib.byteCells l) w := ⟨hb0, _, hb1, by rw [Lib.byteCells_length]; exact hs2, hne⟩
  have hIs : Lib.IsBuilder 79 5 w0.heap.size b (Lib.byteCells l) w := by
    rcases hp with rfl | rfl
    · exact .inl hB
    · exact .inr hB
  refine (sh_Builder_String_any w0.heap.size b l w hIs hm.below.size).mono ?_
  rintro e w' ⟨rfl, hbl⟩
  refine ⟨_, R, [], rfl, RLe.refl _, ⟨hm.below.trans hbl, fun b' cs hr => ?_, fun e he => (by cases he), fun e he => (by cases he), List.Pairwise.nil⟩, rfl, rfl, rfl⟩
  obtain ⟨T, fz, h1⟩ := hm.ro b' cs hr
  exact ⟨T, fz, by rw [hbl.block b' (hR b' cs hr)]; exact h1⟩

theorem JDec_C {R : Ro} {b : Nat} {F : List Ent} (w0 : World) (u : Nat) : u ≤ 1000000 → ∀ {cap : Nat} {a p : Option Addr} {l : List UInt8}, (p = none ∨ p = some ⟨b, 0, none⟩) → l.length + u ≤ 900000 → K.Fn Tryd.prog 62 [.pointer (some ⟨b, 0, none⟩), .int .i64 (u : Int)] w0 R (.sl 5 1 a cap (l.map encY) :: .obj b (.cells #[.pointer p, .slice a l.length cap] 79 (0, 0)) :: F) (fun v R' E' => ∃ (a' : Option Addr) (cap' : Nat), v = .tuple #[] ∧ R = R' ∧ E' = .sl 5 1 a' cap' ((l ++ Lib.decDigits u).map encY) :: .obj b (.cells #[.pointer (some ⟨b, 0, none⟩), .slice a' (l ++ Lib.decDigits u).length cap'] 79 (0, 0)) :: F) := by
  refine Nat.strongRecOn (motive := fun u => u ≤ 1000000 → ∀ {cap : Nat} {a p : Option Addr} {l : List UInt8}, (p = none ∨ p = some ⟨b, 0, none⟩) → l.length + u ≤ 900000 → K.Fn Tryd.prog 62 [.pointer (some ⟨b, 0, none⟩), .int .i64 (u : Int)] w0 R (.sl 5 1 a cap (l.map encY) :: .obj b (.cells #[.pointer p, .slice a l.length cap] 79 (0, 0)) :: F) (fun v R' E' => ∃ (a' : Option Addr) (cap' : Nat), v = .tuple #[] ∧ R = R' ∧ E' = .sl 5 1 a' cap' ((l ++ Lib.decDigits u).map encY) :: .obj b (.cells #[.pointer (some ⟨b, 0, none⟩), .slice a' (l ++ Lib.decDigits u).length cap'] 79 (0, 0)) :: F)) u (fun u ih hu {cap} {a} {p} {l} hp hl => ?_)
  have hd1 := decDigits_le u
  have hbyte : ∀ d : Nat, d < 10 → ((UInt8.ofNat (48 + d)).toNat : Int) = 48 + d := fun d hd => by rw [UInt8.toNat_ofNat']; omega
  have hby := hbyte (u % 10) (by omega)
  have hcv : (48 + (u : Int) % 10) = ((UInt8.ofNat (48 + u % 10)).toNat : Int) := by rw [hby]; omega
  refine Fn.enter (n := 16) Tryd.func62 rfl rfl (Nat.le_of_ble_eq_true rfl) rfl ?_
  refine W.seqCut (β := List UInt8 × Option Addr × Nat × Option Addr) (fun (m, a1, k1, p1) => (p1 = none ∨ p1 = some ⟨b, 0, none⟩) ∧ m ++ [(UInt8.ofNat (48 + u % 10))] = l ++ Lib.decDigits u ∧ m.length ≤ 950000) (fun (m, a1, k1, p1) => [(0, true, .pointer (some ⟨b, 0, none⟩)), (1, true, .int .i64 (u : Int))]) (fun _ => R) (fun (m, a1, k1, p1) => .sl 5 1 a1 k1 (m.map encY) :: .obj b (.cells #[.pointer p1, .slice a1 m.length k1] 79 (0, 0)) :: F) ?_ ?_
  ·
    intro zz hst
    obtain ⟨m, a1, k1, p1⟩ := zz
    obtain ⟨hp1, hmm, hml⟩ := hst
    dsimp only at hp1 hmm hml ⊢
    refine W.region _ ?_
    refine WG.run tab_ok 2 rfl ?_
    refine WG.y rfl rfl (by decide) (Yl.rem rfl rfl rfl (fun _ => rfl) (by intro _; (try dsimp only) <;> omega) (by intro _; (try dsimp only) <;> omega)) ?_
    refine WG.y rfl rfl (by decide) (Yl.add rfl rfl rfl (fun _ => rfl) (by intro _; constructor <;> (try dsimp only) <;> omega)) ?_
    refine WG.y rfl rfl (by decide) (Yl.convId tab_ok rfl rfl rfl rfl rfl rfl (fun _ => rfl) (by intro _; (try dsimp only); first | exact u64_id ⟨by omega, by omega⟩ | exact i64_wrap ⟨by omega, by omega⟩ | exact u8_id ⟨by omega, by omega⟩)) ?_
    rw [hcv]
    refine WL.call en63 rfl rfl (by decide) (CallOp.mkT rfl rfl rfl rfl) (WriteByte_C (l := m) hp1 (by omega) (UInt8.ofNat (48 + u % 10)) w0) ?_
    rintro _ _ _ - ⟨a9, k9, rfl, rfl, rfl⟩
    rw [hmm]
    refine WG.nil ?_
    refine WE.endF tab_ok [] rfl trivial (RLe.refl _) ?_
    exact ⟨a9, k9, rfl, rfl, rfl⟩
  ·
    refine W.seq ?_
    refine W.region _ ?_
    refine WG.run tab_ok 2 rfl ?_
    refine WG.nil ?_
    refine WE.nxt ?_
    refine W.condD rfl (fun hc0 => ?_) (fun hc0 => ?_)
    · try dsimp only at hc0
      have hd2 := decDigits_le (u / 10)
      have hdd : Lib.decDigits u = Lib.decDigits (u / 10) ++ [(UInt8.ofNat (48 + u % 10))] := by rw [Lib.decDigits, dif_neg (by omega)]
      refine W.region _ ?_
      refine WG.run tab_ok 2 rfl ?_
      refine WG.y rfl rfl (by decide) (Yl.quo rfl rfl rfl (fun _ => rfl) (by intro _; constructor <;> (try dsimp only) <;> omega) (by intro _; omega)) ?_
      refine WL.call en62 rfl rfl (by decide) (CallOp.mkT rfl rfl rfl rfl) (by
        have h := ih (u / 10) (by omega) (by omega) (cap := cap) (a := a) (p := p) (l := l) hp (by omega)
        exact h) ?_
      rintro _ _ _ - ⟨a8, k8, rfl, rfl, rfl⟩
      refine WG.nil ?_
      refine WE.cut (l ++ Lib.decDigits (u / 10), a8, k8, some ⟨b, 0, none⟩) ⟨.inr rfl, by rw [List.append_assoc, ← hdd], by simp only [List.length_append]; omega⟩ ⟨rfl, rfl, rfl⟩ (RLe.refl _) (by (repeat (first | exact List.Sublist.refl _ | exact List.nil_sublist _ | apply List.Sublist.cons_cons | apply List.Sublist.cons)); done)
    · try dsimp only at hc0
      have hdd : Lib.decDigits u = [(UInt8.ofNat (48 + u % 10))] := by rw [Lib.decDigits, dif_pos (by omega), show u % 10 = u by omega]
      refine W.skip ?_
      refine WE.cut (l, a, cap, p) ⟨hp, by rw [hdd], by (try dsimp only); omega⟩ ⟨rfl, rfl, rfl⟩ (RLe.refl _) (by (repeat (first | exact List.Sublist.refl _ | exact List.nil_sublist _ | apply List.Sublist.cons_cons | apply List.Sublist.cons)); done)

theorem JSum_V {R : Ro} {l : List UInt8} (hl : l.length ≤ 1000000) : FnV Tryd.prog 24 [.string (str l)] R (.int .i64 (sumF l)) := by
  refine Fn.toV (fun w0 E => ?_)
  have hsz := str_size l
  refine Fn.enter (n := 27) Tryd.func24 rfl rfl (Nat.le_of_ble_eq_true rfl) rfl ?_
  refine W.seq ?_
  refine W.region _ ?_
  refine WG.run tab_ok 1 rfl ?_
  refine WG.nil ?_
  refine WE.nxt ?_
  refine W.seq ?_
  refine W.region _ ?_
  refine WG.run tab_ok 2 rfl ?_
  refine WG.nil ?_
  refine WE.nxt ?_
  refine W.seq ?_
  refine W.seq ?_
  refine W.region _ ?_
  refine WG.run tab_ok 1 rfl ?_
  refine WG.nil ?_
  refine WE.nxt ?_
  refine W.block ?_
  refine W.loopK (β := Nat × Int × Int) (fun (i, x, y) => i ≤ l.length ∧ ((0 ≤ x ∧ x ≤ 65520) ∧ (0 ≤ y ∧ y ≤ 65520)) ∧ sumGo 1 0 l = sumGo x y (l.drop i)) (fun (i, x, y) => [(3, true, .int .i64 x), (4, true, .int .i64 y), (5, true, .int .i64 (i : Int))]) [0] [_] [] _ rfl (fun (i, x, y) => []) (fun (i, x, y) => l.length - i) ((0, 1, 0)) (⟨Nat.zero_le _, by decide, rfl⟩) ⟨rfl, rfl, rfl, rfl, rfl⟩ (by (repeat (first | exact List.Sublist.refl _ | exact List.nil_sublist _ | apply List.Sublist.cons_cons | apply List.Sublist.cons)); done) ?_
  intro st hst
  obtain ⟨i, x, y⟩ := st
  dsimp only [zipE, setAll, List.cons_append, List.nil_append, List.set_cons_zero, List.set_cons_succ] at hst ⊢
  obtain ⟨hi, hxy, hsg⟩ := hst
  have hbr := byteAt_range l i
  refine W.seq ?_
  refine W.seq ?_
  refine W.region _ ?_
  refine WG.run tab_ok 4 rfl ?_
  refine WG.nil ?_
  refine WE.nxt ?_
  refine W.condD rfl (fun hc0 => ?_) (fun hc0 => ?_)
  · try dsimp only at hc0
    have hil : i < l.length := by omega
    rw [drop_at hil] at hsg
    have hbt : byteAt l ((i : Int)).toNat = byteAt l i := rfl
    refine W.skip ?_
    refine WE.nxt ?_
    refine W.seq ?_
    refine W.block ?_
    refine W.seq ?_
    refine W.region _ ?_
    refine WG.run tab_ok 3 rfl ?_
    refine WG.y rfl rfl (by decide) (Yl.sidx tab_ok rfl rfl rfl rfl rfl (fun _ => rfl) (by intro _; constructor <;> (try dsimp only) <;> omega)) ?_
    refine WG.y rfl rfl (by decide) (Yl.convId tab_ok rfl rfl rfl rfl rfl rfl (fun _ => rfl) (by intro _; (try dsimp only); first | exact u64_id ⟨by omega, by omega⟩ | exact i64_wrap ⟨by omega, by omega⟩ | exact u8_id ⟨by omega, by omega⟩)) ?_
    refine WG.y rfl rfl (by decide) (Yl.add rfl rfl rfl (fun _ => rfl) (by intro _; constructor <;> (try dsimp only) <;> omega)) ?_
    refine WG.y rfl rfl (by decide) (Yl.rem rfl rfl rfl (fun _ => rfl) (by intro _; (try dsimp only) <;> omega) (by intro _; (try dsimp only) <;> omega)) ?_
    refine WG.run tab_ok 1 rfl ?_
    refine WG.nil ?_
    refine WE.nxt ?_
    refine W.region _ ?_
    refine WG.run tab_ok 2 rfl ?_
    refine WG.y rfl rfl (by decide) (Yl.add rfl rfl rfl (fun _ => rfl) (by intro _; constructor <;> (try dsimp only) <;> omega)) ?_
    refine WG.y rfl rfl (by decide) (Yl.rem rfl rfl rfl (fun _ => rfl) (by intro _; (try dsimp only) <;> omega) (by intro _; (try dsimp only) <;> omega)) ?_
    refine WG.run tab_ok 1 rfl ?_
    refine WG.nil ?_
    refine WE.blk _ ?_
    refine WE.nxt ?_
    refine W.region _ ?_
    refine WG.run tab_ok 1 rfl ?_
    refine WG.y rfl rfl (by decide) (Yl.add rfl rfl rfl (fun _ => rfl) (by intro _; constructor <;> (try dsimp only) <;> omega)) ?_
    refine WG.run tab_ok 1 rfl ?_
    refine WG.nil ?_
    refine WE.again ((i + 1, (x + byteAt l i) % 65521, (y + (x + byteAt l i) % 65521) % 65521)) (⟨by dsimp only; omega, by dsimp only; omega, hsg⟩) (by (try dsimp only); omega) ⟨rfl, rfl, rfl, rfl, rfl⟩ (RLe.refl _) (by (repeat (first | exact List.Sublist.refl _ | exact List.nil_sublist _ | apply List.Sublist.cons_cons | apply List.Sublist.cons)); done)
  · try dsimp only at hc0
    obtain rfl : i = l.length := by omega
    rw [List.drop_length] at hsg
    have hsf : sumF l = y * 65536 + x := by unfold sumF; rw [hsg]; rfl
    refine W.exit ?_
    refine WE.then_exit ?_
    refine WE.then_exit ?_
    refine WE.blk_exit ?_
    refine WE.nxt ?_
    refine W.seq ?_
    refine W.region _ ?_
    refine WG.run tab_ok 1 rfl ?_
    refine WG.y rfl rfl (by decide) (Yl.shl16 rfl rfl rfl (fun _ => rfl) (by intro _; omega)) ?_
    refine WG.run tab_ok 1 rfl ?_
    refine WG.y rfl rfl (by decide) (Yl.orLow rfl rfl rfl (fun _ => rfl) (by intro _; omega)) ?_
    refine WG.run tab_ok 1 rfl ?_
    refine WG.nil ?_
    refine WE.nxt ?_
    refine W.ret ?_
    refine WE.subE (E' := E) (by (repeat (first | exact List.Sublist.refl _ | exact List.nil_sublist _ | apply List.Sublist.cons_cons | apply List.Sublist.cons)); done) ?_
    refine WE.retF tab_ok [_] rfl ⟨rfl, trivial⟩ (RLe.refl _) ?_
    exact ⟨congrArg (Value.int .i64) hsf.symm, rfl⟩

theorem RSum_V {R : Ro} {l : List UInt8} (hl : l.length ≤ 1000000) : FnV Tryd.prog 25 [.string (str l)] R (.int .i64 (sumF l)) := by
  refine Fn.toV (fun w0 E => ?_)
  have hsz := str_size l
  refine Fn.enter (n := 27) Tryd.func25 rfl rfl (Nat.le_of_ble_eq_true rfl) rfl ?_
  refine W.seq ?_
  refine W.region _ ?_
  refine WG.run tab_ok 1 rfl ?_
  refine WG.nil ?_
  refine WE.nxt ?_
  refine W.seq ?_
  refine W.region _ ?_
  refine WG.run tab_ok 2 rfl ?_
  refine WG.nil ?_
  refine WE.nxt ?_
  refine W.seq ?_
  refine W.seq ?_
  refine W.region _ ?_
  refine WG.run tab_ok 1 rfl ?_
  refine WG.nil ?_
  refine WE.nxt ?_
  refine W.block ?_
  refine W.loopK (β := Nat × Int × Int) (fun (i, x, y) => i ≤ l.length ∧ ((0 ≤ x ∧ x ≤ 65520) ∧ (0 ≤ y ∧ y ≤ 65520)) ∧ sumGo 1 0 l = sumGo x y (l.drop i)) (fun (i, x, y) => [(3, true, .int .i64 x), (4, true, .int .i64 y), (5, true, .int .i64 (i : Int))]) [0] [_] [] _ rfl (fun (i, x, y) => []) (fun (i, x, y) => l.length - i) ((0, 1, 0)) (⟨Nat.zero_le _, by decide, rfl⟩) ⟨rfl, rfl, rfl, rfl, rfl⟩ (by (repeat (first | exact List.Sublist.refl _ | exact List.nil_sublist _ | apply List.Sublist.cons_cons | apply List.Sublist.cons)); done) ?_
  intro st hst
  obtain ⟨i, x, y⟩ := st
  dsimp only [zipE, setAll, List.cons_append, List.nil_append, List.set_cons_zero, List.set_cons_succ] at hst ⊢
  obtain ⟨hi, hxy, hsg⟩ := hst
  have hbr := byteAt_range l i
  refine W.seq ?_
  refine W.seq ?_
  refine W.region _ ?_
  refine WG.run tab_ok 4 rfl ?_
  refine WG.nil ?_
  refine WE.nxt ?_
  refine W.condD rfl (fun hc0 => ?_) (fun hc0 => ?_)
  · try dsimp only at hc0
    have hil : i < l.length := by omega
    rw [drop_at hil] at hsg
    have hbt : byteAt l ((i : Int)).toNat = byteAt l i := rfl
    refine W.skip ?_
    refine WE.nxt ?_
    refine W.seq ?_
    refine W.block ?_
    refine W.seq ?_
    refine W.region _ ?_
    refine WG.run tab_ok 3 rfl ?_
    refine WG.y rfl rfl (by decide) (Yl.sidx tab_ok rfl rfl rfl rfl rfl (fun _ => rfl) (by intro _; constructor <;> (try dsimp only) <;> omega)) ?_
    refine WG.y rfl rfl (by decide) (Yl.convId tab_ok rfl rfl rfl rfl rfl rfl (fun _ => rfl) (by intro _; (try dsimp only); first | exact u64_id ⟨by omega, by omega⟩ | exact i64_wrap ⟨by omega, by omega⟩ | exact u8_id ⟨by omega, by omega⟩)) ?_
    refine WG.y rfl rfl (by decide) (Yl.add rfl rfl rfl (fun _ => rfl) (by intro _; constructor <;> (try dsimp only) <;> omega)) ?_
    refine WG.y rfl rfl (by decide) (Yl.rem rfl rfl rfl (fun _ => rfl) (by intro _; (try dsimp only) <;> omega) (by intro _; (try dsimp only) <;> omega)) ?_
    refine WG.run tab_ok 1 rfl ?_
    refine WG.nil ?_
    refine WE.nxt ?_
    refine W.region _ ?_
    refine WG.run tab_ok 2 rfl ?_
    refine WG.y rfl rfl (by decide) (Yl.add rfl rfl rfl (fun _ => rfl) (by intro _; constructor <;> (try dsimp only) <;> omega)) ?_
    refine WG.y rfl rfl (by decide) (Yl.rem rfl rfl rfl (fun _ => rfl) (by intro _; (try dsimp only) <;> omega) (by intro _; (try dsimp only) <;> omega)) ?_
    refine WG.run tab_ok 1 rfl ?_
    refine WG.nil ?_
    refine WE.blk _ ?_
    refine WE.nxt ?_
    refine W.region _ ?_
    refine WG.run tab_ok 1 rfl ?_
    refine WG.y rfl rfl (by decide) (Yl.add rfl rfl rfl (fun _ => rfl) (by intro _; constructor <;> (try dsimp only) <;> omega)) ?_
    refine WG.run tab_ok 1 rfl ?_
    refine WG.nil ?_
    refine WE.again ((i + 1, (x + byteAt l i) % 65521, (y + (x + byteAt l i) % 65521) % 65521)) (⟨by dsimp only; omega, by dsimp only; omega, hsg⟩) (by (try dsimp only); omega) ⟨rfl, rfl, rfl, rfl, rfl⟩ (RLe.refl _) (by (repeat (first | exact List.Sublist.refl _ | exact List.nil_sublist _ | apply List.Sublist.cons_cons | apply List.Sublist.cons)); done)
  · try dsimp only at hc0
    obtain rfl : i = l.length := by omega
    rw [List.drop_length] at hsg
    have hsf : sumF l = y * 65536 + x := by unfold sumF; rw [hsg]; rfl
    refine W.exit ?_
    refine WE.then_exit ?_
    refine WE.then_exit ?_
    refine WE.blk_exit ?_
    refine WE.nxt ?_
    refine W.seq ?_
    refine W.region _ ?_
    refine WG.run tab_ok 1 rfl ?_
    refine WG.y rfl rfl (by decide) (Yl.mul rfl rfl rfl (fun _ => rfl) (by intro _; constructor <;> (try dsimp only) <;> omega)) ?_
    refine WG.run tab_ok 1 rfl ?_
    refine WG.y rfl rfl (by decide) (Yl.add rfl rfl rfl (fun _ => rfl) (by intro _; constructor <;> (try dsimp only) <;> omega)) ?_
    refine WG.run tab_ok 1 rfl ?_
    refine WG.nil ?_
    refine WE.nxt ?_
    refine W.ret ?_
    refine WE.subE (E' := E) (by (repeat (first | exact List.Sublist.refl _ | exact List.nil_sublist _ | apply List.Sublist.cons_cons | apply List.Sublist.cons)); done) ?_
    refine WE.retF tab_ok [_] rfl ⟨rfl, trivial⟩ (RLe.refl _) ?_
    exact ⟨congrArg (Value.int .i64) hsf.symm, rfl⟩

end Go.Proofs.YtjacpnojnoompaaDoor

/- The journal: the lines of the reference. No condition. -/
set_option linter.unusedSimpArgs false
set_option linter.unusedVariables false
namespace Go.Proofs.YtjacpnojnoompaaDoor
open Go Go.RowKit Go.Proofs.YtjacpnojnoompaaDoor.K Go.Proofs.YtjacpnojnoompaaDoor.M

theorem RDec_pre (u : Nat) : ((UInt8.ofNat (48 + u % 10)).toNat : Int) = 48 + ((u % 10 : Nat) : Int) := by rw [UInt8.toNat_ofNat']; omega
theorem hexF_len (n : Int) : ∀ k, (hexF n k).length = k
  | 0 => rfl
  | k + 1 => by simp [hexF, hexF_len n k]

theorem RDec_V {R : Ro} (u : Nat) : u ≤ 1000000000 → FnV Tryd.prog 66 [.int .i64 (u : Int)] R (.string (str (Lib.decDigits u))) := by
  refine Nat.strongRecOn (motive := fun u => u ≤ 1000000000 → FnV Tryd.prog 66 [.int .i64 (u : Int)] R (.string (str (Lib.decDigits u)))) u (fun u ih hu => ?_)
  refine Fn.toVS (fun w0 E => ?_)
  have hby := RDec_pre u
  have hcv : (48 + (u : Int) % 10) = ((UInt8.ofNat (48 + u % 10)).toNat : Int) := by rw [hby]; omega
  have hdl := decDigits_le (u / 10)
  refine Fn.enter (n := 20) Tryd.func66 rfl rfl (Nat.le_of_ble_eq_true rfl) rfl ?_
  refine W.seq ?_
  refine W.region _ ?_
  refine WG.run tab_ok 1 rfl ?_
  refine WG.nil ?_
  refine WE.nxt ?_
  refine W.seq ?_
  refine W.seq ?_
  refine W.region _ ?_
  refine WG.run tab_ok 2 rfl ?_
  refine WG.nil ?_
  refine WE.nxt ?_
  refine W.condD rfl (fun hc0 => ?_) (fun hc0 => ?_)
  · try dsimp only at hc0
    have hcv2 : 48 + (u : Int) = ((UInt8.ofNat (48 + u % 10)).toNat : Int) := by rw [hby]; omega
    have hdd : Lib.decDigits u = [UInt8.ofNat (48 + u % 10)] := by rw [Lib.decDigits, dif_pos (by omega), show u % 10 = u by omega]
    refine W.seq ?_
    refine W.region _ ?_
    refine WG.run tab_ok 1 rfl ?_
    refine WG.y rfl rfl (by decide) (Yl.add rfl rfl rfl (fun _ => rfl) (by intro _; constructor <;> (try dsimp only) <;> omega)) ?_
    refine WG.y rfl rfl (by decide) (Yl.conv (b := ((UInt8.ofNat (48 + u % 10)).toNat : Int)) tab_ok rfl rfl rfl rfl rfl rfl (fun _ => rfl) (by intro _; rw [hcv2]; exact u8_id ⟨by omega, by omega⟩)) ?_
    refine WL.ef rfl rfl (by decide) (Ef.buildSliceD (enc := encY) (parts := [.tmp 7]) [UInt8.ofNat (48 + u % 10)] tab_ok rfl rfl rfl rfl rfl rfl rfl rfl (by decide) (by decide) (fun a8 => ?_))
    refine WG.y rfl rfl (by decide) (Yl.bytesStr (l := [UInt8.ofNat (48 + u % 10)]) 0 tab_ok rfl rfl rfl rfl rfl rfl rfl rfl rfl rfl (by simp) (fun _ => rfl)) ?_
    refine WG.run tab_ok 1 rfl ?_
    refine WG.nil ?_
    refine WE.nxt ?_
    refine W.ret ?_
    refine WE.then_ret ?_
    refine WE.retF tab_ok [_] rfl ⟨rfl, trivial⟩ (RLe.refl _) ?_
    exact ⟨by rw [hdd]; rfl, (by (repeat (first | exact List.Sublist.refl _ | exact List.nil_sublist _ | apply List.Sublist.cons_cons | apply List.Sublist.cons)); done)⟩
  · try dsimp only at hc0
    have hdd : Lib.decDigits u = Lib.decDigits (u / 10) ++ [UInt8.ofNat (48 + u % 10)] := by rw [Lib.decDigits, dif_neg (by omega)]
    refine W.skip ?_
    refine WE.nxt ?_
    refine W.seq ?_
    refine W.regionH _ (ES := []) mixed ?_
    refine WA.take 0 rfl (by kernel_rfl) (by kernel_rfl) (by kernel_rfl) rfl rfl (by decide) (pureV_ok tab_ok rfl (fun _ => rfl)) (by (repeat (first | exact List.Sublist.refl _ | exact List.nil_sublist _ | apply List.Sublist.cons_cons | apply List.Sublist.cons)); done) (by first | exact RLe.refl _ | assumption) ?_
    refine WA.take 1 rfl (by kernel_rfl) (by kernel_rfl) (by kernel_rfl) rfl rfl (by decide) (Yl.quo rfl rfl rfl (fun _ => rfl) (by intro _; constructor <;> (try dsimp only) <;> omega) (by intro _; omega)) (by (repeat (first | exact List.Sublist.refl _ | exact List.nil_sublist _ | apply List.Sublist.cons_cons | apply List.Sublist.cons)); done) (by first | exact RLe.refl _ | assumption) ?_
    refine WA.take 3 rfl (by kernel_rfl) (by kernel_rfl) (by kernel_rfl) rfl rfl (by decide) (pureV_ok tab_ok rfl (fun _ => rfl)) (by (repeat (first | exact List.Sublist.refl _ | exact List.nil_sublist _ | apply List.Sublist.cons_cons | apply List.Sublist.cons)); done) (by first | exact RLe.refl _ | assumption) ?_
    refine WA.take 4 rfl (by kernel_rfl) (by kernel_rfl) (by kernel_rfl) rfl rfl (by decide) (Yl.rem rfl rfl rfl (fun _ => rfl) (by intro _; (try dsimp only) <;> omega) (by intro _; (try dsimp only) <;> omega)) (by (repeat (first | exact List.Sublist.refl _ | exact List.nil_sublist _ | apply List.Sublist.cons_cons | apply List.Sublist.cons)); done) (by first | exact RLe.refl _ | assumption) ?_
    refine WA.take 5 rfl (by kernel_rfl) (by kernel_rfl) (by kernel_rfl) rfl rfl (by decide) (Yl.add rfl rfl rfl (fun _ => rfl) (by intro _; constructor <;> (try dsimp only) <;> omega)) (by (repeat (first | exact List.Sublist.refl _ | exact List.nil_sublist _ | apply List.Sublist.cons_cons | apply List.Sublist.cons)); done) (by first | exact RLe.refl _ | assumption) ?_
    refine WA.take 6 rfl (by kernel_rfl) (by kernel_rfl) (by kernel_rfl) rfl rfl (by decide) (Yl.conv (b := ((UInt8.ofNat (48 + u % 10)).toNat : Int)) tab_ok rfl rfl rfl rfl rfl rfl (fun _ => rfl) (by intro _; rw [hcv]; exact u8_id ⟨by omega, by omega⟩)) (by (repeat (first | exact List.Sublist.refl _ | exact List.nil_sublist _ | apply List.Sublist.cons_cons | apply List.Sublist.cons)); done) (by first | exact RLe.refl _ | assumption) ?_
    refine WA.br2 (i := 2) (j := 7) (by kernel_rfl) ?_ ?_
    ·
      refine WS.callG rfl en66 rfl (by first | rfl | decide) rfl (by decide) (CallOp.mkT rfl rfl rfl rfl) ((FnV.toFn (by have h := ih (u / 10) (by omega) (by omega); exact h) : K.Fn _ _ _ w0 R _ (fun v' R' E' => v' = .string (str (Lib.decDigits (u / 10))) ∧ R' = R ∧ E' = _))) ?_
      rintro _ _ _ - ⟨rfl, rfl, rfl⟩
      refine ⟨RLe.refl _, (by (repeat (first | exact List.Sublist.refl _ | exact List.nil_sublist _ | apply List.Sublist.cons_cons | apply List.Sublist.cons)); done), ?_⟩
      refine WA.eff 7 rfl (by kernel_rfl) rfl rfl (by decide) (Ef.buildSliceD (enc := encY) (parts := [.tmp 16]) [UInt8.ofNat (48 + u % 10)] tab_ok rfl rfl rfl rfl rfl rfl rfl rfl (by decide) (by decide) (fun a17 => ?_))
      refine ⟨by first | exact RLe.refl _ | assumption, (by (repeat (first | exact List.Sublist.refl _ | exact List.nil_sublist _ | apply List.Sublist.cons_cons | apply List.Sublist.cons)); done), ?_⟩
      refine WA.yl 8 rfl (by kernel_rfl) rfl rfl (by decide) (Yl.bytesStr (l := [UInt8.ofNat (48 + u % 10)]) 0 tab_ok rfl rfl rfl rfl rfl rfl rfl rfl rfl rfl (by simp) (fun _ => rfl)) (by (repeat (first | exact List.Sublist.refl _ | exact List.nil_sublist _ | apply List.Sublist.cons_cons | apply List.Sublist.cons)); done) (RLe.refl _) ?_
      refine WA.take 9 rfl (by kernel_rfl) (by kernel_rfl) (by kernel_rfl) rfl rfl (by decide) (Yl.catS rfl rfl rfl (fun _ => rfl) (by intro _; (simp only [List.length_cons, List.length_nil]; omega))) (by (repeat (first | exact List.Sublist.refl _ | exact List.nil_sublist _ | apply List.Sublist.cons_cons | apply List.Sublist.cons)); done) (by first | exact RLe.refl _ | assumption) ?_
      refine WA.take 10 rfl (by kernel_rfl) (by kernel_rfl) (by kernel_rfl) rfl rfl (by decide) (pureV_ok tab_ok rfl (fun _ => rfl)) (by (repeat (first | exact List.Sublist.refl _ | exact List.nil_sublist _ | apply List.Sublist.cons_cons | apply List.Sublist.cons)); done) (by first | exact RLe.refl _ | assumption) ?_
      refine WA.done (by kernel_rfl) ?_
      refine WE.nxt ?_
      refine W.ret ?_
      refine WE.retF tab_ok [_] rfl ⟨rfl, trivial⟩ (RLe.refl _) ?_
      exact ⟨by rw [hdd]; rfl, (by (repeat (first | exact List.Sublist.refl _ | exact List.nil_sublist _ | apply List.Sublist.cons_cons | apply List.Sublist.cons)); done)⟩
    ·
      refine WS.eff rfl rfl rfl (by decide) (Ef.buildSliceD (enc := encY) (parts := [.tmp 16]) [UInt8.ofNat (48 + u % 10)] tab_ok rfl rfl rfl rfl rfl rfl rfl rfl (by decide) (by decide) (fun a17 => ?_))
      refine ⟨by first | exact RLe.refl _ | assumption, (by (repeat (first | exact List.Sublist.refl _ | exact List.nil_sublist _ | apply List.Sublist.cons_cons | apply List.Sublist.cons)); done), ?_⟩
      refine WA.br2 (i := 2) (j := 8) (by kernel_rfl) ?_ ?_
      ·
        refine WS.callG rfl en66 rfl (by first | rfl | decide) rfl (by decide) (CallOp.mkT rfl rfl rfl rfl) ((FnV.toFn (by have h := ih (u / 10) (by omega) (by omega); exact h) : K.Fn _ _ _ w0 R _ (fun v' R' E' => v' = .string (str (Lib.decDigits (u / 10))) ∧ R' = R ∧ E' = _))) ?_
        rintro _ _ _ - ⟨rfl, rfl, rfl⟩
        refine ⟨RLe.refl _, (by (repeat (first | exact List.Sublist.refl _ | exact List.nil_sublist _ | apply List.Sublist.cons_cons | apply List.Sublist.cons)); done), ?_⟩
        refine WA.yl 8 rfl (by kernel_rfl) rfl rfl (by decide) (Yl.bytesStr (l := [UInt8.ofNat (48 + u % 10)]) 0 tab_ok rfl rfl rfl rfl rfl rfl rfl rfl rfl rfl (by simp) (fun _ => rfl)) (by (repeat (first | exact List.Sublist.refl _ | exact List.nil_sublist _ | apply List.Sublist.cons_cons | apply List.Sublist.cons)); done) (RLe.refl _) ?_
        refine WA.take 9 rfl (by kernel_rfl) (by kernel_rfl) (by kernel_rfl) rfl rfl (by decide) (Yl.catS rfl rfl rfl (fun _ => rfl) (by intro _; (simp only [List.length_cons, List.length_nil]; omega))) (by (repeat (first | exact List.Sublist.refl _ | exact List.nil_sublist _ | apply List.Sublist.cons_cons | apply List.Sublist.cons)); done) (by first | exact RLe.refl _ | assumption) ?_
        refine WA.take 10 rfl (by kernel_rfl) (by kernel_rfl) (by kernel_rfl) rfl rfl (by decide) (pureV_ok tab_ok rfl (fun _ => rfl)) (by (repeat (first | exact List.Sublist.refl _ | exact List.nil_sublist _ | apply List.Sublist.cons_cons | apply List.Sublist.cons)); done) (by first | exact RLe.refl _ | assumption) ?_
        refine WA.done (by kernel_rfl) ?_
        refine WE.nxt ?_
        refine W.ret ?_
        refine WE.retF tab_ok [_] rfl ⟨rfl, trivial⟩ (RLe.refl _) ?_
        exact ⟨by rw [hdd]; rfl, (by (repeat (first | exact List.Sublist.refl _ | exact List.nil_sublist _ | apply List.Sublist.cons_cons | apply List.Sublist.cons)); done)⟩
      ·
        refine WS.yl rfl rfl rfl (by decide) (Yl.bytesStr (l := [UInt8.ofNat (48 + u % 10)]) 0 tab_ok rfl rfl rfl rfl rfl rfl rfl rfl rfl rfl (by simp) (fun _ => rfl)) (by (repeat (first | exact List.Sublist.refl _ | exact List.nil_sublist _ | apply List.Sublist.cons_cons | apply List.Sublist.cons)); done) (RLe.refl _) ?_
        refine WA.callG 2 rfl (by kernel_rfl) en66 rfl (by first | rfl | decide) rfl (by decide) (CallOp.mkT rfl rfl rfl rfl) ((FnV.toFn (by have h := ih (u / 10) (by omega) (by omega); exact h) : K.Fn _ _ _ w0 R _ (fun v' R' E' => v' = .string (str (Lib.decDigits (u / 10))) ∧ R' = R ∧ E' = _))) ?_
        rintro _ _ _ - ⟨rfl, rfl, rfl⟩
        refine ⟨RLe.refl _, (by (repeat (first | exact List.Sublist.refl _ | exact List.nil_sublist _ | apply List.Sublist.cons_cons | apply List.Sublist.cons)); done), ?_⟩
        refine WA.take 9 rfl (by kernel_rfl) (by kernel_rfl) (by kernel_rfl) rfl rfl (by decide) (Yl.catS rfl rfl rfl (fun _ => rfl) (by intro _; (simp only [List.length_cons, List.length_nil]; omega))) (by (repeat (first | exact List.Sublist.refl _ | exact List.nil_sublist _ | apply List.Sublist.cons_cons | apply List.Sublist.cons)); done) (by first | exact RLe.refl _ | assumption) ?_
        refine WA.take 10 rfl (by kernel_rfl) (by kernel_rfl) (by kernel_rfl) rfl rfl (by decide) (pureV_ok tab_ok rfl (fun _ => rfl)) (by (repeat (first | exact List.Sublist.refl _ | exact List.nil_sublist _ | apply List.Sublist.cons_cons | apply List.Sublist.cons)); done) (by first | exact RLe.refl _ | assumption) ?_
        refine WA.done (by kernel_rfl) ?_
        refine WE.nxt ?_
        refine W.ret ?_
        refine WE.retF tab_ok [_] rfl ⟨rfl, trivial⟩ (RLe.refl _) ?_
        exact ⟨by rw [hdd]; rfl, (by (repeat (first | exact List.Sublist.refl _ | exact List.nil_sublist _ | apply List.Sublist.cons_cons | apply List.Sublist.cons)); done)⟩

theorem RHex_V {R : Ro} {n : Int} (hn : 0 ≤ n ∧ n ≤ 9223372036854775807) : FnV Tryd.prog 67 [.int .i64 n] R (.string (str (hexF n 8))) := by
  refine Fn.toV (fun w0 E => ?_)
  refine Fn.enter (n := 18) Tryd.func67 rfl rfl (Nat.le_of_ble_eq_true rfl) rfl ?_
  refine W.seq ?_
  refine W.region _ ?_
  refine WG.run tab_ok 1 rfl ?_
  refine WG.nil ?_
  refine WE.nxt ?_
  refine W.seq ?_
  refine W.region _ ?_
  refine WG.run tab_ok 1 rfl ?_
  refine WG.nil ?_
  refine WE.nxt ?_
  refine W.seq ?_
  refine W.seq ?_
  refine W.region _ ?_
  refine WG.run tab_ok 1 rfl ?_
  refine WG.nil ?_
  refine WE.nxt ?_
  refine W.block ?_
  refine W.loopK (β := Nat × Int) (fun (i, y) => i ≤ 8 ∧ (0 ≤ y ∧ y ≤ 9223372036854775807) ∧ y = n / 16 ^ i) (fun (i, y) => [(0, true, .int .i64 y), (3, true, .string (str (hexF n i))), (4, true, .int .i64 (i : Int))]) [] [] [] _ rfl (fun (i, y) => []) (fun (i, y) => 8 - i) ((0, n)) (⟨Nat.zero_le _, hn, by simp⟩) ⟨rfl, rfl, rfl, rfl⟩ (by (repeat (first | exact List.Sublist.refl _ | exact List.nil_sublist _ | apply List.Sublist.cons_cons | apply List.Sublist.cons)); done) ?_
  intro st hst
  obtain ⟨i, y⟩ := st
  dsimp only [zipE, setAll, List.cons_append, List.nil_append, List.set_cons_zero, List.set_cons_succ] at hst ⊢
  obtain ⟨hi, hy, hyn⟩ := hst
  have hfl := hexF_len n i
  refine W.seq ?_
  refine W.seq ?_
  refine W.region _ ?_
  refine WG.run tab_ok 2 rfl ?_
  refine WG.nil ?_
  refine WE.nxt ?_
  refine W.condD rfl (fun hc0 => ?_) (fun hc0 => ?_)
  · try dsimp only at hc0
    refine W.skip ?_
    refine WE.nxt ?_
    refine W.seq ?_
    refine W.block ?_
    refine W.seq ?_
    refine W.region _ ?_
    refine WG.run tab_ok 1 rfl ?_
    refine WG.y rfl rfl (by decide) (Yl.rem rfl rfl rfl (fun _ => rfl) (by intro _; (try dsimp only) <;> omega) (by intro _; (try dsimp only) <;> omega)) ?_
    refine WG.y rfl rfl (by decide) (Yl.sidx tab_ok rfl rfl rfl rfl rfl (fun _ => rfl) (by intro _; (simp only [List.length_cons, List.length_nil]; omega))) ?_
    refine WG.y rfl rfl (by decide) (Yl.byteStr (c := hexD y) tab_ok rfl rfl rfl rfl rfl rfl (fun _ => rfl) (fun _ => hexD_lt _)) ?_
    refine WG.run tab_ok 1 rfl ?_
    refine WG.y rfl rfl (by decide) (Yl.catS rfl rfl rfl (fun _ => rfl) (by intro _; (simp only [List.length_cons, List.length_nil]; omega))) ?_
    refine WG.run tab_ok 1 rfl ?_
    refine WG.nil ?_
    refine WE.nxt ?_
    refine W.region _ ?_
    refine WG.run tab_ok 1 rfl ?_
    refine WG.y rfl rfl (by decide) (Yl.quo rfl rfl rfl (fun _ => rfl) (by intro _; constructor <;> (try dsimp only) <;> omega) (by intro _; omega)) ?_
    refine WG.run tab_ok 1 rfl ?_
    refine WG.nil ?_
    refine WE.blk _ ?_
    refine WE.nxt ?_
    refine W.region _ ?_
    refine WG.run tab_ok 1 rfl ?_
    refine WG.y rfl rfl (by decide) (Yl.add rfl rfl rfl (fun _ => rfl) (by intro _; constructor <;> (try dsimp only) <;> omega)) ?_
    refine WG.run tab_ok 1 rfl ?_
    refine WG.nil ?_
    rw [show [hexD y] ++ hexF n i = hexF n (i + 1) by rw [hyn]; rfl]
    refine WE.again ((i + 1, y / 16)) (⟨by dsimp only; omega, by dsimp only; omega, by dsimp only; rw [hyn, Int.ediv_ediv_of_nonneg (Int.pow_nonneg (by decide)), Int.pow_succ]⟩) (by (try dsimp only); omega) ⟨rfl, rfl, rfl, rfl⟩ (RLe.refl _) (by (repeat (first | exact List.Sublist.refl _ | exact List.nil_sublist _ | apply List.Sublist.cons_cons | apply List.Sublist.cons)); done)
  · try dsimp only at hc0
    obtain rfl : i = 8 := by omega
    refine W.exit ?_
    refine WE.then_exit ?_
    refine WE.then_exit ?_
    refine WE.blk_exit ?_
    refine WE.nxt ?_
    refine W.seq ?_
    refine W.region _ ?_
    refine WG.run tab_ok 2 rfl ?_
    refine WG.nil ?_
    refine WE.nxt ?_
    refine W.ret ?_
    refine WE.subE (E' := E) (by (repeat (first | exact List.Sublist.refl _ | exact List.nil_sublist _ | apply List.Sublist.cons_cons | apply List.Sublist.cons)); done) ?_
    refine WE.retF tab_ok [_] rfl ⟨rfl, trivial⟩ (RLe.refl _) ?_
    exact ⟨rfl, rfl⟩

set_option maxHeartbeats 1000000 in
theorem RLine_V {R : Ro} {k : Int} {x : List UInt8} (hkr : InR k) (hxl : x.length ≤ 1000000) : FnV Tryd.prog 30 [.int .i64 k, .string (str x)] R (.tuple #[.string (str (lineF k x).1), .int .i64 (lineF k x).2]) := by
  refine Fn.toV (fun w0 E => ?_)
  have hsz := str_size x
  have hsr := sumF_range x
  refine Fn.enter (n := 50) Tryd.func30 rfl rfl (Nat.le_of_ble_eq_true rfl) rfl ?_
  refine W.seq ?_
  refine W.region _ ?_
  refine WG.run tab_ok 2 rfl ?_
  refine WG.nil ?_
  refine WE.nxt ?_
  refine W.seq ?_
  refine W.seq ?_
  refine W.region _ ?_
  refine WG.run tab_ok 3 rfl ?_
  refine WG.y rfl rfl (by decide) (pureV_ok tab_ok rfl (by first | exact fun _ => rfl | exact fun h => h | (intro h; simp_all))) ?_
  refine WG.y rfl rfl (by decide) (pureV_ok tab_ok rfl (by first | exact fun _ => rfl | exact fun h => h | (intro h; simp_all))) ?_
  refine WG.y rfl rfl (by decide) (Yl.por rfl rfl rfl (fun _ => rfl) (by intro h1 h2; simp_all <;> omega)) ?_
  refine WG.nil ?_
  refine WE.nxt ?_
  refine W.cond rfl (fun hc0 => ?_) (fun hc0 => ?_)
  · try simp only [decide_eq_true_eq, decide_eq_false_iff_not, beq_iff_eq, bne_iff_ne, beq_eq_false_iff_ne, bne_eq_false_iff_eq, ne_eq, Bool.or_eq_true, Bool.or_eq_false_iff, Bool.and_eq_true, Bool.and_eq_false_imp, Bool.not_eq_true, Bool.not_eq_true', Bool.not_eq_false', Classical.not_not, Int.not_lt, Int.not_le, gt_iff_lt, ge_iff_le] at hc0
    have hk : k < 1 ∨ 60 < k := by omega
    refine W.seq ?_
    refine W.region _ ?_
    refine WG.run tab_ok 2 rfl ?_
    refine WG.nil ?_
    refine WE.nxt ?_
    refine W.ret ?_
    refine WE.then_ret ?_
    refine WE.subE (E' := E) (by (repeat (first | exact List.Sublist.refl _ | exact List.nil_sublist _ | apply List.Sublist.cons_cons | apply List.Sublist.cons)); done) ?_
    refine WE.retF tab_ok [_, _] rfl ⟨rfl, rfl, trivial⟩ (RLe.refl _) ?_
    exact ⟨by unfold lineF; rw [if_pos hk]; rfl, rfl⟩
  · try simp only [decide_eq_true_eq, decide_eq_false_iff_not, beq_iff_eq, bne_iff_ne, beq_eq_false_iff_ne, bne_eq_false_iff_eq, ne_eq, Bool.or_eq_true, Bool.or_eq_false_iff, Bool.and_eq_true, Bool.and_eq_false_imp, Bool.not_eq_true, Bool.not_eq_true', Bool.not_eq_false', Classical.not_not, Int.not_lt, Int.not_le, gt_iff_lt, ge_iff_le] at hc0
    obtain ⟨u, rfl⟩ := Int.eq_ofNat_of_zero_le (show 0 ≤ k by omega)
    have hk : ¬ ((u : Int) < 1 ∨ 60 < (u : Int)) := by omega
    have hdu := decDigits_le u
    have hdx := decDigits_le x.length
    refine W.skip ?_
    refine WE.nxt ?_
    refine W.seq ?_
    refine W.seq ?_
    refine W.region _ ?_
    refine WG.run tab_ok 1 rfl ?_
    refine WG.y rfl rfl (by decide) (Yl.eqS rfl rfl rfl (fun _ => rfl)) ?_
    refine WG.nil ?_
    refine WE.nxt ?_
    refine W.cond rfl (fun hc1 => ?_) (fun hc1 => ?_)
    · try simp only [decide_eq_true_eq, decide_eq_false_iff_not, beq_iff_eq, bne_iff_ne, beq_eq_false_iff_ne, bne_eq_false_iff_eq, ne_eq, Bool.or_eq_true, Bool.or_eq_false_iff, Bool.and_eq_true, Bool.and_eq_false_imp, Bool.not_eq_true, Bool.not_eq_true', Bool.not_eq_false', Classical.not_not, Int.not_lt, Int.not_le, gt_iff_lt, ge_iff_le] at hc1
      have hx0 : x = [] := str_inj (by simpa [str] using hc1)
      refine W.seq ?_
      refine W.region _ ?_
      refine WG.run tab_ok 2 rfl ?_
      refine WG.nil ?_
      refine WE.nxt ?_
      refine W.ret ?_
      refine WE.then_ret ?_
      refine WE.subE (E' := E) (by (repeat (first | exact List.Sublist.refl _ | exact List.nil_sublist _ | apply List.Sublist.cons_cons | apply List.Sublist.cons)); done) ?_
      refine WE.retF tab_ok [_, _] rfl ⟨rfl, rfl, trivial⟩ (RLe.refl _) ?_
      exact ⟨by unfold lineF; rw [if_neg hk, if_pos hx0]; rfl, rfl⟩
    · try simp only [decide_eq_true_eq, decide_eq_false_iff_not, beq_iff_eq, bne_iff_ne, beq_eq_false_iff_ne, bne_eq_false_iff_eq, ne_eq, Bool.or_eq_true, Bool.or_eq_false_iff, Bool.and_eq_true, Bool.and_eq_false_imp, Bool.not_eq_true, Bool.not_eq_true', Bool.not_eq_false', Classical.not_not, Int.not_lt, Int.not_le, gt_iff_lt, ge_iff_le] at hc1
      have hx0 : ¬ x = [] := fun h => by subst h; simp [str] at hc1
      refine W.skip ?_
      refine WE.nxt ?_
      refine W.seq ?_
      refine W.seq ?_
      refine W.region _ ?_
      refine WG.run tab_ok 1 rfl ?_
      refine WG.nil ?_
      refine WE.nxt ?_
      refine W.block ?_
      refine W.loopK (β := Nat) (fun i => i ≤ x.length ∧ ∀ j, j < i → 32 ≤ byteAt x j ∧ byteAt x j ≤ 126) (fun i => [(6, true, .int .i64 (i : Int))]) [0, 1] [_, _] [] _ rfl (fun i => []) (fun i => x.length - i) (0) (⟨Nat.zero_le _, fun j hj => by omega⟩) ⟨rfl, rfl, rfl, rfl⟩ (by (repeat (first | exact List.Sublist.refl _ | exact List.nil_sublist _ | apply List.Sublist.cons_cons | apply List.Sublist.cons)); done) ?_
      intro i hst
      dsimp only [zipE, setAll, List.cons_append, List.nil_append, List.set_cons_zero, List.set_cons_succ] at hst ⊢
      obtain ⟨hi, hok⟩ := hst
      refine W.seq ?_
      refine W.seq ?_
      refine W.region _ ?_
      refine WG.run tab_ok 4 rfl ?_
      refine WG.nil ?_
      refine WE.nxt ?_
      refine W.condD rfl (fun hc2 => ?_) (fun hc2 => ?_)
      · try dsimp only at hc2
        have hil : i < x.length := by omega
        have hbt : byteAt x ((i : Int)).toNat = byteAt x i := rfl
        have hbr := byteAt_range x i
        refine W.skip ?_
        refine WE.nxt ?_
        refine W.seq ?_
        refine W.block ?_
        refine W.seq ?_
        refine W.region _ ?_
        refine WG.run tab_ok 2 rfl ?_
        refine WG.y rfl rfl (by decide) (Yl.sidx tab_ok rfl rfl rfl rfl rfl (fun _ => rfl) (by intro _; constructor <;> (try dsimp only) <;> omega)) ?_
        refine WG.run tab_ok 2 rfl ?_
        refine WG.y rfl rfl (by decide) (pureV_ok tab_ok rfl (by first | exact fun _ => rfl | exact fun h => h | (intro h; simp_all))) ?_
        refine WG.y rfl rfl (by decide) (pureV_ok tab_ok rfl (by first | exact fun _ => rfl | exact fun h => h | (intro h; simp_all))) ?_
        refine WG.y rfl rfl (by decide) (Yl.sidx tab_ok rfl rfl rfl rfl rfl (by first | exact fun _ => rfl | exact fun h => h | (intro h; simp_all)) (by intro hg; (try simp only [decide_eq_true_eq, decide_eq_false_iff_not, beq_iff_eq, bne_iff_ne, beq_eq_false_iff_ne, bne_eq_false_iff_eq, ne_eq, Bool.or_eq_true, Bool.or_eq_false_iff, Bool.and_eq_true, Bool.and_eq_false_imp, Bool.not_eq_true, Bool.not_eq_true', Bool.not_eq_false', Classical.not_not, Int.not_lt, Int.not_le, gt_iff_lt, ge_iff_le] at hg); constructor <;> (try dsimp only) <;> omega)) ?_
        refine WG.y rfl rfl (by decide) (pureV_ok tab_ok rfl (by first | exact fun _ => rfl | exact fun h => h | (intro h; simp_all))) ?_
        refine WG.y rfl rfl (by decide) (Yl.por rfl rfl rfl (fun _ => rfl) (by intro h1 h2; simp_all <;> omega)) ?_
        refine WG.nil ?_
        refine WE.nxt ?_
        refine W.cond rfl (fun hc3 => ?_) (fun hc3 => ?_)
        · try simp only [decide_eq_true_eq, decide_eq_false_iff_not, beq_iff_eq, bne_iff_ne, beq_eq_false_iff_ne, bne_eq_false_iff_eq, ne_eq, Bool.or_eq_true, Bool.or_eq_false_iff, Bool.and_eq_true, Bool.and_eq_false_imp, Bool.not_eq_true, Bool.not_eq_true', Bool.not_eq_false', Classical.not_not, Int.not_lt, Int.not_le, gt_iff_lt, ge_iff_le] at hc3
          have hbad : badB x = true := badB_at hil (by omega)
          refine W.seq ?_
          refine W.region _ ?_
          refine WG.run tab_ok 2 rfl ?_
          refine WG.nil ?_
          refine WE.nxt ?_
          refine W.ret ?_
          refine WE.blk_ret ?_
          refine WE.then_ret ?_
          refine WE.then_ret ?_
          refine WE.blk_ret ?_
          refine WE.then_ret ?_
          refine WE.subE (E' := E) (by (repeat (first | exact List.Sublist.refl _ | exact List.nil_sublist _ | apply List.Sublist.cons_cons | apply List.Sublist.cons)); done) ?_
          refine WE.retF tab_ok [_, _] rfl ⟨rfl, rfl, trivial⟩ (RLe.refl _) ?_
          exact ⟨by unfold lineF; rw [if_neg hk, if_neg hx0, if_pos hbad]; rfl, rfl⟩
        · try simp only [decide_eq_true_eq, decide_eq_false_iff_not, beq_iff_eq, bne_iff_ne, beq_eq_false_iff_ne, bne_eq_false_iff_eq, ne_eq, Bool.or_eq_true, Bool.or_eq_false_iff, Bool.and_eq_true, Bool.and_eq_false_imp, Bool.not_eq_true, Bool.not_eq_true', Bool.not_eq_false', Classical.not_not, Int.not_lt, Int.not_le, gt_iff_lt, ge_iff_le] at hc3
          have hok1 : 32 ≤ byteAt x i ∧ byteAt x i ≤ 126 := by omega
          refine W.skip ?_
          refine WE.blk _ ?_
          refine WE.nxt ?_
          refine W.region _ ?_
          refine WG.run tab_ok 1 rfl ?_
          refine WG.y rfl rfl (by decide) (Yl.add rfl rfl rfl (fun _ => rfl) (by intro _; constructor <;> (try dsimp only) <;> omega)) ?_
          refine WG.run tab_ok 1 rfl ?_
          refine WG.nil ?_
          refine WE.again (i + 1) (⟨by omega, fun j hj => by
            by_cases e : j = i
            · subst e; exact hok1
            · exact hok j (by omega)⟩) (by (try dsimp only); omega) ⟨rfl, rfl, rfl, rfl⟩ (RLe.refl _) (by (repeat (first | exact List.Sublist.refl _ | exact List.nil_sublist _ | apply List.Sublist.cons_cons | apply List.Sublist.cons)); done)
      · try dsimp only at hc2
        obtain rfl : i = x.length := by omega
        have hgood : badB x = false := badB_none hok
        refine W.exit ?_
        refine WE.then_exit ?_
        refine WE.then_exit ?_
        refine WE.blk_exit ?_
        refine WE.nxt ?_
        refine W.seq ?_
        refine W.seq ?_
        refine W.region _ ?_
        refine WG.run tab_ok 3 rfl ?_
        refine WG.nil ?_
        refine WE.nxt ?_
        refine W.condD rfl (fun hc4 => ?_) (fun hc4 => ?_)
        · try dsimp only at hc4
          refine W.seq ?_
          refine W.region _ ?_
          refine WG.run tab_ok 2 rfl ?_
          refine WG.nil ?_
          refine WE.nxt ?_
          refine W.ret ?_
          refine WE.then_ret ?_
          refine WE.subE (E' := E) (by (repeat (first | exact List.Sublist.refl _ | exact List.nil_sublist _ | apply List.Sublist.cons_cons | apply List.Sublist.cons)); done) ?_
          refine WE.retF tab_ok [_, _] rfl ⟨rfl, rfl, trivial⟩ (RLe.refl _) ?_
          exact ⟨by unfold lineF; rw [if_neg hk, if_neg hx0, if_neg (by rw [hgood]; decide), if_pos (by omega)]; rfl, rfl⟩
        · try dsimp only at hc4
          refine W.skip ?_
          refine WE.nxt ?_
          refine W.seq ?_
          refine W.region _ ?_
          refine WG.run tab_ok 1 rfl ?_
          refine WG.callV en66 rfl rfl (by decide) (CallOp.mk' rfl rfl rfl rfl) (fun _ => rfl) (fun hg => RDec_V u (by omega)) ?_
          refine WG.y rfl rfl (by decide) (Yl.catS rfl rfl rfl (fun _ => rfl) (by intro _; (simp only [List.length_append, List.length_cons, List.length_nil, hexF_len]; omega))) ?_
          refine WG.run tab_ok 2 rfl ?_
          refine WG.callV en66 rfl rfl (by decide) (CallOp.mk' rfl rfl rfl rfl) (fun _ => rfl) (fun hg => RDec_V x.length (by omega)) ?_
          refine WG.y rfl rfl (by decide) (Yl.catS rfl rfl rfl (fun _ => rfl) (by intro _; (simp only [List.length_append, List.length_cons, List.length_nil, hexF_len]; omega))) ?_
          refine WG.y rfl rfl (by decide) (Yl.catS rfl rfl rfl (fun _ => rfl) (by intro _; (simp only [List.length_append, List.length_cons, List.length_nil, hexF_len]; omega))) ?_
          refine WG.run tab_ok 1 rfl ?_
          refine WG.callV en25 rfl rfl (by decide) (CallOp.mk' rfl rfl rfl rfl) (fun _ => rfl) (fun hg => RSum_V (l := x) hxl) ?_
          refine WG.callV en67 rfl rfl (by decide) (CallOp.mk' rfl rfl rfl rfl) (fun _ => rfl) (fun hg => RHex_V (by omega)) ?_
          refine WG.y rfl rfl (by decide) (Yl.catS rfl rfl rfl (fun _ => rfl) (by intro _; (simp only [List.length_append, List.length_cons, List.length_nil, hexF_len]; omega))) ?_
          refine WG.y rfl rfl (by decide) (Yl.catS rfl rfl rfl (fun _ => rfl) (by intro _; (simp only [List.length_append, List.length_cons, List.length_nil, hexF_len]; omega))) ?_
          refine WG.run tab_ok 1 rfl ?_
          refine WG.y rfl rfl (by decide) (Yl.catS rfl rfl rfl (fun _ => rfl) (by intro _; (simp only [List.length_append, List.length_cons, List.length_nil, hexF_len]; omega))) ?_
          refine WG.y rfl rfl (by decide) (Yl.catS rfl rfl rfl (fun _ => rfl) (by intro _; (simp only [List.length_append, List.length_cons, List.length_nil, hexF_len]; omega))) ?_
          refine WG.run tab_ok 2 rfl ?_
          refine WG.nil ?_
          refine WE.nxt ?_
          refine W.ret ?_
          refine WE.subE (E' := E) (by (repeat (first | exact List.Sublist.refl _ | exact List.nil_sublist _ | apply List.Sublist.cons_cons | apply List.Sublist.cons)); done) ?_
          refine WE.retF tab_ok [_, _] rfl ⟨rfl, rfl, trivial⟩ (RLe.refl _) ?_
          exact ⟨by unfold lineF; rw [if_neg hk, if_neg hx0, if_neg (by rw [hgood]; decide), if_neg (by omega)]; rfl, rfl⟩

end Go.Proofs.YtjacpnojnoompaaDoor

/- The contracts of the library that the walks take, laid at this translation. No condition. -/
namespace Go.Proofs.YtjacpnojnoompaaDoor
open Go.Shelf
def sd_lays145_ren : Go.Shelf.Ren := ⟨fun | 145 => 57 | 220 => 77 | 219 => 83 | 217 => 94 | 225 => 95 | 224 => 96 | 267 => 97 | 266 => 108 | 314 => 109 | n => n, fun | 9 => 9 | 4 => 4 | 59 => 70 | 3 => 3 | 5 => 5 | 46 => 76 | 146 => 121 | 51 => 120 | n => n, fun | 1 => 0 | n => n⟩
theorem sd_lays145 : Go.Proofs.Lays.n145 Tryd.prog sd_lays145_ren := {
  mixed := by kernel_rfl
  f145 := Tryd.func57.trans (congrArg some (by kernel_rfl))
  f217 := Tryd.func94.trans (congrArg some (by kernel_rfl))
  f219 := Tryd.func83.trans (congrArg some (by kernel_rfl))
  f220 := Tryd.func77.trans (congrArg some (by kernel_rfl))
  f224 := Tryd.func96.trans (congrArg some (by kernel_rfl))
  f225 := Tryd.func95.trans (congrArg some (by kernel_rfl))
  f266 := Tryd.func108.trans (congrArg some (by kernel_rfl))
  f267 := Tryd.func97.trans (congrArg some (by kernel_rfl))
  f314 := Tryd.func109.trans (congrArg some (by kernel_rfl))
  t3 := Tryd.underlying3
  a3 := Tryd.isAgg3
  z3 := Tryd.sizeOf3
  v3 := Tryd.zeroValue3
  t4 := Tryd.underlying4
  a4 := Tryd.isAgg4
  z4 := Tryd.sizeOf4
  v4 := Tryd.zeroValue4
  t5 := Tryd.underlying5
  a5 := Tryd.isAgg5
  z5 := Tryd.sizeOf5
  v5 := Tryd.zeroValue5
  t9 := Tryd.underlying9
  a9 := Tryd.isAgg9
  z9 := Tryd.sizeOf9
  v9 := Tryd.zeroValue9
  t46 := Tryd.underlying76
  a46 := Tryd.isAgg76
  z46 := Tryd.sizeOf76
  v46 := Tryd.zeroValue76
  t51 := Tryd.underlying120
  a51 := Tryd.isAgg120
  z51 := Tryd.sizeOf120
  v51 := Tryd.zeroValue120
  t59 := Tryd.underlying70
  a59 := Tryd.isAgg70
  z59 := Tryd.sizeOf70
  v59 := Tryd.zeroValue70
  t146 := Tryd.underlying121
  a146 := Tryd.isAgg121
  z146 := Tryd.sizeOf121
  v146 := Tryd.zeroValue121
  g1 := by kernel_rfl }
open Go.RowKit Go.Lib in
theorem sd_strings_Cut (s sep : ByteArray) (m : Int) (w : World) (hs : s.size < 4294967281) (hm : w.cell? ⟨0, 0, none⟩ = some (.int .i64 m)) :
    Calls Tryd.prog 57 #[.string s, .string sep] w fun e w' => e = .returned (.tuple #[.string ⟨(Lib.cut s.data.toList sep.data.toList).1.toArray⟩, .string ⟨(Lib.cut s.data.toList sep.data.toList).2.1.toArray⟩, .bool (Lib.cut s.data.toList sep.data.toList).2.2]) ∧ ∃ n, w' = w.drewN n := Any.strings_Cut sd_lays145 s sep m w hs hm
def sd_lays147_ren : Go.Shelf.Ren := ⟨fun | 147 => 58 | 221 => 78 | 268 => 84 | 138 => 85 | 143 => 86 | 195 => 98 | 197 => 99 | 218 => 100 | 219 => 83 | 260 => 110 | 217 => 94 | 225 => 95 | 224 => 96 | 267 => 97 | 266 => 108 | 314 => 109 | n => n, fun | 9 => 9 | 3 => 3 | 31 => 25 | 4 => 4 | 0 => 0 | 105 => 107 | 21 => 21 | 5 => 5 | 46 => 76 | 119 => 132 | 139 => 135 | 138 => 134 | 146 => 121 | 51 => 120 | n => n, fun | 1 => 0 | 3 => 4 | 4 => 5 | n => n⟩
theorem sd_lays147 : Go.Proofs.Lays.n147 Tryd.prog sd_lays147_ren := {
  mixed := by kernel_rfl
  f138 := Tryd.func85.trans (congrArg some (by kernel_rfl))
  f143 := Tryd.func86.trans (congrArg some (by kernel_rfl))
  f147 := Tryd.func58.trans (congrArg some (by kernel_rfl))
  f195 := Tryd.func98.trans (congrArg some (by kernel_rfl))
  f197 := Tryd.func99.trans (congrArg some (by kernel_rfl))
  f217 := Tryd.func94.trans (congrArg some (by kernel_rfl))
  f218 := Tryd.func100.trans (congrArg some (by kernel_rfl))
  f219 := Tryd.func83.trans (congrArg some (by kernel_rfl))
  f221 := Tryd.func78.trans (congrArg some (by kernel_rfl))
  f224 := Tryd.func96.trans (congrArg some (by kernel_rfl))
  f225 := Tryd.func95.trans (congrArg some (by kernel_rfl))
  f260 := Tryd.func110.trans (congrArg some (by kernel_rfl))
  f266 := Tryd.func108.trans (congrArg some (by kernel_rfl))
  f267 := Tryd.func97.trans (congrArg some (by kernel_rfl))
  f268 := Tryd.func84.trans (congrArg some (by kernel_rfl))
  f314 := Tryd.func109.trans (congrArg some (by kernel_rfl))
  t0 := Tryd.underlying0
  a0 := Tryd.isAgg0
  z0 := Tryd.sizeOf0
  v0 := Tryd.zeroValue0
  t3 := Tryd.underlying3
  a3 := Tryd.isAgg3
  z3 := Tryd.sizeOf3
  v3 := Tryd.zeroValue3
  t4 := Tryd.underlying4
  a4 := Tryd.isAgg4
  z4 := Tryd.sizeOf4
  v4 := Tryd.zeroValue4
  t5 := Tryd.underlying5
  a5 := Tryd.isAgg5
  z5 := Tryd.sizeOf5
  v5 := Tryd.zeroValue5
  t9 := Tryd.underlying9
  a9 := Tryd.isAgg9
  z9 := Tryd.sizeOf9
  v9 := Tryd.zeroValue9
  t21 := Tryd.underlying21
  a21 := Tryd.isAgg21
  z21 := Tryd.sizeOf21
  v21 := Tryd.zeroValue21
  t31 := Tryd.underlying25
  a31 := Tryd.isAgg25
  z31 := Tryd.sizeOf25
  v31 := Tryd.zeroValue25
  t46 := Tryd.underlying76
  a46 := Tryd.isAgg76
  z46 := Tryd.sizeOf76
  v46 := Tryd.zeroValue76
  t51 := Tryd.underlying120
  a51 := Tryd.isAgg120
  z51 := Tryd.sizeOf120
  v51 := Tryd.zeroValue120
  t105 := Tryd.underlying107
  a105 := Tryd.isAgg107
  z105 := Tryd.sizeOf107
  v105 := Tryd.zeroValue107
  t119 := Tryd.underlying132
  a119 := Tryd.isAgg132
  z119 := Tryd.sizeOf132
  t138 := Tryd.underlying134
  a138 := Tryd.isAgg134
  z138 := Tryd.sizeOf134
  v138 := Tryd.zeroValue134
  t139 := Tryd.underlying135
  a139 := Tryd.isAgg135
  z139 := Tryd.sizeOf135
  v139 := Tryd.zeroValue135
  t146 := Tryd.underlying121
  a146 := Tryd.isAgg121
  z146 := Tryd.sizeOf121
  v146 := Tryd.zeroValue121
  g1 := by kernel_rfl
  g3 := by kernel_rfl
  g4 := by kernel_rfl }
open Go.RowKit Go.Lib in
theorem sd_strings_SplitN (s sep : ByteArray) (n : Nat) (m : Int) (w : World) (hs : s.size < 4294967281) (hm : w.cell? ⟨0, 0, none⟩ = some (.int .i64 m)) (h1 : 1 ≤ sep.size) (hn : 1 ≤ n) (hn63 : n ≤ 9223372036854775807) :
    Calls Tryd.prog 58 #[.string s, .string sep, .int .i64 n] w fun e w' =>
      e = .returned (.slice (some ⟨w.heap.size, 0, none⟩) (Lib.splitB sep 0 (min n (s.size + 1) - 1) s).length (min n (s.size + 1))) ∧ w' = w.alloc (.cells (Lib.cellsOf (Lib.splitB sep 0 (min n (s.size + 1) - 1) s) (min n (s.size + 1))) 9) := Any.strings_SplitN sd_lays147 (by kernel_rfl) s sep n m w hs hm h1 hn hn63
end Go.Proofs.YtjacpnojnoompaaDoor

/- The journal: lines. No condition. -/
set_option linter.unusedSimpArgs false
set_option linter.unusedVariables false
namespace Go.Proofs.YtjacpnojnoompaaDoor
open Go Go.RowKit Go.Proofs.YtjacpnojnoompaaDoor.K Go.Proofs.YtjacpnojnoompaaDoor.M

set_option maxHeartbeats 1000000 in
theorem JLine_V {R : Ro} {k : Int} {x : List UInt8} (hkr : InR k) (hxl : x.length ≤ 1000000) : FnV Tryd.prog 29 [.int .i64 k, .string (str x)] R (.tuple #[.string (str (lineF k x).1), .int .i64 (lineF k x).2]) := by
  refine FnV.ofOwn (fun w0 hR => ?_)
  have hsz := str_size x
  have hsr := sumF_range x
  refine Fn.enter (n := 61) Tryd.func29 rfl rfl (Nat.le_of_ble_eq_true rfl) rfl ?_
  refine W.seq ?_
  refine W.region _ ?_
  refine WG.run tab_ok 2 rfl ?_
  refine WG.nil ?_
  refine WE.nxt ?_
  refine W.seq ?_
  refine W.seq ?_
  refine W.region _ ?_
  refine WG.run tab_ok 3 rfl ?_
  refine WG.y rfl rfl (by decide) (pureV_ok tab_ok rfl (by first | exact fun _ => rfl | exact fun h => h | (intro h; simp_all))) ?_
  refine WG.y rfl rfl (by decide) (pureV_ok tab_ok rfl (by first | exact fun _ => rfl | exact fun h => h | (intro h; simp_all))) ?_
  refine WG.y rfl rfl (by decide) (Yl.por rfl rfl rfl (fun _ => rfl) (by intro h1 h2; simp_all <;> omega)) ?_
  refine WG.nil ?_
  refine WE.nxt ?_
  refine W.cond rfl (fun hc0 => ?_) (fun hc0 => ?_)
  · try simp only [decide_eq_true_eq, decide_eq_false_iff_not, beq_iff_eq, bne_iff_ne, beq_eq_false_iff_ne, bne_eq_false_iff_eq, ne_eq, Bool.or_eq_true, Bool.or_eq_false_iff, Bool.and_eq_true, Bool.and_eq_false_imp, Bool.not_eq_true, Bool.not_eq_true', Bool.not_eq_false', Classical.not_not, Int.not_lt, Int.not_le, gt_iff_lt, ge_iff_le] at hc0
    have hk : k < 1 ∨ 60 < k := by omega
    refine W.seq ?_
    refine W.region _ ?_
    refine WG.run tab_ok 2 rfl ?_
    refine WG.nil ?_
    refine WE.nxt ?_
    refine W.ret ?_
    refine WE.then_ret ?_
    refine WE.retF tab_ok [_, _] rfl ⟨rfl, rfl, trivial⟩ (RLe.refl _) ?_
    exact by unfold lineF; rw [if_pos hk]; rfl
  · try simp only [decide_eq_true_eq, decide_eq_false_iff_not, beq_iff_eq, bne_iff_ne, beq_eq_false_iff_ne, bne_eq_false_iff_eq, ne_eq, Bool.or_eq_true, Bool.or_eq_false_iff, Bool.and_eq_true, Bool.and_eq_false_imp, Bool.not_eq_true, Bool.not_eq_true', Bool.not_eq_false', Classical.not_not, Int.not_lt, Int.not_le, gt_iff_lt, ge_iff_le] at hc0
    obtain ⟨u, rfl⟩ := Int.eq_ofNat_of_zero_le (show 0 ≤ k by omega)
    have hk : ¬ ((u : Int) < 1 ∨ 60 < (u : Int)) := by omega
    have hdu := decDigits_le u
    have hdx := decDigits_le x.length
    refine W.skip ?_
    refine WE.nxt ?_
    refine W.seq ?_
    refine W.seq ?_
    refine W.region _ ?_
    refine WG.run tab_ok 1 rfl ?_
    refine WG.y rfl rfl (by decide) (Yl.eqS rfl rfl rfl (fun _ => rfl)) ?_
    refine WG.nil ?_
    refine WE.nxt ?_
    refine W.cond rfl (fun hc1 => ?_) (fun hc1 => ?_)
    · try simp only [decide_eq_true_eq, decide_eq_false_iff_not, beq_iff_eq, bne_iff_ne, beq_eq_false_iff_ne, bne_eq_false_iff_eq, ne_eq, Bool.or_eq_true, Bool.or_eq_false_iff, Bool.and_eq_true, Bool.and_eq_false_imp, Bool.not_eq_true, Bool.not_eq_true', Bool.not_eq_false', Classical.not_not, Int.not_lt, Int.not_le, gt_iff_lt, ge_iff_le] at hc1
      have hx0 : x = [] := str_inj (by simpa [str] using hc1)
      refine W.seq ?_
      refine W.region _ ?_
      refine WG.run tab_ok 2 rfl ?_
      refine WG.nil ?_
      refine WE.nxt ?_
      refine W.ret ?_
      refine WE.then_ret ?_
      refine WE.retF tab_ok [_, _] rfl ⟨rfl, rfl, trivial⟩ (RLe.refl _) ?_
      exact by unfold lineF; rw [if_neg hk, if_pos hx0]; rfl
    · try simp only [decide_eq_true_eq, decide_eq_false_iff_not, beq_iff_eq, bne_iff_ne, beq_eq_false_iff_ne, bne_eq_false_iff_eq, ne_eq, Bool.or_eq_true, Bool.or_eq_false_iff, Bool.and_eq_true, Bool.and_eq_false_imp, Bool.not_eq_true, Bool.not_eq_true', Bool.not_eq_false', Classical.not_not, Int.not_lt, Int.not_le, gt_iff_lt, ge_iff_le] at hc1
      have hx0 : ¬ x = [] := fun h => by subst h; simp [str] at hc1
      refine W.skip ?_
      refine WE.nxt ?_
      refine W.seq ?_
      refine W.seq ?_
      refine W.region _ ?_
      refine WG.run tab_ok 1 rfl ?_
      refine WG.nil ?_
      refine WE.nxt ?_
      refine W.block ?_
      refine W.loopK (β := Nat) (fun i => i ≤ x.length ∧ ∀ j, j < i → 32 ≤ byteAt x j ∧ byteAt x j ≤ 126) (fun i => [(6, true, .int .i64 (i : Int))]) [0, 1] [_, _] [] _ rfl (fun i => []) (fun i => x.length - i) (0) (⟨Nat.zero_le _, fun j hj => by omega⟩) ⟨rfl, rfl, rfl, rfl⟩ (by (repeat (first | exact List.Sublist.refl _ | exact List.nil_sublist _ | apply List.Sublist.cons_cons | apply List.Sublist.cons)); done) ?_
      intro i hst
      dsimp only [zipE, setAll, List.cons_append, List.nil_append, List.set_cons_zero, List.set_cons_succ] at hst ⊢
      obtain ⟨hi, hok⟩ := hst
      refine W.seq ?_
      refine W.seq ?_
      refine W.region _ ?_
      refine WG.run tab_ok 4 rfl ?_
      refine WG.nil ?_
      refine WE.nxt ?_
      refine W.condD rfl (fun hc2 => ?_) (fun hc2 => ?_)
      · try dsimp only at hc2
        have hil : i < x.length := by omega
        have hbt : byteAt x ((i : Int)).toNat = byteAt x i := rfl
        have hbr := byteAt_range x i
        refine W.skip ?_
        refine WE.nxt ?_
        refine W.seq ?_
        refine W.block ?_
        refine W.seq ?_
        refine W.region _ ?_
        refine WG.run tab_ok 2 rfl ?_
        refine WG.y rfl rfl (by decide) (Yl.sidx tab_ok rfl rfl rfl rfl rfl (fun _ => rfl) (by intro _; constructor <;> (try dsimp only) <;> omega)) ?_
        refine WG.run tab_ok 2 rfl ?_
        refine WG.y rfl rfl (by decide) (pureV_ok tab_ok rfl (by first | exact fun _ => rfl | exact fun h => h | (intro h; simp_all))) ?_
        refine WG.y rfl rfl (by decide) (pureV_ok tab_ok rfl (by first | exact fun _ => rfl | exact fun h => h | (intro h; simp_all))) ?_
        refine WG.y rfl rfl (by decide) (Yl.sidx tab_ok rfl rfl rfl rfl rfl (by first | exact fun _ => rfl | exact fun h => h | (intro h; simp_all)) (by intro hg; (try simp only [decide_eq_true_eq, decide_eq_false_iff_not, beq_iff_eq, bne_iff_ne, beq_eq_false_iff_ne, bne_eq_false_iff_eq, ne_eq, Bool.or_eq_true, Bool.or_eq_false_iff, Bool.and_eq_true, Bool.and_eq_false_imp, Bool.not_eq_true, Bool.not_eq_true', Bool.not_eq_false', Classical.not_not, Int.not_lt, Int.not_le, gt_iff_lt, ge_iff_le] at hg); constructor <;> (try dsimp only) <;> omega)) ?_
        refine WG.y rfl rfl (by decide) (pureV_ok tab_ok rfl (by first | exact fun _ => rfl | exact fun h => h | (intro h; simp_all))) ?_
        refine WG.y rfl rfl (by decide) (Yl.por rfl rfl rfl (fun _ => rfl) (by intro h1 h2; simp_all <;> omega)) ?_
        refine WG.nil ?_
        refine WE.nxt ?_
        refine W.cond rfl (fun hc3 => ?_) (fun hc3 => ?_)
        · try simp only [decide_eq_true_eq, decide_eq_false_iff_not, beq_iff_eq, bne_iff_ne, beq_eq_false_iff_ne, bne_eq_false_iff_eq, ne_eq, Bool.or_eq_true, Bool.or_eq_false_iff, Bool.and_eq_true, Bool.and_eq_false_imp, Bool.not_eq_true, Bool.not_eq_true', Bool.not_eq_false', Classical.not_not, Int.not_lt, Int.not_le, gt_iff_lt, ge_iff_le] at hc3
          have hbad : badB x = true := badB_at hil (by omega)
          refine W.seq ?_
          refine W.region _ ?_
          refine WG.run tab_ok 2 rfl ?_
          refine WG.nil ?_
          refine WE.nxt ?_
          refine W.ret ?_
          refine WE.blk_ret ?_
          refine WE.then_ret ?_
          refine WE.then_ret ?_
          refine WE.blk_ret ?_
          refine WE.then_ret ?_
          refine WE.retF tab_ok [_, _] rfl ⟨rfl, rfl, trivial⟩ (RLe.refl _) ?_
          exact by unfold lineF; rw [if_neg hk, if_neg hx0, if_pos hbad]; rfl
        · try simp only [decide_eq_true_eq, decide_eq_false_iff_not, beq_iff_eq, bne_iff_ne, beq_eq_false_iff_ne, bne_eq_false_iff_eq, ne_eq, Bool.or_eq_true, Bool.or_eq_false_iff, Bool.and_eq_true, Bool.and_eq_false_imp, Bool.not_eq_true, Bool.not_eq_true', Bool.not_eq_false', Classical.not_not, Int.not_lt, Int.not_le, gt_iff_lt, ge_iff_le] at hc3
          have hok1 : 32 ≤ byteAt x i ∧ byteAt x i ≤ 126 := by omega
          refine W.skip ?_
          refine WE.blk _ ?_
          refine WE.nxt ?_
          refine W.region _ ?_
          refine WG.run tab_ok 1 rfl ?_
          refine WG.y rfl rfl (by decide) (Yl.add rfl rfl rfl (fun _ => rfl) (by intro _; constructor <;> (try dsimp only) <;> omega)) ?_
          refine WG.run tab_ok 1 rfl ?_
          refine WG.nil ?_
          refine WE.again (i + 1) (⟨by omega, fun j hj => by
            by_cases e : j = i
            · subst e; exact hok1
            · exact hok j (by omega)⟩) (by (try dsimp only); omega) ⟨rfl, rfl, rfl, rfl⟩ (RLe.refl _) (by (repeat (first | exact List.Sublist.refl _ | exact List.nil_sublist _ | apply List.Sublist.cons_cons | apply List.Sublist.cons)); done)
      · try dsimp only at hc2
        obtain rfl : i = x.length := by omega
        have hgood : badB x = false := badB_none hok
        refine W.exit ?_
        refine WE.then_exit ?_
        refine WE.then_exit ?_
        refine WE.blk_exit ?_
        refine WE.nxt ?_
        refine W.seq ?_
        refine W.seq ?_
        refine W.region _ ?_
        refine WG.run tab_ok 3 rfl ?_
        refine WG.nil ?_
        refine WE.nxt ?_
        refine W.condD rfl (fun hc4 => ?_) (fun hc4 => ?_)
        · try dsimp only at hc4
          refine W.seq ?_
          refine W.region _ ?_
          refine WG.run tab_ok 2 rfl ?_
          refine WG.nil ?_
          refine WE.nxt ?_
          refine W.ret ?_
          refine WE.then_ret ?_
          refine WE.retF tab_ok [_, _] rfl ⟨rfl, rfl, trivial⟩ (RLe.refl _) ?_
          exact by unfold lineF; rw [if_neg hk, if_neg hx0, if_neg (by rw [hgood]; decide), if_pos (by omega)]; rfl
        · try dsimp only at hc4
          refine W.skip ?_
          refine WE.nxt ?_
          refine W.seq ?_
          refine W.region _ ?_
          refine WL.ef rfl rfl (by decide) (Ef.allocObj tab_ok rfl rfl (fun b7 => ?_))
          refine WL.nilE 5 1 (by decide) ?_
          refine WG.nil ?_
          refine WE.nxt ?_
          refine W.seq ?_
          refine W.region _ ?_
          refine WG.run tab_ok 1 rfl ?_
          refine WL.call en62 rfl rfl (by decide) (CallOp.mkT rfl rfl rfl rfl) (JDec_C w0 u (by omega) (b := b7) (l := ([] : List UInt8)) (.inl rfl) (by simp only [List.length_append, List.length_cons, List.length_nil]; omega)) ?_
          rintro _ _ _ - ⟨a0, k0, rfl, rfl, rfl⟩
          refine WG.nil ?_
          refine WE.nxt ?_
          refine W.seq ?_
          refine W.region _ ?_
          refine WL.call en63 rfl rfl (by decide) (CallOp.mkT rfl rfl rfl rfl) (WriteByte_C (l := ([] ++ Lib.decDigits u)) (b := b7) (.inr rfl) (by simp only [List.length_append, List.length_cons, List.length_nil, List.length_map, List.length_range]; omega) (32) w0) ?_
          rintro _ _ _ - ⟨a1, k1, rfl, rfl, rfl⟩
          refine WG.nil ?_
          refine WE.nxt ?_
          refine W.seq ?_
          refine W.region _ ?_
          refine WG.run tab_ok 2 rfl ?_
          refine WL.call en62 rfl rfl (by decide) (CallOp.mkT rfl rfl rfl rfl) (JDec_C w0 x.length (by omega) (b := b7) (l := ([] ++ Lib.decDigits u ++ [32])) (.inr rfl) (by simp only [List.length_append, List.length_cons, List.length_nil]; omega)) ?_
          rintro _ _ _ - ⟨a2, k2, rfl, rfl, rfl⟩
          refine WG.nil ?_
          refine WE.nxt ?_
          refine W.seq ?_
          refine W.region _ ?_
          refine WL.call en63 rfl rfl (by decide) (CallOp.mkT rfl rfl rfl rfl) (WriteByte_C (l := ([] ++ Lib.decDigits u ++ [32] ++ Lib.decDigits x.length)) (b := b7) (.inr rfl) (by simp only [List.length_append, List.length_cons, List.length_nil, List.length_map, List.length_range]; omega) (32) w0) ?_
          rintro _ _ _ - ⟨a3, k3, rfl, rfl, rfl⟩
          refine WG.nil ?_
          refine WE.nxt ?_
          refine W.seq ?_
          refine W.seq ?_
          refine W.region _ ?_
          refine WG.run tab_ok 1 rfl ?_
          refine WG.callV en24 rfl rfl (by decide) (CallOp.mk' rfl rfl rfl rfl) (fun _ => rfl) (fun hg => JSum_V (l := x) hxl) ?_
          refine WG.run tab_ok 2 rfl ?_
          refine WG.nil ?_
          refine WE.nxt ?_
          refine W.block ?_
          refine W.loopK (β := Nat × List UInt8 × Option Addr × Nat) (fun (j, m, aj, kj) => j ≤ 8 ∧ m = ([] ++ Lib.decDigits u ++ [32] ++ Lib.decDigits x.length ++ [32] ++ ((List.range j).map fun (i : Nat) => hexD (sumF x / 2 ^ ((28 : Int) - 4 * (i : Int)).toNat)))) (fun (j, m, aj, kj) => [(9, true, .int .i64 (28 - 4 * (j : Int)))]) [1, 7, 8] [_, _, _] [] _ rfl (fun (j, m, aj, kj) => [(0, .sl 5 1 aj kj (m.map encY)), (1, .obj b7 (.cells #[.pointer (some ⟨b7, 0, none⟩), .slice aj m.length kj] 79 (0, 0)))]) (fun (j, m, aj, kj) => 8 - j) ((0, ([] ++ Lib.decDigits u ++ [32] ++ Lib.decDigits x.length ++ [32]), a3, k3)) (⟨by show (0 : Nat) ≤ 8; decide, by simp⟩) ⟨rfl, rfl, rfl, rfl, rfl⟩ (by (repeat (first | exact List.Sublist.refl _ | exact List.nil_sublist _ | apply List.Sublist.cons_cons | apply List.Sublist.cons)); done) ?_
          intro zz hst
          obtain ⟨j, m, aj, kj⟩ := zz
          dsimp only [zipE, setAll, List.cons_append, List.nil_append, List.set_cons_zero, List.set_cons_succ] at hst ⊢
          obtain ⟨hj8, hm⟩ := hst
          refine W.seq ?_
          refine W.seq ?_
          refine W.region _ ?_
          refine WG.run tab_ok 2 rfl ?_
          refine WG.nil ?_
          refine WE.nxt ?_
          refine W.condD rfl (fun hc5 => ?_) (fun hc5 => ?_)
          · try dsimp only at hc5
            have hj7 : j ≤ 7 := by omega
            have hmlen : m.length ≤ 5000 := by rw [hm]; simp only [List.length_append, List.length_cons, List.length_nil, List.length_map, List.length_range]; omega
            refine W.skip ?_
            refine WE.nxt ?_
            refine W.seq ?_
            refine W.block ?_
            refine W.region _ ?_
            refine WG.run tab_ok 2 rfl ?_
            refine WG.y rfl rfl (by decide) (Yl.shrN rfl rfl rfl (fun _ => rfl) (by intro _; omega)) ?_
            refine WG.y rfl rfl (by decide) (Yl.and15 rfl rfl rfl (fun _ => rfl)) ?_
            refine WG.y rfl rfl (by decide) (Yl.sidx tab_ok rfl rfl rfl rfl rfl (fun _ => rfl) (by intro _; (simp only [List.length_cons, List.length_nil]; omega))) ?_
            refine WL.call en63 rfl rfl (by decide) (CallOp.mkT rfl rfl rfl rfl) (WriteByte_C (l := m) (b := b7) (.inr rfl) (by omega) (hexD (sumF x / 2 ^ ((28 : Int) - 4 * (j : Int)).toNat)) w0) ?_
            rintro _ _ _ - ⟨a5, k5, rfl, rfl, rfl⟩
            refine WG.nil ?_
            refine WE.blk _ ?_
            refine WE.nxt ?_
            refine W.region _ ?_
            refine WG.run tab_ok 1 rfl ?_
            refine WG.y rfl rfl (by decide) (Yl.sub rfl rfl rfl (fun _ => rfl) (by intro _; constructor <;> (try dsimp only) <;> omega)) ?_
            refine WG.run tab_ok 1 rfl ?_
            refine WG.nil ?_
            rw [show (28 : Int) - 4 * (j : Int) - 4 = 28 - 4 * ((j + 1 : Nat) : Int) by omega]
            refine WE.again ((j + 1, m ++ [hexD (sumF x / 2 ^ ((28 : Int) - 4 * (j : Int)).toNat)], a5, k5)) (⟨by dsimp only; omega, by dsimp only; rw [hm, List.range_succ, List.map_append, ← List.append_assoc]; rfl⟩) (by (try dsimp only); omega) ⟨rfl, rfl, rfl, rfl, rfl⟩ (RLe.refl _) (by (repeat (first | exact List.Sublist.refl _ | exact List.nil_sublist _ | apply List.Sublist.cons_cons | apply List.Sublist.cons)); done)
          · try dsimp only at hc5
            obtain rfl : j = 8 := by omega
            subst hm
            refine W.exit ?_
            refine WE.then_exit ?_
            refine WE.then_exit ?_
            refine WE.blk_exit ?_
            refine WE.nxt ?_
            have hhex : ((List.range 8).map fun (i : Nat) => hexD (sumF x / 2 ^ ((28 : Int) - 4 * (i : Int)).toNat)) = hexF (sumF x) 8 := by
              simp [List.range, List.range.loop, hexF]
            refine W.seq ?_
            refine W.region _ ?_
            refine WL.call en63 rfl rfl (by decide) (CallOp.mkT rfl rfl rfl rfl) (WriteByte_C (l := (Lib.decDigits u ++ [32] ++ Lib.decDigits x.length ++ [32] ++ ((List.range 8).map fun (i : Nat) => hexD (sumF x / 2 ^ ((28 : Int) - 4 * (i : Int)).toNat)))) (b := b7) (.inr rfl) (by simp only [List.length_append, List.length_cons, List.length_nil, List.length_map, List.length_range]; omega) (32) w0) ?_
            rintro _ _ _ - ⟨a6, k6, rfl, rfl, rfl⟩
            refine WG.nil ?_
            refine WE.nxt ?_
            refine W.seq ?_
            refine W.region _ ?_
            refine WG.run tab_ok 1 rfl ?_
            refine WL.call en64 rfl rfl (by decide) (CallOp.mkT rfl rfl rfl rfl) (WriteString_C (l := (Lib.decDigits u ++ [32] ++ Lib.decDigits x.length ++ [32] ++ ((List.range 8).map fun (i : Nat) => hexD (sumF x / 2 ^ ((28 : Int) - 4 * (i : Int)).toNat)) ++ [32])) (b := b7) (.inr rfl) (by simp only [List.length_append, List.length_cons, List.length_nil, List.length_map, List.length_range]; omega) x hxl w0) ?_
            rintro _ _ _ - ⟨a7, k7, rfl, rfl, rfl⟩
            refine WG.nil ?_
            refine WE.nxt ?_
            refine W.seq ?_
            refine W.region _ ?_
            refine WL.call en63 rfl rfl (by decide) (CallOp.mkT rfl rfl rfl rfl) (WriteByte_C (l := (Lib.decDigits u ++ [32] ++ Lib.decDigits x.length ++ [32] ++ ((List.range 8).map fun (i : Nat) => hexD (sumF x / 2 ^ ((28 : Int) - 4 * (i : Int)).toNat)) ++ [32] ++ x)) (b := b7) (.inr rfl) (by simp only [List.length_append, List.length_cons, List.length_nil, List.length_map, List.length_range]; omega) (10) w0) ?_
            rintro _ _ _ - ⟨a8, k8, rfl, rfl, rfl⟩
            refine WG.nil ?_
            refine WE.nxt ?_
            refine W.seq ?_
            refine W.region _ ?_
            refine WL.call en65 rfl rfl (by decide) (CallOp.mkT rfl rfl rfl rfl) (BString_C (l := (Lib.decDigits u ++ [32] ++ Lib.decDigits x.length ++ [32] ++ ((List.range 8).map fun (i : Nat) => hexD (sumF x / 2 ^ ((28 : Int) - 4 * (i : Int)).toNat)) ++ [32] ++ x ++ [10])) (b := b7) (.inr rfl) w0 hR) ?_
            rintro _ _ _ - ⟨rfl, rfl, rfl⟩
            refine WG.run tab_ok 2 rfl ?_
            refine WG.nil ?_
            refine WE.nxt ?_
            refine W.ret ?_
            refine WE.retF tab_ok [_, _] rfl ⟨rfl, rfl, trivial⟩ (RLe.refl _) ?_
            exact by unfold lineF; rw [if_neg hk, if_neg hx0, if_neg (by rw [hgood]; decide), if_neg (by omega), ← hhex]; rfl

end Go.Proofs.YtjacpnojnoompaaDoor

/- The journal: it is read. No condition. -/
set_option linter.unusedSimpArgs false
set_option linter.unusedVariables false
namespace Go.Proofs.YtjacpnojnoompaaDoor
open Go Go.RowKit Go.Proofs.YtjacpnojnoompaaDoor.K Go.Proofs.YtjacpnojnoompaaDoor.M

structure GlobJ (R : Ro) : Prop where
  m : ∃ (m : Int) (rest : List Value), R 0 = some (.int .i64 m :: rest)
def encT (l : List UInt8) : List Value := [.string (str l)]
theorem encT_flat : ∀ ys : List (List UInt8), (ys.map encT).flatten = ys.map fun l => Value.string (str l)
  | [] => rfl
  | c :: ys => by simp [encT, encT_flat ys]
theorem JCut_V {R : Ro} (hG : GlobJ R) {s : List UInt8} (hs : s.length ≤ 4000000000) : FnV Tryd.prog 57 [.string (str s), .string ⟨#[10]⟩] R (.tuple #[.string (str (Lib.cut s [10]).1), .string (str (Lib.cut s [10]).2.1), .bool (Lib.cut s [10]).2.2]) := by
  obtain ⟨m, rest, hm0⟩ := hG.m
  refine FnV.of (fun w0 E w hm => ?_)
  have h := sd_strings_Cut (str s) ⟨#[10]⟩ m w (by rw [str_size]; omega) (hm.cell hm0)
  have e1 : (str s).data.toList = s := by simp [str]
  rw [e1] at h
  refine h.mono ?_
  rintro e w' ⟨rfl, n, rfl⟩
  exact ⟨rfl, below_drewN w n⟩
theorem SplitN_C {R : Ro} (hG : GlobJ R) {s : List UInt8} (hs : s.length ≤ 1000000) (w0 : World) {E : List Ent} : K.Fn Tryd.prog 58 [.string (str s), .string ⟨#[32]⟩, .int .i64 4] w0 R E (fun v R' E' => ∃ (a : Option Addr) (cp : Nat), v = .slice a (Lib.splitN s [32] 4).length cp ∧ R = R' ∧ E' = .sl 9 1 a cp ((Lib.splitN s [32] 4).map encT) :: E) := by
  obtain ⟨m, rest, hm0⟩ := hG.m
  intro w hm
  have h := sd_strings_SplitN (str s) ⟨#[32]⟩ 4 m w (by rw [str_size]; omega) (hm.cell hm0) (by decide) (by decide) (by decide)
  have e1 : (str s).data.toList = s := by simp [str]
  have e2 : Lib.splitB ⟨#[32]⟩ 0 (min 4 ((str s).size + 1) - 1) (str s) = (Lib.splitN s [32] 4).map str := by
    have h1 := Lib.splitB_data ⟨#[32]⟩ 0 (min 4 ((str s).size + 1) - 1) (str s)
    rw [e1, str_size] at h1
    have h2 : Lib.splitN s [32] 4 = (Lib.splitB ⟨#[32]⟩ 0 (min 4 (s.length + 1) - 1) (str s)).map (·.data.toList) := by rw [h1]; rfl
    rw [h2, List.map_map, str_size]
    have h3 : (str ∘ fun x : ByteArray => x.data.toList) = id := by funext x; exact (str_of x).symm
    rw [h3, List.map_id]
  have hle := Lib.splitB_length_le ⟨#[32]⟩ 0 (min 4 ((str s).size + 1) - 1) (str s)
  rw [e2, List.length_map] at h hle
  have hN : (Lib.splitN s [32] 4).length ≤ min 4 ((str s).size + 1) := by omega
  refine h.mono ?_
  rintro e w' ⟨rfl, rfl⟩
  refine ⟨_, R, _, rfl, RLe.refl _, hm.new (World.grownBy_alloc w _ none) (ok_sl (cur := Lib.cellsOf ((Lib.splitN s [32] 4).map str) (min 4 ((str s).size + 1))) (fun r hr => by obtain ⟨c, _, rfl⟩ := List.mem_map.1 hr; rfl) (by decide) hm.below.size (heap_alloc_new w _) (by rw [List.length_map]; exact hN) (by have : min 4 ((str s).size + 1) ≤ 4 := Nat.min_le_left _ _; exact Nat.le_trans this (by decide)) (by rw [Lib.cellsOf_size (by rw [List.length_map]; exact hN)]; omega) ?_) (fun b hb => by simp [Ent.block] at hb; omega), _, _, rfl, rfl, rfl⟩
  rw [encT_flat]
  unfold Lib.cellsOf
  rw [List.toList_toArray, List.map_map]
  exact List.take_left' (by simp)

set_option maxHeartbeats 1000000 in
theorem JRead_C {R : Ro} (hG : GlobJ R) {j : List UInt8} (hj : j.length ≤ 1000000) (w0 : World) {E : List Ent} : K.Fn Tryd.prog 16 [.string (str j)] w0 R E (fun v R' E' => ∃ (a : Option Addr) (cp : Nat), v = .tuple #[.slice a (readJ j).1.length cp, .int .i64 ((readJ j).2 : Int)] ∧ R = R' ∧ E' = .sl 9 1 a cp ((readJ j).1.map encT) :: E) := by
  have hsz := str_size j
  refine Fn.enter (n := 65) Tryd.func16 rfl rfl (Nat.le_of_ble_eq_true rfl) rfl ?_
  refine W.seq ?_
  refine W.region _ ?_
  refine WG.run tab_ok 2 rfl ?_
  refine WG.nil ?_
  refine WE.nxt ?_
  refine W.seq ?_
  refine W.seq ?_
  refine W.region _ ?_
  refine WG.run tab_ok 1 rfl ?_
  refine WL.nilE 9 1 (by decide) ?_
  refine WG.run tab_ok 2 rfl ?_
  refine WG.nil ?_
  refine WE.nxt ?_
  refine W.condD rfl (fun hc0 => ?_) (fun hc0 => ?_)
  · try dsimp only at hc0
    have hbig : 8000 < j.length := by omega
    refine W.seq ?_
    refine W.region _ ?_
    refine WG.run tab_ok 2 rfl ?_
    refine WG.nil ?_
    refine WE.nxt ?_
    refine W.ret ?_
    refine WE.then_ret ?_
    refine WE.subE (E' := (.sl 9 1 none 0 (([] : List (List UInt8)).map encT) :: E)) (by (repeat (first | exact List.Sublist.refl _ | exact List.nil_sublist _ | apply List.Sublist.cons_cons | apply List.Sublist.cons)); done) ?_
    refine WE.retF tab_ok [_, _] rfl ⟨rfl, rfl, trivial⟩ (RLe.refl _) ?_
    exact ⟨none, 0, by unfold readJ; rw [if_pos hbig]; rfl, rfl, by unfold readJ; rw [if_pos hbig]⟩
  · try dsimp only at hc0
    have hjl : ¬ 8000 < j.length := by omega
    refine W.skip ?_
    refine WE.nxt ?_
    refine W.seq ?_
    refine W.region _ ?_
    refine WG.run tab_ok 2 rfl ?_
    refine WG.nil ?_
    refine WE.nxt ?_
    refine W.block ?_
    refine W.loopK (β := Nat × List (List UInt8) × Nat × Option Addr × Nat) (fun (g, xs, tk, a1, c1) => g + xs.length = 61 ∧ xs.length ≤ 60 ∧ tk ≤ j.length ∧ readGo g j xs tk = readGo 61 j [] 0) (fun (g, xs, tk, a1, c1) => [(2, true, .slice a1 xs.length c1), (3, true, .int .i64 (tk : Int)), (4, true, .string (str (j.drop tk)))]) [0] [_] [] _ rfl (fun (g, xs, tk, a1, c1) => [(0, .sl 9 1 a1 c1 (xs.map encT))]) (fun (g, xs, tk, a1, c1) => g) ((61, [], 0, none, 0)) (⟨rfl, by decide, Nat.zero_le _, rfl⟩) ⟨rfl, rfl, rfl, rfl, rfl⟩ (by (repeat (first | exact List.Sublist.refl _ | exact List.nil_sublist _ | apply List.Sublist.cons_cons | apply List.Sublist.cons)); done) ?_
    intro zz hst
    obtain ⟨g, xs, tk, a1, c1⟩ := zz
    dsimp only [zipE, setAll, List.cons_append, List.nil_append, List.set_cons_zero, List.set_cons_succ] at hst ⊢
    obtain ⟨hg61, hx60, htk, hgo⟩ := hst
    refine W.seq ?_
    refine W.block ?_
    refine W.seq ?_
    refine W.region _ ?_
    refine WG.run tab_ok 1 rfl ?_
    refine WG.callV en57 rfl rfl (by decide) (CallOp.mk' rfl rfl rfl rfl) (fun _ => rfl) (fun hg => JCut_V hG (s := j.drop tk) (by rw [List.length_drop]; omega)) ?_
    refine WG.run tab_ok 7 rfl ?_
    refine WG.nil ?_
    refine WE.nxt ?_
    refine W.seq ?_
    refine W.region _ ?_
    refine WG.run tab_ok 1 rfl ?_
    have hcl := cut_le (j.drop tk) [10]
    rw [List.length_drop] at hcl
    refine WL.call en58 rfl rfl (by decide) (CallOp.mkT rfl rfl rfl rfl) (SplitN_C hG (s := (Lib.cut (j.drop tk) [10]).1) (by omega) w0) ?_
    rintro _ _ _ - ⟨a2, c2, rfl, rfl, rfl⟩
    refine WG.run tab_ok 1 rfl ?_
    refine WG.nil ?_
    refine WE.nxt ?_
    refine W.seq ?_
    refine W.seq ?_
    refine W.region _ ?_
    refine WG.run tab_ok 3 rfl ?_
    refine WG.y rfl rfl (by decide) (pureV_ok tab_ok rfl (by first | exact fun _ => rfl | exact fun h => h | (intro h; simp_all))) ?_
    refine WG.y rfl rfl (by decide) (pureV_ok tab_ok rfl (by first | exact fun _ => rfl | exact fun h => h | (intro h; simp_all))) ?_
    refine WG.y rfl rfl (by decide) (pureV_ok tab_ok rfl (by first | exact fun _ => rfl | exact fun h => h | (intro h; simp_all))) ?_
    refine WG.y rfl rfl (by decide) (Yl.por rfl rfl rfl (fun _ => rfl) (by intro h1 h2; simp_all <;> omega)) ?_
    refine WG.nil ?_
    refine WE.nxt ?_
    refine W.cond rfl (fun hc1 => ?_) (fun hc1 => ?_)
    · try simp only [decide_eq_true_eq, decide_eq_false_iff_not, beq_iff_eq, bne_iff_ne, beq_eq_false_iff_ne, bne_eq_false_iff_eq, ne_eq, Bool.or_eq_true, Bool.or_eq_false_iff, Bool.and_eq_true, Bool.and_eq_false_imp, Bool.not_eq_true, Bool.not_eq_true', Bool.not_eq_false', Classical.not_not, Int.not_lt, Int.not_le, gt_iff_lt, ge_iff_le] at hc1
      have hst0 : stepF ((xs.length : Int) + 1) (j.drop tk) = none := by
        unfold stepF
        rw [if_pos (by rcases hc1 with h | h; exact .inl h; exact .inr (by omega))]
      refine W.seq ?_
      refine W.region _ ?_
      refine WG.run tab_ok 4 rfl ?_
      refine WG.nil ?_
      refine WE.nxt ?_
      refine W.ret ?_
      refine WE.then_ret ?_
      refine WE.blk_ret ?_
      refine WE.then_ret ?_
      refine WE.then_ret ?_
      refine WE.blk_ret ?_
      refine WE.subE (E' := (.sl 9 1 a1 c1 (xs.map encT) :: E)) (by (repeat (first | exact List.Sublist.refl _ | exact List.nil_sublist _ | apply List.Sublist.cons_cons | apply List.Sublist.cons)); done) ?_
      refine WE.retF tab_ok [_, _] rfl ⟨rfl, rfl, trivial⟩ (RLe.refl _) ?_
      have hre : readJ j = (xs, tk) := by
        obtain ⟨g, rfl⟩ : ∃ g1, g = g1 + 1 := ⟨g - 1, by omega⟩
        unfold readGo at hgo
        rw [hst0] at hgo
        unfold readJ
        rw [if_neg hjl]
        exact hgo.symm
      exact ⟨a1, c1, by rw [hre]; rfl, rfl, by rw [hre]⟩
    · try simp only [decide_eq_true_eq, decide_eq_false_iff_not, beq_iff_eq, bne_iff_ne, beq_eq_false_iff_ne, bne_eq_false_iff_eq, ne_eq, Bool.or_eq_true, Bool.or_eq_false_iff, Bool.and_eq_true, Bool.and_eq_false_imp, Bool.not_eq_true, Bool.not_eq_true', Bool.not_eq_false', Classical.not_not, Int.not_lt, Int.not_le, gt_iff_lt, ge_iff_le] at hc1
      have hsA : ¬ ((Lib.cut (j.drop tk) [10]).2.2 = false ∨ (Lib.splitN (Lib.cut (j.drop tk) [10]).1 [32] 4).length < 4) := by
        rintro (h | h)
        · rw [hc1.1] at h; cases h
        · have := hc1.2; omega
      have h4 : 4 ≤ (Lib.splitN (Lib.cut (j.drop tk) [10]).1 [32] 4).length := by have := hc1.2; omega
      refine W.skip ?_
      refine WE.nxt ?_
      refine W.seq ?_
      refine W.region _ ?_
      refine WG.run tab_ok 2 rfl ?_
      refine WG.y rfl rfl (by decide) (Yl.add rfl rfl rfl (fun _ => rfl) (by intro _; constructor <;> (try dsimp only) <;> omega)) ?_
      refine WG.run tab_ok 1 rfl ?_
      refine WG.y rfl rfl (by decide) (Yl.indexN tab_ok rfl rfl rfl rfl rfl rfl (fun _ => rfl) (by intro _; (try dsimp only) <;> omega) (by intro _; first | exact fun _ _ _ _ => rfl | exact RS.has (by assumption) | exact fun _ _ _ _ => (by assumption) | exact HasMem.ownD 0 rfl | exact HasMem.ownD 1 rfl | exact HasMem.ownD 2 rfl)) ?_
      refine' WG.y rfl rfl (by decide) (Yl.load1 tab_ok rfl rfl rfl (fun _ => rfl) ?r1 rfl ?h1) ?_
      case r1 => (first | (apply RS.rdD; assumption; ((try dsimp only) <;> omega)) | exact Rd.slD 0 rfl (by (try dsimp only) <;> omega) | exact Rd.slD 1 rfl (by (try dsimp only) <;> omega) | exact Rd.slD 2 rfl (by (try dsimp only) <;> omega))
      case h1 => rfl
      refine WG.callV en29 rfl rfl (by decide) (CallOp.mk' rfl rfl rfl rfl) (fun _ => rfl) (fun hg => JLine_V (k := (xs.length : Int) + 1) (x := nth (Lib.splitN (Lib.cut (j.drop tk) [10]).1 [32] 4) 3) (by constructor <;> omega) (by have := splitN_le (nth_mem (xs := (Lib.splitN (Lib.cut (j.drop tk) [10]).1 [32] 4)) (k := 3) (by omega)); omega)) ?_
      refine WG.run tab_ok 5 rfl ?_
      refine WG.nil ?_
      refine WE.nxt ?_
      refine W.seq ?_
      refine W.seq ?_
      refine W.region _ ?_
      refine WG.run tab_ok 3 rfl ?_
      refine WG.y rfl rfl (by decide) (pureV_ok tab_ok rfl (by first | exact fun _ => rfl | exact fun h => h | (intro h; simp_all))) ?_
      refine WG.y rfl rfl (by decide) (pureV_ok tab_ok rfl (by first | exact fun _ => rfl | exact fun h => h | (intro h; simp_all))) ?_
      refine WG.y rfl rfl (by decide) (Yl.catS rfl rfl rfl (by first | exact fun _ => rfl | exact fun h => h | (intro h; simp_all)) (by intro hg; (try simp only [decide_eq_true_eq, decide_eq_false_iff_not, beq_iff_eq, bne_iff_ne, beq_eq_false_iff_ne, bne_eq_false_iff_eq, ne_eq, Bool.or_eq_true, Bool.or_eq_false_iff, Bool.and_eq_true, Bool.and_eq_false_imp, Bool.not_eq_true, Bool.not_eq_true', Bool.not_eq_false', Classical.not_not, Int.not_lt, Int.not_le, gt_iff_lt, ge_iff_le] at hg); (simp only [List.length_cons, List.length_nil]; omega))) ?_
      refine WG.y rfl rfl (by decide) (Yl.neS rfl rfl rfl (by first | exact fun _ => rfl | exact fun h => h | (intro h; simp_all))) ?_
      refine WG.y rfl rfl (by decide) (Yl.por rfl rfl rfl (fun _ => rfl) (by intro h1 h2; simp_all <;> omega)) ?_
      refine WG.nil ?_
      refine WE.nxt ?_
      refine W.cond rfl (fun hc2 => ?_) (fun hc2 => ?_)
      · try simp only [decide_eq_true_eq, decide_eq_false_iff_not, beq_iff_eq, bne_iff_ne, beq_eq_false_iff_ne, bne_eq_false_iff_eq, ne_eq, Bool.or_eq_true, Bool.or_eq_false_iff, Bool.and_eq_true, Bool.and_eq_false_imp, Bool.not_eq_true, Bool.not_eq_true', Bool.not_eq_false', Classical.not_not, Int.not_lt, Int.not_le, gt_iff_lt, ge_iff_le] at hc2
        have hst0 : stepF ((xs.length : Int) + 1) (j.drop tk) = none := by
          unfold stepF
          rw [if_neg hsA, if_pos (by rcases hc2 with h | h; exact .inl h; exact .inr (fun e => h (by rw [e])))]
        refine W.seq ?_
        refine W.region _ ?_
        refine WG.run tab_ok 4 rfl ?_
        refine WG.nil ?_
        refine WE.nxt ?_
        refine W.ret ?_
        refine WE.then_ret ?_
        refine WE.blk_ret ?_
        refine WE.then_ret ?_
        refine WE.then_ret ?_
        refine WE.blk_ret ?_
        refine WE.subE (E' := (.sl 9 1 a1 c1 (xs.map encT) :: E)) (by (repeat (first | exact List.Sublist.refl _ | exact List.nil_sublist _ | apply List.Sublist.cons_cons | apply List.Sublist.cons)); done) ?_
        refine WE.retF tab_ok [_, _] rfl ⟨rfl, rfl, trivial⟩ (RLe.refl _) ?_
        have hre : readJ j = (xs, tk) := by
          obtain ⟨g, rfl⟩ : ∃ g1, g = g1 + 1 := ⟨g - 1, by omega⟩
          unfold readGo at hgo
          rw [hst0] at hgo
          unfold readJ
          rw [if_neg hjl]
          exact hgo.symm
        exact ⟨a1, c1, by rw [hre]; rfl, rfl, by rw [hre]⟩
      · try simp only [decide_eq_true_eq, decide_eq_false_iff_not, beq_iff_eq, bne_iff_ne, beq_eq_false_iff_ne, bne_eq_false_iff_eq, ne_eq, Bool.or_eq_true, Bool.or_eq_false_iff, Bool.and_eq_true, Bool.and_eq_false_imp, Bool.not_eq_true, Bool.not_eq_true', Bool.not_eq_false', Classical.not_not, Int.not_lt, Int.not_le, gt_iff_lt, ge_iff_le] at hc2
        have hst1 : stepF ((xs.length : Int) + 1) (j.drop tk) = some ((nth (Lib.splitN (Lib.cut (j.drop tk) [10]).1 [32] 4) 3), (lineF ((xs.length : Int) + 1) (nth (Lib.splitN (Lib.cut (j.drop tk) [10]).1 [32] 4) 3)).1.length) := by
          unfold stepF
          rw [if_neg hsA, if_neg (by rintro (h | h); exact h hc2.1; exact h (str_inj hc2.2))]
        have hsl := stepF_le hst1
        rw [List.length_drop] at hsl
        have hls := str_size (lineF ((xs.length : Int) + 1) (nth (Lib.splitN (Lib.cut (j.drop tk) [10]).1 [32] 4) 3)).1
        dsimp only at hsl
        refine W.skip ?_
        refine WE.nxt ?_
        refine W.region _ ?_
        refine WG.run tab_ok 2 rfl ?_
        refine WG.y rfl rfl (by decide) (Yl.indexN tab_ok rfl rfl rfl rfl rfl rfl (fun _ => rfl) (by intro _; (try dsimp only) <;> omega) (by intro _; first | exact fun _ _ _ _ => rfl | exact RS.has (by assumption) | exact fun _ _ _ _ => (by assumption) | exact HasMem.ownD 0 rfl | exact HasMem.ownD 1 rfl | exact HasMem.ownD 2 rfl)) ?_
        refine' WG.y rfl rfl (by decide) (Yl.load1 tab_ok rfl rfl rfl (fun _ => rfl) ?r2 rfl ?h2) ?_
        case r2 => (first | (apply RS.rdD; assumption; ((try dsimp only) <;> omega)) | exact Rd.slD 0 rfl (by (try dsimp only) <;> omega) | exact Rd.slD 1 rfl (by (try dsimp only) <;> omega) | exact Rd.slD 2 rfl (by (try dsimp only) <;> omega))
        case h2 => rfl
        refine WL.ef rfl rfl (by decide) (Ef.buildSliceD (enc := encT) (parts := [.tmp 58]) [_] tab_ok rfl rfl rfl rfl rfl rfl rfl rfl (by decide) (by decide) (fun a59 => ?_))
        first | refine WL.ef rfl rfl (by decide) (Ef.appendD 1 0 tab_ok rfl rfl rfl rfl rfl rfl rfl rfl rfl rfl rfl (fun _ _ => rfl) (by simp only [List.length_cons, List.length_nil]; omega) (by simp only [List.length_cons, List.length_nil]; omega) (fun a60 c60 ha60 => ?_)) | refine WL.ef rfl rfl (by decide) (Ef.appendD 2 0 tab_ok rfl rfl rfl rfl rfl rfl rfl rfl rfl rfl rfl (fun _ _ => rfl) (by simp only [List.length_cons, List.length_nil]; omega) (by simp only [List.length_cons, List.length_nil]; omega) (fun a60 c60 ha60 => ?_)) | refine WL.ef rfl rfl (by decide) (Ef.appendR 0 tab_ok rfl rfl rfl rfl rfl rfl rfl rfl rfl rfl (by assumption) (fun _ _ => rfl) (by (try dsimp only); omega) (by omega) (fun a60 c60 ha60 => ?_)) | refine WL.ef rfl rfl (by decide) (Ef.appendR 1 tab_ok rfl rfl rfl rfl rfl rfl rfl rfl rfl rfl (by assumption) (fun _ _ => rfl) (by (try dsimp only); omega) (by omega) (fun a60 c60 ha60 => ?_)) | refine WL.ef rfl rfl (by decide) (Ef.appendR 2 tab_ok rfl rfl rfl rfl rfl rfl rfl rfl rfl rfl (by assumption) (fun _ _ => rfl) (by (try dsimp only); omega) (by omega) (fun a60 c60 ha60 => ?_))
        refine WG.run tab_ok 3 rfl ?_
        refine WG.y rfl rfl (by decide) (Yl.add rfl rfl rfl (fun _ => rfl) (by intro _; constructor <;> (try dsimp only) <;> omega)) ?_
        refine WG.run tab_ok 2 rfl ?_
        refine WG.nil ?_
        refine WE.blk _ ?_
        refine WE.nxt ?_
        refine W.region _ ?_
        refine WG.run tab_ok 2 rfl ?_
        refine WG.y rfl rfl (by decide) (Yl.sliceSL tab_ok rfl rfl rfl rfl rfl (fun _ => rfl) (by intro _; omega)) ?_
        refine WG.run tab_ok 1 rfl ?_
        refine WG.nil ?_
        rw [hls, ← Int.natCast_add]
        refine WE.again ((g - 1, xs ++ [(nth (Lib.splitN (Lib.cut (j.drop tk) [10]).1 [32] 4) 3)], tk + (lineF ((xs.length : Int) + 1) (nth (Lib.splitN (Lib.cut (j.drop tk) [10]).1 [32] 4) 3)).1.length, a60, c60)) (⟨by dsimp only; simp only [List.length_append, List.length_cons, List.length_nil]; omega, by dsimp only; simp only [List.length_append, List.length_cons, List.length_nil]; omega, by dsimp only; omega, by obtain ⟨g, rfl⟩ : ∃ g1, g = g1 + 1 := ⟨g - 1, by omega⟩; unfold readGo at hgo; rw [hst1] at hgo; exact hgo⟩) (by (try dsimp only); omega) ⟨rfl, rfl, rfl, rfl, rfl⟩ (RLe.refl _) (by (repeat (first | exact List.Sublist.refl _ | exact List.nil_sublist _ | apply List.Sublist.cons_cons | apply List.Sublist.cons)); done)

end Go.Proofs.YtjacpnojnoompaaDoor

/- The journal: the reference reads a line. No condition. -/
set_option linter.unusedSimpArgs false
set_option linter.unusedVariables false
namespace Go.Proofs.YtjacpnojnoompaaDoor
open Go Go.RowKit Go.Proofs.YtjacpnojnoompaaDoor.K Go.Proofs.YtjacpnojnoompaaDoor.M

def firstF (k : Int) (s : List UInt8) : List UInt8 × Nat := match stepF k s with
  | none => ([], 0)
  | some y => y
theorem firstF_none {k : Int} {s : List UInt8} (h : stepF k s = none) : firstF k s = ([], 0) := by unfold firstF; rw [h]
theorem firstF_some {k : Int} {s : List UInt8} {y : List UInt8 × Nat} (h : stepF k s = some y) : firstF k s = y := by unfold firstF; rw [h]
theorem take_ten {s : List UInt8} {i : Nat} (hn : ∀ x ∈ s.take i, x ≠ 10) (hi : i < s.length) (h : ¬ byteAt s i = 10) : ∀ x ∈ s.take (i + 1), x ≠ 10 := by
  intro x hx
  rw [← List.take_append_getElem hi] at hx
  rcases List.mem_append.1 hx with hx | hx
  · exact hn x hx
  · rintro rfl
    refine h ?_
    unfold byteAt
    rw [List.getD_eq_getElem?_getD, List.getElem?_eq_getElem hi, Option.getD_some, ← List.mem_singleton.1 hx]
    rfl
theorem third_byte {s : List UInt8} {a f sp : Nat} (ha : a ≤ s.length) (t : Third (s.take a) f sp) (h : f < a) (h2 : sp < 3) : (byteAt s f = 32 → Third (s.take a) (f + 1) (sp + 1)) ∧ (¬ byteAt s f = 32 → Third (s.take a) (f + 1) sp) := by
  have hf : f < (s.take a).length := by rw [List.length_take]; omega
  have h3 := third_step t hf h2
  have e : (s.take a)[f] = s[f]'(by omega) := List.getElem_take
  rw [e] at h3
  have eb : byteAt s f = ((s[f]'(by omega)).toNat : Int) := by
    unfold byteAt
    rw [List.getD_eq_getElem?_getD, List.getElem?_eq_getElem (show f < s.length by omega), Option.getD_some]
  constructor
  · intro hb
    have : s[f]'(by omega) = 32 := by
      apply UInt8.toNat.inj
      have : ((32 : UInt8)).toNat = 32 := rfl
      omega
    rw [if_pos this] at h3
    exact h3
  · intro hb
    rw [if_neg (fun e => hb (by rw [eb, e]; rfl))] at h3
    exact h3

set_option maxHeartbeats 1000000 in
theorem RFirst_V {R : Ro} {k : Int} {s : List UInt8} (hkr : InR k) (hsl : s.length ≤ 1000000) : FnV Tryd.prog 61 [.string (str s), .int .i64 k] R (.tuple #[.string (str (firstF k s).1), .int .i64 ((firstF k s).2 : Int)]) := by
  refine Fn.toVS (fun w0 E => ?_)
  have hsz := str_size s
  refine Fn.enter (n := 67) Tryd.func61 rfl rfl (Nat.le_of_ble_eq_true rfl) rfl ?_
  refine W.seq ?_
  refine W.region _ ?_
  refine WG.run tab_ok 2 rfl ?_
  refine WG.nil ?_
  refine WE.nxt ?_
  refine W.seq ?_
  refine W.region _ ?_
  refine WG.run tab_ok 1 rfl ?_
  refine WG.nil ?_
  refine WE.nxt ?_
  refine W.seq ?_
  refine W.block ?_
  refine W.loopK (β := Nat) (fun i => i ≤ s.length ∧ ∀ x ∈ s.take i, x ≠ 10) (fun i => [(6, true, .int .i64 (i : Int))]) [0, 1] [_, _] [] _ rfl (fun i => []) (fun i => s.length - i) (0) (⟨Nat.zero_le _, by intro x hx; simp at hx⟩) ⟨rfl, rfl, rfl, rfl⟩ (by (repeat (first | exact List.Sublist.refl _ | exact List.nil_sublist _ | apply List.Sublist.cons_cons | apply List.Sublist.cons)); done) ?_
  intro i hst
  dsimp only [zipE, setAll, List.cons_append, List.nil_append, List.set_cons_zero, List.set_cons_succ] at hst ⊢
  obtain ⟨hi, hn⟩ := hst
  have hbr := byteAt_range s i
  refine W.seq ?_
  refine W.seq ?_
  refine W.region _ ?_
  refine WG.run tab_ok 5 rfl ?_
  refine WG.y rfl rfl (by decide) (pureV_ok tab_ok rfl (by first | exact fun _ => rfl | exact fun h => h | (intro h; simp_all))) ?_
  refine WG.y rfl rfl (by decide) (pureV_ok tab_ok rfl (by first | exact fun _ => rfl | exact fun h => h | (intro h; simp_all))) ?_
  refine WG.y rfl rfl (by decide) (Yl.sidx tab_ok rfl rfl rfl rfl rfl (by first | exact fun _ => rfl | exact fun h => h | (intro h; simp_all)) (by intro hg; (try simp only [decide_eq_true_eq, decide_eq_false_iff_not, beq_iff_eq, bne_iff_ne, beq_eq_false_iff_ne, bne_eq_false_iff_eq, ne_eq, Bool.or_eq_true, Bool.or_eq_false_iff, Bool.and_eq_true, Bool.and_eq_false_imp, Bool.not_eq_true, Bool.not_eq_true', Bool.not_eq_false', Classical.not_not, Int.not_lt, Int.not_le, gt_iff_lt, ge_iff_le] at hg); constructor <;> (try dsimp only) <;> omega)) ?_
  refine WG.y rfl rfl (by decide) (pureV_ok tab_ok rfl (by first | exact fun _ => rfl | exact fun h => h | (intro h; simp_all))) ?_
  refine WG.y rfl rfl (by decide) (Yl.pand rfl rfl rfl (fun _ => rfl) (by intro h1 h2; simp_all <;> omega)) ?_
  refine WG.nil ?_
  refine WE.nxt ?_
  refine W.cond rfl (fun hc0 => ?_) (fun hc0 => ?_)
  · try simp only [decide_eq_true_eq, decide_eq_false_iff_not, beq_iff_eq, bne_iff_ne, beq_eq_false_iff_ne, bne_eq_false_iff_eq, ne_eq, Bool.or_eq_true, Bool.or_eq_false_iff, Bool.and_eq_true, Bool.and_eq_false_imp, Bool.not_eq_true, Bool.not_eq_true', Bool.not_eq_false', Classical.not_not, Int.not_lt, Int.not_le, gt_iff_lt, ge_iff_le] at hc0
    have hil : i < s.length := by have := hc0.1; omega
    have hnb : ¬ byteAt s i = 10 := hc0.2
    refine W.skip ?_
    refine WE.nxt ?_
    refine W.block ?_
    refine W.region _ ?_
    refine WG.run tab_ok 1 rfl ?_
    refine WG.y rfl rfl (by decide) (Yl.add rfl rfl rfl (fun _ => rfl) (by intro _; constructor <;> (try dsimp only) <;> omega)) ?_
    refine WG.run tab_ok 1 rfl ?_
    refine WG.nil ?_
    refine WE.blk _ ?_
    refine WE.again (i + 1) (⟨by omega, take_ten hn hil hnb⟩) (by (try dsimp only); omega) ⟨rfl, rfl, rfl, rfl⟩ (RLe.refl _) (by (repeat (first | exact List.Sublist.refl _ | exact List.nil_sublist _ | apply List.Sublist.cons_cons | apply List.Sublist.cons)); done)
  · try simp only [decide_eq_true_eq, decide_eq_false_iff_not, beq_iff_eq, bne_iff_ne, beq_eq_false_iff_ne, bne_eq_false_iff_eq, ne_eq, Bool.or_eq_true, Bool.or_eq_false_iff, Bool.and_eq_true, Bool.and_eq_false_imp, Bool.not_eq_true, Bool.not_eq_true', Bool.not_eq_false', Classical.not_not, Int.not_lt, Int.not_le, gt_iff_lt, ge_iff_le] at hc0
    refine W.exit ?_
    refine WE.then_exit ?_
    refine WE.then_exit ?_
    refine WE.blk_exit ?_
    refine WE.nxt ?_
    refine W.seq ?_
    refine W.seq ?_
    refine W.region _ ?_
    refine WG.run tab_ok 4 rfl ?_
    refine WG.nil ?_
    refine WE.nxt ?_
    refine W.condE rfl (fun hc1 => ?_) (fun hc1 => ?_)
    · try dsimp only at hc1
      have hsn : stepF k s = none := stepF_no k (by
        obtain rfl : i = s.length := by omega
        rw [List.take_length] at hn
        exact hn)
      refine W.seq ?_
      refine W.region _ ?_
      refine WG.run tab_ok 2 rfl ?_
      refine WG.nil ?_
      refine WE.nxt ?_
      refine W.ret ?_
      refine WE.then_ret ?_
      refine WE.retF tab_ok [_, _] rfl ⟨rfl, rfl, trivial⟩ (RLe.refl _) ?_
      exact ⟨by rw [firstF_none hsn]; rfl, (by (repeat (first | exact List.Sublist.refl _ | exact List.nil_sublist _ | apply List.Sublist.cons_cons | apply List.Sublist.cons)); done)⟩
    · try dsimp only at hc1
      have hil : i < s.length := by omega
      have h10 : byteAt s i = 10 := hc0 (by omega)
      have hs1 : ((i : Int) + 1).toNat = i + 1 := by omega
      refine W.skip ?_
      refine WE.nxt ?_
      refine W.seq ?_
      refine W.region _ ?_
      refine WG.run tab_ok 2 rfl ?_
      refine WG.nil ?_
      refine WE.nxt ?_
      refine W.seq ?_
      refine W.block ?_
      refine W.loopK (β := Nat × Nat) (fun (f, sp) => f ≤ i ∧ Third (s.take i) f sp) (fun (f, sp) => [(7, true, .int .i64 (f : Int)), (8, true, .int .i64 (sp : Int))]) [0, 1, 6] [_, _, _] [] _ rfl (fun (f, sp) => []) (fun (f, sp) => i - f) ((0, 0)) (⟨Nat.zero_le _, third_zero _⟩) ⟨rfl, rfl, rfl, rfl, rfl, rfl⟩ (by (repeat (first | exact List.Sublist.refl _ | exact List.nil_sublist _ | apply List.Sublist.cons_cons | apply List.Sublist.cons)); done) ?_
      intro zz hst
      obtain ⟨f, sp⟩ := zz
      dsimp only [zipE, setAll, List.cons_append, List.nil_append, List.set_cons_zero, List.set_cons_succ] at hst ⊢
      obtain ⟨hf, ht⟩ := hst
      have ht3 := ht.h3
      have hbf := byteAt_range s f
      refine W.seq ?_
      refine W.seq ?_
      refine W.region _ ?_
      refine WG.run tab_ok 4 rfl ?_
      refine WG.y rfl rfl (by decide) (pureV_ok tab_ok rfl (by first | exact fun _ => rfl | exact fun h => h | (intro h; simp_all))) ?_
      refine WG.y rfl rfl (by decide) (pureV_ok tab_ok rfl (by first | exact fun _ => rfl | exact fun h => h | (intro h; simp_all))) ?_
      refine WG.y rfl rfl (by decide) (Yl.pand rfl rfl rfl (fun _ => rfl) (by intro h1 h2; simp_all <;> omega)) ?_
      refine WG.nil ?_
      refine WE.nxt ?_
      refine W.cond rfl (fun hc2 => ?_) (fun hc2 => ?_)
      · try simp only [decide_eq_true_eq, decide_eq_false_iff_not, beq_iff_eq, bne_iff_ne, beq_eq_false_iff_ne, bne_eq_false_iff_eq, ne_eq, Bool.or_eq_true, Bool.or_eq_false_iff, Bool.and_eq_true, Bool.and_eq_false_imp, Bool.not_eq_true, Bool.not_eq_true', Bool.not_eq_false', Classical.not_not, Int.not_lt, Int.not_le, gt_iff_lt, ge_iff_le] at hc2
        have hfi : f < i := by omega
        have hsp : sp < 3 := by omega
        have htb := third_byte hi ht hfi hsp
        refine W.skip ?_
        refine WE.nxt ?_
        refine W.block ?_
        refine W.seq ?_
        refine W.seq ?_
        refine W.region _ ?_
        refine WG.run tab_ok 2 rfl ?_
        refine WG.y rfl rfl (by decide) (Yl.sidx tab_ok rfl rfl rfl rfl rfl (fun _ => rfl) (by intro _; constructor <;> (try dsimp only) <;> omega)) ?_
        refine WG.run tab_ok 1 rfl ?_
        refine WG.nil ?_
        refine WE.nxt ?_
        refine W.condE rfl (fun hc3 => ?_) (fun hc3 => ?_)
        · try dsimp only at hc3
          refine W.region _ ?_
          refine WG.run tab_ok 1 rfl ?_
          refine WG.y rfl rfl (by decide) (Yl.add rfl rfl rfl (fun _ => rfl) (by intro _; constructor <;> (try dsimp only) <;> omega)) ?_
          refine WG.run tab_ok 1 rfl ?_
          refine WG.nil ?_
          refine WE.nxt ?_
          refine W.region _ ?_
          refine WG.run tab_ok 1 rfl ?_
          refine WG.y rfl rfl (by decide) (Yl.add rfl rfl rfl (fun _ => rfl) (by intro _; constructor <;> (try dsimp only) <;> omega)) ?_
          refine WG.run tab_ok 1 rfl ?_
          refine WG.nil ?_
          refine WE.blk _ ?_
          refine WE.again ((f + 1, sp + 1)) (⟨by dsimp only; omega, htb.1 hc3⟩) (by (try dsimp only); omega) ⟨rfl, rfl, rfl, rfl, rfl, rfl⟩ (RLe.refl _) (by (repeat (first | exact List.Sublist.refl _ | exact List.nil_sublist _ | apply List.Sublist.cons_cons | apply List.Sublist.cons)); done)
        · try dsimp only at hc3
          refine W.skip ?_
          refine WE.nxt ?_
          refine W.region _ ?_
          refine WG.run tab_ok 1 rfl ?_
          refine WG.y rfl rfl (by decide) (Yl.add rfl rfl rfl (fun _ => rfl) (by intro _; constructor <;> (try dsimp only) <;> omega)) ?_
          refine WG.run tab_ok 1 rfl ?_
          refine WG.nil ?_
          refine WE.blk _ ?_
          refine WE.again ((f + 1, sp)) (⟨by dsimp only; omega, htb.2 hc3⟩) (by (try dsimp only); omega) ⟨rfl, rfl, rfl, rfl, rfl, rfl⟩ (RLe.refl _) (by (repeat (first | exact List.Sublist.refl _ | exact List.nil_sublist _ | apply List.Sublist.cons_cons | apply List.Sublist.cons)); done)
      · try simp only [decide_eq_true_eq, decide_eq_false_iff_not, beq_iff_eq, bne_iff_ne, beq_eq_false_iff_ne, bne_eq_false_iff_eq, ne_eq, Bool.or_eq_true, Bool.or_eq_false_iff, Bool.and_eq_true, Bool.and_eq_false_imp, Bool.not_eq_true, Bool.not_eq_true', Bool.not_eq_false', Classical.not_not, Int.not_lt, Int.not_le, gt_iff_lt, ge_iff_le] at hc2
        have hex : ¬ (f < (s.take i).length ∧ sp < 3) := by
          rintro ⟨h1, h2⟩
          rw [List.length_take] at h1
          have := hc2 (by omega)
          omega
        refine W.exit ?_
        refine WE.then_exit ?_
        refine WE.then_exit ?_
        refine WE.blk_exit ?_
        refine WE.nxt ?_
        refine W.seq ?_
        refine W.region _ ?_
        refine WG.run tab_ok 4 rfl ?_
        refine WG.y rfl rfl (by decide) (Yl.sliceSLH tab_ok rfl rfl rfl rfl rfl rfl (fun _ => rfl) (by intro _; omega)) ?_
        refine WG.callV en30 rfl rfl (by decide) (CallOp.mk' rfl rfl rfl rfl) (fun _ => rfl) (fun hg => RLine_V (k := k) (x := (s.take i).drop f) hkr (by simp; omega)) ?_
        refine WG.run tab_ok 5 rfl ?_
        refine WG.nil ?_
        refine WE.nxt ?_
        refine W.seq ?_
        refine W.seq ?_
        refine W.region _ ?_
        refine WG.run tab_ok 3 rfl ?_
        refine WG.y rfl rfl (by decide) (pureV_ok tab_ok rfl (by first | exact fun _ => rfl | exact fun h => h | (intro h; simp_all))) ?_
        refine WG.y rfl rfl (by decide) (pureV_ok tab_ok rfl (by first | exact fun _ => rfl | exact fun h => h | (intro h; simp_all))) ?_
        refine WG.y rfl rfl (by decide) (pureV_ok tab_ok rfl (by first | exact fun _ => rfl | exact fun h => h | (intro h; simp_all))) ?_
        refine WG.y rfl rfl (by decide) (Yl.add rfl rfl rfl (by first | exact fun _ => rfl | exact fun h => h | (intro h; simp_all)) (by intro hg; (try simp only [decide_eq_true_eq, decide_eq_false_iff_not, beq_iff_eq, bne_iff_ne, beq_eq_false_iff_ne, bne_eq_false_iff_eq, ne_eq, Bool.or_eq_true, Bool.or_eq_false_iff, Bool.and_eq_true, Bool.and_eq_false_imp, Bool.not_eq_true, Bool.not_eq_true', Bool.not_eq_false', Classical.not_not, Int.not_lt, Int.not_le, gt_iff_lt, ge_iff_le] at hg); constructor <;> (try dsimp only) <;> omega)) ?_
        refine WG.y rfl rfl (by decide) (Yl.sliceSH tab_ok rfl rfl rfl rfl rfl (by first | exact fun _ => rfl | exact fun h => h | (intro h; simp_all)) (by intro hg; (try simp only [decide_eq_true_eq, decide_eq_false_iff_not, beq_iff_eq, bne_iff_ne, beq_eq_false_iff_ne, bne_eq_false_iff_eq, ne_eq, Bool.or_eq_true, Bool.or_eq_false_iff, Bool.and_eq_true, Bool.and_eq_false_imp, Bool.not_eq_true, Bool.not_eq_true', Bool.not_eq_false', Classical.not_not, Int.not_lt, Int.not_le, gt_iff_lt, ge_iff_le] at hg); omega)) ?_
        refine WG.y rfl rfl (by decide) (Yl.neS rfl rfl rfl (by first | exact fun _ => rfl | exact fun h => h | (intro h; simp_all))) ?_
        refine WG.y rfl rfl (by decide) (Yl.por rfl rfl rfl (fun _ => rfl) (by intro h1 h2; simp_all <;> omega)) ?_
        refine WG.nil ?_
        refine WE.nxt ?_
        refine W.cond rfl (fun hc4 => ?_) (fun hc4 => ?_)
        · try simp only [decide_eq_true_eq, decide_eq_false_iff_not, beq_iff_eq, bne_iff_ne, beq_eq_false_iff_ne, bne_eq_false_iff_eq, ne_eq, Bool.or_eq_true, Bool.or_eq_false_iff, Bool.and_eq_true, Bool.and_eq_false_imp, Bool.not_eq_true, Bool.not_eq_true', Bool.not_eq_false', Classical.not_not, Int.not_lt, Int.not_le, gt_iff_lt, ge_iff_le] at hc4
          rw [hs1] at hc4
          have hsn : stepF k s = none := first_no hil hn h10 ht hex (by rcases hc4 with h | h; exact .inl h; exact .inr (fun e => h (by rw [← e])))
          refine W.seq ?_
          refine W.region _ ?_
          refine WG.run tab_ok 2 rfl ?_
          refine WG.nil ?_
          refine WE.nxt ?_
          refine W.ret ?_
          refine WE.then_ret ?_
          refine WE.retF tab_ok [_, _] rfl ⟨rfl, rfl, trivial⟩ (RLe.refl _) ?_
          exact ⟨by rw [firstF_none hsn]; rfl, (by (repeat (first | exact List.Sublist.refl _ | exact List.nil_sublist _ | apply List.Sublist.cons_cons | apply List.Sublist.cons)); done)⟩
        · try simp only [decide_eq_true_eq, decide_eq_false_iff_not, beq_iff_eq, bne_iff_ne, beq_eq_false_iff_ne, bne_eq_false_iff_eq, ne_eq, Bool.or_eq_true, Bool.or_eq_false_iff, Bool.and_eq_true, Bool.and_eq_false_imp, Bool.not_eq_true, Bool.not_eq_true', Bool.not_eq_false', Classical.not_not, Int.not_lt, Int.not_le, gt_iff_lt, ge_iff_le] at hc4
          rw [hs1] at hc4
          have hsn : stepF k s = some ((s.take i).drop f, i + 1) := first_yes hil hc4.1 (str_inj hc4.2)
          refine W.skip ?_
          refine WE.nxt ?_
          refine W.seq ?_
          refine W.region _ ?_
          refine WG.run tab_ok 3 rfl ?_
          refine WG.y rfl rfl (by decide) (Yl.sliceSLH tab_ok rfl rfl rfl rfl rfl rfl (fun _ => rfl) (by intro _; omega)) ?_
          refine WG.run tab_ok 1 rfl ?_
          refine WG.y rfl rfl (by decide) (Yl.add rfl rfl rfl (fun _ => rfl) (by intro _; constructor <;> (try dsimp only) <;> omega)) ?_
          refine WG.run tab_ok 2 rfl ?_
          refine WG.nil ?_
          refine WE.nxt ?_
          refine W.ret ?_
          refine WE.retF tab_ok [_, _] rfl ⟨rfl, rfl, trivial⟩ (RLe.refl _) ?_
          exact ⟨by rw [firstF_some hsn]; rfl, (by (repeat (first | exact List.Sublist.refl _ | exact List.nil_sublist _ | apply List.Sublist.cons_cons | apply List.Sublist.cons)); done)⟩

end Go.Proofs.YtjacpnojnoompaaDoor

/- The journal: the reference reads. No condition. -/
set_option linter.unusedSimpArgs false
set_option linter.unusedVariables false
namespace Go.Proofs.YtjacpnojnoompaaDoor
open Go Go.RowKit Go.Proofs.YtjacpnojnoompaaDoor.K Go.Proofs.YtjacpnojnoompaaDoor.M

set_option maxHeartbeats 1000000 in
theorem RRead_C {R : Ro} {j : List UInt8} (hj : j.length ≤ 1000000) (w0 : World) {E : List Ent} : K.Fn Tryd.prog 21 [.string (str j)] w0 R E (fun v R' E' => ∃ (a : Option Addr) (cp : Nat), v = .tuple #[.slice a (readJ j).1.length cp, .int .i64 ((readJ j).2 : Int)] ∧ R = R' ∧ E' = .sl 9 1 a cp ((readJ j).1.map encT) :: E) := by
  have hsz := str_size j
  refine Fn.enter (n := 32) Tryd.func21 rfl rfl (Nat.le_of_ble_eq_true rfl) rfl ?_
  refine W.seq ?_
  refine W.region _ ?_
  refine WG.run tab_ok 2 rfl ?_
  refine WG.nil ?_
  refine WE.nxt ?_
  refine W.seq ?_
  refine W.seq ?_
  refine W.region _ ?_
  refine WG.run tab_ok 1 rfl ?_
  refine WL.nilE 9 1 (by decide) ?_
  refine WG.run tab_ok 2 rfl ?_
  refine WG.nil ?_
  refine WE.nxt ?_
  refine W.condD rfl (fun hc0 => ?_) (fun hc0 => ?_)
  · try dsimp only at hc0
    have hbig : 8000 < j.length := by omega
    refine W.seq ?_
    refine W.region _ ?_
    refine WG.run tab_ok 2 rfl ?_
    refine WG.nil ?_
    refine WE.nxt ?_
    refine W.ret ?_
    refine WE.then_ret ?_
    refine WE.subE (E' := (.sl 9 1 none 0 (([] : List (List UInt8)).map encT) :: E)) (by (repeat (first | exact List.Sublist.refl _ | exact List.nil_sublist _ | apply List.Sublist.cons_cons | apply List.Sublist.cons)); done) ?_
    refine WE.retF tab_ok [_, _] rfl ⟨rfl, rfl, trivial⟩ (RLe.refl _) ?_
    exact ⟨none, 0, by unfold readJ; rw [if_pos hbig]; rfl, rfl, by unfold readJ; rw [if_pos hbig]⟩
  · try dsimp only at hc0
    have hjl : ¬ 8000 < j.length := by omega
    refine W.skip ?_
    refine WE.nxt ?_
    refine W.seq ?_
    refine W.region _ ?_
    refine WG.run tab_ok 1 rfl ?_
    refine WG.nil ?_
    refine WE.nxt ?_
    refine W.seq ?_
    refine W.region _ ?_
    refine WG.run tab_ok 1 rfl ?_
    refine WG.nil ?_
    refine WE.nxt ?_
    refine W.block ?_
    refine W.loopK (β := Nat × List (List UInt8) × Nat × Option Addr × Nat) (fun (g, xs, tk, a1, c1) => g + xs.length = 61 ∧ xs.length ≤ 60 ∧ tk ≤ j.length ∧ readGo g j xs tk = readGo 61 j [] 0) (fun (g, xs, tk, a1, c1) => [(4, true, .slice a1 xs.length c1), (5, true, .int .i64 (tk : Int))]) [0] [_] [] _ rfl (fun (g, xs, tk, a1, c1) => [(0, .sl 9 1 a1 c1 (xs.map encT))]) (fun (g, xs, tk, a1, c1) => g) ((61, [], 0, none, 0)) (⟨rfl, by decide, Nat.zero_le _, rfl⟩) ⟨rfl, rfl, rfl, rfl⟩ (by (repeat (first | exact List.Sublist.refl _ | exact List.nil_sublist _ | apply List.Sublist.cons_cons | apply List.Sublist.cons)); done) ?_
    intro zz hst
    obtain ⟨g, xs, tk, a1, c1⟩ := zz
    dsimp only [zipE, setAll, List.cons_append, List.nil_append, List.set_cons_zero, List.set_cons_succ] at hst ⊢
    obtain ⟨hg61, hx60, htk, hgo⟩ := hst
    refine W.block ?_
    refine W.seq ?_
    refine W.region _ ?_
    refine WG.run tab_ok 2 rfl ?_
    refine WG.y rfl rfl (by decide) (Yl.sliceSL tab_ok rfl rfl rfl rfl rfl (fun _ => rfl) (by intro _; omega)) ?_
    refine WG.run tab_ok 2 rfl ?_
    refine WG.y rfl rfl (by decide) (Yl.add rfl rfl rfl (fun _ => rfl) (by intro _; constructor <;> (try dsimp only) <;> omega)) ?_
    refine WG.callV en61 rfl rfl (by decide) (CallOp.mk' rfl rfl rfl rfl) (fun _ => rfl) (fun hg => RFirst_V (k := (xs.length : Int) + 1) (s := j.drop tk) (by constructor <;> omega) (by rw [List.length_drop]; omega)) ?_
    refine WG.run tab_ok 5 rfl ?_
    refine WG.nil ?_
    refine WE.nxt ?_
    refine W.seq ?_
    refine W.seq ?_
    refine W.region _ ?_
    refine WG.run tab_ok 2 rfl ?_
    refine WG.nil ?_
    refine WE.nxt ?_
    refine W.condE rfl (fun hc1 => ?_) (fun hc1 => ?_)
    · try dsimp only at hc1
      have hst0 : stepF ((xs.length : Int) + 1) (j.drop tk) = none := by
        cases hs : stepF ((xs.length : Int) + 1) (j.drop tk) with
        | none => rfl
        | some y =>
          rw [firstF_some hs] at hc1
          have := stepF_le hs
          omega
      refine W.seq ?_
      refine W.region _ ?_
      refine WG.run tab_ok 4 rfl ?_
      refine WG.nil ?_
      refine WE.nxt ?_
      refine W.ret ?_
      refine WE.then_ret ?_
      refine WE.blk_ret ?_
      refine WE.then_ret ?_
      refine WE.blk_ret ?_
      refine WE.subE (E' := (.sl 9 1 a1 c1 (xs.map encT) :: E)) (by (repeat (first | exact List.Sublist.refl _ | exact List.nil_sublist _ | apply List.Sublist.cons_cons | apply List.Sublist.cons)); done) ?_
      refine WE.retF tab_ok [_, _] rfl ⟨rfl, rfl, trivial⟩ (RLe.refl _) ?_
      have hre : readJ j = (xs, tk) := by
        obtain ⟨g, rfl⟩ : ∃ g1, g = g1 + 1 := ⟨g - 1, by omega⟩
        unfold readGo at hgo
        rw [hst0] at hgo
        unfold readJ
        rw [if_neg hjl]
        exact hgo.symm
      exact ⟨a1, c1, by rw [hre]; rfl, rfl, by rw [hre]⟩
    · try dsimp only at hc1
      obtain ⟨y, hst1⟩ : ∃ y, stepF ((xs.length : Int) + 1) (j.drop tk) = some y := by
        cases hs : stepF ((xs.length : Int) + 1) (j.drop tk) with
        | none => rw [firstF_none hs] at hc1; exact absurd rfl hc1
        | some y => exact ⟨y, rfl⟩
      have hsl := stepF_le hst1
      rw [List.length_drop] at hsl
      rw [firstF_some hst1]
      refine W.skip ?_
      refine WE.nxt ?_
      refine W.seq ?_
      refine W.region _ ?_
      refine WG.run tab_ok 2 rfl ?_
      refine WL.ef rfl rfl (by decide) (Ef.buildSliceD (enc := encT) (parts := [.tmp 26]) [_] tab_ok rfl rfl rfl rfl rfl rfl rfl rfl (by decide) (by decide) (fun a27 => ?_))
      first | refine WL.ef rfl rfl (by decide) (Ef.appendD 1 0 tab_ok rfl rfl rfl rfl rfl rfl rfl rfl rfl rfl rfl (fun _ _ => rfl) (by simp only [List.length_cons, List.length_nil]; omega) (by simp only [List.length_cons, List.length_nil]; omega) (fun a28 c28 ha28 => ?_)) | refine WL.ef rfl rfl (by decide) (Ef.appendD 2 0 tab_ok rfl rfl rfl rfl rfl rfl rfl rfl rfl rfl rfl (fun _ _ => rfl) (by simp only [List.length_cons, List.length_nil]; omega) (by simp only [List.length_cons, List.length_nil]; omega) (fun a28 c28 ha28 => ?_)) | refine WL.ef rfl rfl (by decide) (Ef.appendR 0 tab_ok rfl rfl rfl rfl rfl rfl rfl rfl rfl rfl (by assumption) (fun _ _ => rfl) (by (try dsimp only); omega) (by omega) (fun a28 c28 ha28 => ?_)) | refine WL.ef rfl rfl (by decide) (Ef.appendR 1 tab_ok rfl rfl rfl rfl rfl rfl rfl rfl rfl rfl (by assumption) (fun _ _ => rfl) (by (try dsimp only); omega) (by omega) (fun a28 c28 ha28 => ?_)) | refine WL.ef rfl rfl (by decide) (Ef.appendR 2 tab_ok rfl rfl rfl rfl rfl rfl rfl rfl rfl rfl (by assumption) (fun _ _ => rfl) (by (try dsimp only); omega) (by omega) (fun a28 c28 ha28 => ?_))
      refine WG.run tab_ok 1 rfl ?_
      refine WG.nil ?_
      refine WE.nxt ?_
      refine W.region _ ?_
      refine WG.run tab_ok 2 rfl ?_
      refine WG.y rfl rfl (by decide) (Yl.add rfl rfl rfl (fun _ => rfl) (by intro _; constructor <;> (try dsimp only) <;> omega)) ?_
      refine WG.run tab_ok 1 rfl ?_
      refine WG.nil ?_
      refine WE.blk _ ?_
      rw [← Int.natCast_add]
      refine WE.again ((g - 1, xs ++ [y.1], tk + y.2, a28, c28)) (⟨by dsimp only; simp only [List.length_append, List.length_cons, List.length_nil]; omega, by dsimp only; simp only [List.length_append, List.length_cons, List.length_nil]; omega, by dsimp only; omega, by obtain ⟨g, rfl⟩ : ∃ g1, g = g1 + 1 := ⟨g - 1, by omega⟩; unfold readGo at hgo; rw [hst1] at hgo; exact hgo⟩) (by (try dsimp only); omega) ⟨rfl, rfl, rfl, rfl⟩ (RLe.refl _) (by (repeat (first | exact List.Sublist.refl _ | exact List.nil_sublist _ | apply List.Sublist.cons_cons | apply List.Sublist.cons)); done)

end Go.Proofs.YtjacpnojnoompaaDoor

/- The journal: the reference writes, both cut. No condition. -/
set_option linter.unusedSimpArgs false
set_option linter.unusedVariables false
namespace Go.Proofs.YtjacpnojnoompaaDoor
open Go Go.RowKit Go.Proofs.YtjacpnojnoompaaDoor.K Go.Proofs.YtjacpnojnoompaaDoor.M

theorem RAppend_V {R : Ro} {j t : List UInt8} (hj : j.length ≤ 1000000) (ht : t.length ≤ 1000000) : FnV Tryd.prog 28 [.string (str j), .string (str t)] R (.tuple #[.string (str (appendJ j t).1), .int .i64 (appendJ j t).2]) := by
  refine FnV.ofOwn (fun w0 hR => ?_)
  have hsz := str_size j
  have hls := str_size (lineF ((readJ j).1.length + 1) t).1
  have hlt : (List.take (((readJ j).2 : Int)).toNat j).length ≤ j.length := by rw [List.length_take]; omega
  have hrl := readJ_le j
  have hll := lineF_len (k := ((readJ j).1.length : Int) + 1) ht
  refine Fn.enter (n := 46) Tryd.func28 rfl rfl (Nat.le_of_ble_eq_true rfl) rfl ?_
  refine W.seq ?_
  refine W.region _ ?_
  refine WG.run tab_ok 2 rfl ?_
  refine WG.nil ?_
  refine WE.nxt ?_
  refine W.seq ?_
  refine W.seq ?_
  refine W.region _ ?_
  refine WG.run tab_ok 1 rfl ?_
  refine WG.callV en30 rfl rfl (by decide) (CallOp.mk' rfl rfl rfl rfl) (fun _ => rfl) (fun hg => RLine_V (k := 1) (x := t) (by constructor <;> decide) ht) ?_
  refine WG.run tab_ok 5 rfl ?_
  refine WG.nil ?_
  refine WE.nxt ?_
  refine W.seq ?_
  refine W.region _ ?_
  refine WG.run tab_ok 2 rfl ?_
  refine WG.nil ?_
  refine WE.nxt ?_
  refine W.condN rfl (fun hc0 => ?_) (fun hc0 => ?_)
  · try dsimp only at hc0
    have he : (lineF 1 t).2 ≠ 0 := by simpa using hc0
    refine W.seq ?_
    refine W.region _ ?_
    refine WG.run tab_ok 3 rfl ?_
    refine WG.nil ?_
    refine WE.nxt ?_
    refine W.ret ?_
    refine WE.then_ret ?_
    refine WE.retF tab_ok [_, _] rfl ⟨rfl, rfl, trivial⟩ (RLe.refl _) ?_
    exact by unfold appendJ; rw [if_pos he]; rfl
  · try dsimp only at hc0
    have he : ¬ (lineF 1 t).2 ≠ 0 := by simpa using hc0
    refine W.skip ?_
    refine WE.nxt ?_
    refine W.seq ?_
    refine W.region _ ?_
    refine WG.run tab_ok 1 rfl ?_
    refine WL.call en21 rfl rfl (by decide) (CallOp.mkT rfl rfl rfl rfl) (RRead_C hj w0) ?_
    rintro _ _ _ - ⟨a2, c2, rfl, rfl, rfl⟩
    refine WG.run tab_ok 5 rfl ?_
    refine WG.nil ?_
    refine WE.nxt ?_
    refine W.seq ?_
    refine W.seq ?_
    refine W.region _ ?_
    refine WG.run tab_ok 3 rfl ?_
    refine WG.nil ?_
    refine WE.nxt ?_
    refine W.condD rfl (fun hc1 => ?_) (fun hc1 => ?_)
    · try dsimp only at hc1
      have h61 : (lineF ((readJ j).1.length + 1) t).2 ≠ 0 := by
        intro h
        have := (lineF_ok h).1
        omega
      refine W.seq ?_
      refine W.region _ ?_
      refine WG.run tab_ok 2 rfl ?_
      refine WG.nil ?_
      refine WE.nxt ?_
      refine W.ret ?_
      refine WE.then_ret ?_
      refine WE.retF tab_ok [_, _] rfl ⟨rfl, rfl, trivial⟩ (RLe.refl _) ?_
      exact by unfold appendJ; rw [if_neg he, if_pos (.inl h61)]; rfl
    · try dsimp only at hc1
      have hgd : (lineF ((readJ j).1.length + 1) t).2 = 0 := lineF_any (k := 1) (by simpa using he) (by omega)
      refine W.skip ?_
      refine WE.nxt ?_
      refine W.seq ?_
      refine W.region _ ?_
      refine WG.run tab_ok 2 rfl ?_
      refine WG.y rfl rfl (by decide) (Yl.add rfl rfl rfl (fun _ => rfl) (by intro _; constructor <;> (try dsimp only) <;> omega)) ?_
      refine WG.run tab_ok 1 rfl ?_
      refine WG.callV en30 rfl rfl (by decide) (CallOp.mk' rfl rfl rfl rfl) (fun _ => rfl) (fun hg => RLine_V (k := ((readJ j).1.length : Int) + 1) (x := t) (by constructor <;> omega) ht) ?_
      refine WG.run tab_ok 5 rfl ?_
      refine WG.nil ?_
      refine WE.nxt ?_
      refine W.seq ?_
      refine W.seq ?_
      refine W.region _ ?_
      refine WG.run tab_ok 3 rfl ?_
      refine WG.y rfl rfl (by decide) (Yl.add rfl rfl rfl (fun _ => rfl) (by intro _; constructor <;> (try dsimp only) <;> omega)) ?_
      refine WG.run tab_ok 1 rfl ?_
      refine WG.nil ?_
      refine WE.nxt ?_
      refine W.condD rfl (fun hc2 => ?_) (fun hc2 => ?_)
      · try dsimp only at hc2
        refine W.seq ?_
        refine W.region _ ?_
        refine WG.run tab_ok 2 rfl ?_
        refine WG.nil ?_
        refine WE.nxt ?_
        refine W.ret ?_
        refine WE.then_ret ?_
        refine WE.retF tab_ok [_, _] rfl ⟨rfl, rfl, trivial⟩ (RLe.refl _) ?_
        exact by unfold appendJ; rw [if_neg he, if_pos (.inr (by omega))]; rfl
      · try dsimp only at hc2
        refine W.skip ?_
        refine WE.nxt ?_
        refine W.seq ?_
        refine W.region _ ?_
        refine WG.run tab_ok 2 rfl ?_
        refine WG.y rfl rfl (by decide) (Yl.sliceSH tab_ok rfl rfl rfl rfl rfl (fun _ => rfl) (by intro _; omega)) ?_
        refine WG.run tab_ok 1 rfl ?_
        refine WG.y rfl rfl (by decide) (Yl.catS rfl rfl rfl (fun _ => rfl) (by intro _; omega)) ?_
        refine WG.run tab_ok 2 rfl ?_
        refine WG.nil ?_
        refine WE.nxt ?_
        refine W.ret ?_
        refine WE.retF tab_ok [_, _] rfl ⟨rfl, rfl, trivial⟩ (RLe.refl _) ?_
        exact by unfold appendJ; rw [if_neg he, if_neg (by rintro (h | h); exact h hgd; omega)]; rfl

end Go.Proofs.YtjacpnojnoompaaDoor

/- A trial. No condition. -/
set_option linter.unusedSimpArgs false
set_option linter.unusedVariables false
namespace Go.Proofs.YtjacpnojnoompaaDoor
open Go Go.RowKit Go.Proofs.YtjacpnojnoompaaDoor.K Go.Proofs.YtjacpnojnoompaaDoor.M

theorem tmod_gt (x : Int) {n : Int} (h : 0 < n) : -n < x.tmod n := by
  rcases Int.le_total 0 x with h0 | h0
  · have := Int.tmod_nonneg n h0; omega
  · have h1 := Int.neg_tmod (a := x) (b := n)
    have h2 := Int.tmod_lt_of_pos (-x) h
    omega
theorem mod_pos {x n : Int} (h : 1 ≤ n) (hc : ¬ x.tmod n < 0) : x.tmod n = x % n := by
  rw [Int.tmod_eq_emod] at hc ⊢
  split at hc
  · rename_i h1; rw [if_pos h1]; omega
  · rename_i h1
    rw [if_neg h1]
    have := Int.emod_lt_of_pos x (show 0 < n by omega)
    have h2 : (n.natAbs : Int) = n := by omega
    omega
theorem mod_neg {x n : Int} (h : 1 ≤ n) (hc : x.tmod n < 0) : x.tmod n + n = x % n := by
  rw [Int.tmod_eq_emod] at hc ⊢
  split at hc
  · rename_i h1
    have := Int.emod_nonneg x (show n ≠ 0 by omega)
    omega
  · rename_i h1; rw [if_neg h1]
    have h2 : (n.natAbs : Int) = n := by omega
    omega
theorem src_end {b : Nat} {a : Option Addr} {cp : Nat} {xs : List Int} {c : Nat} (h : xs.length ≤ c) : srcE b a cp xs c = srcE b a cp xs (c + 1) := by
  unfold srcE
  rw [show min c xs.length = min (c + 1) xs.length by omega]
theorem src_next {b : Nat} {a : Option Addr} {cp : Nat} {xs : List Int} {c : Nat} (h : c < xs.length) : Ent.blk b [.slice a xs.length cp, .int .i64 (((min c xs.length : Nat) : Int) + 1)] = srcE b a cp xs (c + 1) := by
  unfold srcE
  rw [show ((min c xs.length : Nat) : Int) + 1 = ((min (c + 1) xs.length : Nat) : Int) by omega]

theorem Mod_V {R : Ro} {x n : Int} (hn : InR n) : FnV Tryd.prog 59 [.int .i64 x, .int .i64 n] R (.int .i64 (mod x n)) := by
  refine Fn.toV (fun w0 E => ?_)
  refine Fn.enter (n := 16) Tryd.func59 rfl rfl (Nat.le_of_ble_eq_true rfl) rfl ?_
  refine W.seq ?_
  refine W.region _ ?_
  refine WG.run tab_ok 1 rfl ?_
  refine WG.nil ?_
  refine WE.nxt ?_
  refine W.seq ?_
  refine W.seq ?_
  refine W.region _ ?_
  refine WG.run tab_ok 2 rfl ?_
  refine WG.nil ?_
  refine WE.nxt ?_
  refine W.condD rfl (fun hc0 => ?_) (fun hc0 => ?_)
  · try dsimp only at hc0
    refine W.seq ?_
    refine W.region _ ?_
    refine WG.run tab_ok 1 rfl ?_
    refine WG.nil ?_
    refine WE.nxt ?_
    refine W.ret ?_
    refine WE.then_ret ?_
    refine WE.retF tab_ok [_] rfl ⟨rfl, trivial⟩ (RLe.refl _) ?_
    exact ⟨by unfold mod; rw [if_pos hc0]; rfl, rfl⟩
  · try dsimp only at hc0
    refine W.skip ?_
    refine WE.nxt ?_
    refine W.seq ?_
    refine W.region _ ?_
    refine WG.run tab_ok 2 rfl ?_
    refine WG.y rfl rfl (by decide) (Yl.tmod rfl rfl rfl (fun _ => rfl) (by intro _; omega)) ?_
    refine WG.run tab_ok 1 rfl ?_
    refine WG.nil ?_
    refine WE.nxt ?_
    refine W.seq ?_
    refine W.seq ?_
    refine W.region _ ?_
    refine WG.run tab_ok 2 rfl ?_
    refine WG.nil ?_
    refine WE.nxt ?_
    refine W.condD rfl (fun hc1 => ?_) (fun hc1 => ?_)
    · try dsimp only at hc1
      refine W.region _ ?_
      refine WG.run tab_ok 2 rfl ?_
      refine WG.y rfl rfl (by decide) (Yl.add rfl rfl rfl (fun _ => rfl) (by intro _; have h9 := tmod_gt x (show (0 : Int) < n by omega); constructor <;> omega)) ?_
      refine WG.run tab_ok 1 rfl ?_
      refine WG.nil ?_
      refine WE.nxt ?_
      refine W.seq ?_
      refine W.region _ ?_
      refine WG.run tab_ok 2 rfl ?_
      refine WG.nil ?_
      refine WE.nxt ?_
      refine W.ret ?_
      refine WE.retF tab_ok [_] rfl ⟨rfl, trivial⟩ (RLe.refl _) ?_
      refine ⟨congrArg (Value.int .i64) ?_, rfl⟩
      unfold mod; rw [if_neg hc0]; exact mod_neg (by omega) hc1
    · try dsimp only at hc1
      refine W.skip ?_
      refine WE.nxt ?_
      refine W.seq ?_
      refine W.region _ ?_
      refine WG.run tab_ok 2 rfl ?_
      refine WG.nil ?_
      refine WE.nxt ?_
      refine W.ret ?_
      refine WE.retF tab_ok [_] rfl ⟨rfl, trivial⟩ (RLe.refl _) ?_
      refine ⟨congrArg (Value.int .i64) ?_, rfl⟩
      unfold mod; rw [if_neg hc0]; exact mod_pos (by omega) hc1

theorem Raw_C {R : Ro} {b : Nat} {a : Option Addr} {cp : Nat} {xs : List Int} {c : Nat} (w0 : World) (ha : RS R 1 encI a xs) : FnAt Tryd.prog 60 [.pointer (some ⟨b, 0, none⟩)] w0 R (srcE b a cp xs c) (RdPost (.int .i64 (nth xs c)) R (srcE b a cp xs (c + 1))) := by
  intro F
  have hla := ha.len
  refine Fn.enter (n := 31) Tryd.func60 rfl rfl (Nat.le_of_ble_eq_true rfl) rfl ?_
  refine W.seq ?_
  refine W.region _ ?_
  refine WG.run tab_ok 1 rfl ?_
  refine WG.nil ?_
  refine WE.nxt ?_
  refine W.seq ?_
  refine W.seq ?_
  refine W.regionQ _ mixed (by kernel_rfl) ?_
  refine WG.run tab_ok 3 rfl ?_
  refine' WG.y rfl rfl (by decide) (Yl.load1 tab_ok rfl rfl rfl (fun _ => rfl) ?r1 rfl ?h1) ?_
  case r1 => apply Rd.add; (first | exact Rd.blk 0 rfl | exact Rd.blk 1 rfl | exact Rd.blk 2 rfl | exact Rd.blk 3 rfl | exact Rd.blk 4 rfl | exact Rd.blk 5 rfl | exact Rd.blk 6 rfl | exact Rd.blk 7 rfl | (apply RS.rdD; assumption; ((try dsimp only) <;> omega)) | exact Rd.slD 0 rfl (by (try dsimp only) <;> omega) | exact Rd.slD 1 rfl (by (try dsimp only) <;> omega) | exact Rd.slD 2 rfl (by (try dsimp only) <;> omega) | exact Rd.slD 3 rfl (by (try dsimp only) <;> omega) | exact Rd.slD 4 rfl (by (try dsimp only) <;> omega) | exact Rd.slD 5 rfl (by (try dsimp only) <;> omega) | exact Rd.slD 6 rfl (by (try dsimp only) <;> omega) | exact Rd.slD 7 rfl (by (try dsimp only) <;> omega))
  case h1 => rfl
  refine WG.run tab_ok 3 rfl ?_
  refine' WG.y rfl rfl (by decide) (Yl.load1 tab_ok rfl rfl rfl (fun _ => rfl) ?r2 rfl ?h2) ?_
  case r2 => apply Rd.add; (first | exact Rd.blk 0 rfl | exact Rd.blk 1 rfl | exact Rd.blk 2 rfl | exact Rd.blk 3 rfl | exact Rd.blk 4 rfl | exact Rd.blk 5 rfl | exact Rd.blk 6 rfl | exact Rd.blk 7 rfl | (apply RS.rdD; assumption; ((try dsimp only) <;> omega)) | exact Rd.slD 0 rfl (by (try dsimp only) <;> omega) | exact Rd.slD 1 rfl (by (try dsimp only) <;> omega) | exact Rd.slD 2 rfl (by (try dsimp only) <;> omega) | exact Rd.slD 3 rfl (by (try dsimp only) <;> omega) | exact Rd.slD 4 rfl (by (try dsimp only) <;> omega) | exact Rd.slD 5 rfl (by (try dsimp only) <;> omega) | exact Rd.slD 6 rfl (by (try dsimp only) <;> omega) | exact Rd.slD 7 rfl (by (try dsimp only) <;> omega))
  case h2 => rfl
  refine WG.run tab_ok 2 rfl ?_
  refine WG.nil ?_
  refine WE.nxt ?_
  refine W.condD rfl (fun hc0 => ?_) (fun hc0 => ?_)
  · try dsimp only at hc0
    refine W.seq ?_
    refine W.region _ ?_
    refine WG.run tab_ok 1 rfl ?_
    refine WG.nil ?_
    refine WE.nxt ?_
    refine W.ret ?_
    refine WE.then_ret ?_
    refine WE.retF tab_ok [_] rfl ⟨rfl, trivial⟩ (RLe.refl _) ?_
    exact ⟨_, [], rfl, by rw [nth_out (by omega)]; rfl, rfl, src_end (by omega), rfl⟩
  · try dsimp only at hc0
    refine W.skip ?_
    refine WE.nxt ?_
    refine W.seq ?_
    refine W.region _ ?_
    refine WG.run tab_ok 3 rfl ?_
    refine' WG.y rfl rfl (by decide) (Yl.load1 tab_ok rfl rfl rfl (fun _ => rfl) ?r3 rfl ?h3) ?_
    case r3 => apply Rd.add; (first | exact Rd.blk 0 rfl | exact Rd.blk 1 rfl | exact Rd.blk 2 rfl | exact Rd.blk 3 rfl | exact Rd.blk 4 rfl | exact Rd.blk 5 rfl | exact Rd.blk 6 rfl | exact Rd.blk 7 rfl | (apply RS.rdD; assumption; ((try dsimp only) <;> omega)) | exact Rd.slD 0 rfl (by (try dsimp only) <;> omega) | exact Rd.slD 1 rfl (by (try dsimp only) <;> omega) | exact Rd.slD 2 rfl (by (try dsimp only) <;> omega) | exact Rd.slD 3 rfl (by (try dsimp only) <;> omega) | exact Rd.slD 4 rfl (by (try dsimp only) <;> omega) | exact Rd.slD 5 rfl (by (try dsimp only) <;> omega) | exact Rd.slD 6 rfl (by (try dsimp only) <;> omega) | exact Rd.slD 7 rfl (by (try dsimp only) <;> omega))
    case h3 => rfl
    refine WG.y rfl rfl (by decide) (Yl.add rfl rfl rfl (fun _ => rfl) (by intro _; constructor <;> (try dsimp only) <;> omega)) ?_
    refine WG.run tab_ok 2 rfl ?_
    first | refine WL.efN rfl rfl (Ef.store 0 tab_ok rfl rfl rfl rfl rfl rfl rfl rfl ?_) | refine WL.efN rfl rfl (Ef.store 1 tab_ok rfl rfl rfl rfl rfl rfl rfl rfl ?_) | refine WL.efN rfl rfl (Ef.store 2 tab_ok rfl rfl rfl rfl rfl rfl rfl rfl ?_) | refine WL.efN rfl rfl (Ef.store 3 tab_ok rfl rfl rfl rfl rfl rfl rfl rfl ?_) | refine WL.efN rfl rfl (Ef.store 4 tab_ok rfl rfl rfl rfl rfl rfl rfl rfl ?_) | refine WL.efN rfl rfl (Ef.store 5 tab_ok rfl rfl rfl rfl rfl rfl rfl rfl ?_) | refine WL.efN rfl rfl (Ef.store 6 tab_ok rfl rfl rfl rfl rfl rfl rfl rfl ?_) | refine WL.efN rfl rfl (Ef.store 7 tab_ok rfl rfl rfl rfl rfl rfl rfl rfl ?_)
    refine WG.nil ?_
    refine WE.nxt ?_
    refine W.seq ?_
    refine W.regionQ _ mixed (by kernel_rfl) ?_
    refine WG.run tab_ok 3 rfl ?_
    refine' WG.y rfl rfl (by decide) (Yl.load1 tab_ok rfl rfl rfl (fun _ => rfl) ?r4 rfl ?h4) ?_
    case r4 => apply Rd.add; (first | exact Rd.blk 0 rfl | exact Rd.blk 1 rfl | exact Rd.blk 2 rfl | exact Rd.blk 3 rfl | exact Rd.blk 4 rfl | exact Rd.blk 5 rfl | exact Rd.blk 6 rfl | exact Rd.blk 7 rfl | (apply RS.rdD; assumption; ((try dsimp only) <;> omega)) | exact Rd.slD 0 rfl (by (try dsimp only) <;> omega) | exact Rd.slD 1 rfl (by (try dsimp only) <;> omega) | exact Rd.slD 2 rfl (by (try dsimp only) <;> omega) | exact Rd.slD 3 rfl (by (try dsimp only) <;> omega) | exact Rd.slD 4 rfl (by (try dsimp only) <;> omega) | exact Rd.slD 5 rfl (by (try dsimp only) <;> omega) | exact Rd.slD 6 rfl (by (try dsimp only) <;> omega) | exact Rd.slD 7 rfl (by (try dsimp only) <;> omega))
    case h4 => rfl
    refine WG.run tab_ok 3 rfl ?_
    refine' WG.y rfl rfl (by decide) (Yl.load1 tab_ok rfl rfl rfl (fun _ => rfl) ?r5 rfl ?h5) ?_
    case r5 => apply Rd.add; (first | exact Rd.blk 0 rfl | exact Rd.blk 1 rfl | exact Rd.blk 2 rfl | exact Rd.blk 3 rfl | exact Rd.blk 4 rfl | exact Rd.blk 5 rfl | exact Rd.blk 6 rfl | exact Rd.blk 7 rfl | (apply RS.rdD; assumption; ((try dsimp only) <;> omega)) | exact Rd.slD 0 rfl (by (try dsimp only) <;> omega) | exact Rd.slD 1 rfl (by (try dsimp only) <;> omega) | exact Rd.slD 2 rfl (by (try dsimp only) <;> omega) | exact Rd.slD 3 rfl (by (try dsimp only) <;> omega) | exact Rd.slD 4 rfl (by (try dsimp only) <;> omega) | exact Rd.slD 5 rfl (by (try dsimp only) <;> omega) | exact Rd.slD 6 rfl (by (try dsimp only) <;> omega) | exact Rd.slD 7 rfl (by (try dsimp only) <;> omega))
    case h5 => rfl
    refine WG.y rfl rfl (by decide) (Yl.sub rfl rfl rfl (fun _ => rfl) (by intro _; constructor <;> (try dsimp only) <;> omega)) ?_
    refine WG.y rfl rfl (by decide) (Yl.index tab_ok rfl rfl rfl rfl rfl rfl (fun _ => rfl) (by intro _; constructor <;> (try dsimp only) <;> omega) (by intro _; first | exact fun _ _ _ _ => rfl | exact RS.has (by assumption) | exact fun _ _ _ _ => (by assumption) | exact HasMem.ownD 0 rfl | exact HasMem.ownD 1 rfl | exact HasMem.ownD 2 rfl | exact HasMem.ownD 3 rfl | exact HasMem.ownD 4 rfl | exact HasMem.ownD 5 rfl | exact HasMem.ownD 6 rfl | exact HasMem.ownD 7 rfl)) ?_
    refine' WG.y rfl rfl (by decide) (Yl.load1 tab_ok rfl rfl rfl (fun _ => rfl) ?r6 rfl ?h6) ?_
    case r6 => (first | (apply RS.rdD; assumption; ((try dsimp only) <;> omega)) | exact Rd.slD 0 rfl (by (try dsimp only) <;> omega) | exact Rd.slD 1 rfl (by (try dsimp only) <;> omega) | exact Rd.slD 2 rfl (by (try dsimp only) <;> omega) | exact Rd.slD 3 rfl (by (try dsimp only) <;> omega) | exact Rd.slD 4 rfl (by (try dsimp only) <;> omega) | exact Rd.slD 5 rfl (by (try dsimp only) <;> omega) | exact Rd.slD 6 rfl (by (try dsimp only) <;> omega) | exact Rd.slD 7 rfl (by (try dsimp only) <;> omega))
    case h6 => rfl
    refine WG.run tab_ok 1 rfl ?_
    refine WG.nil ?_
    refine WE.nxt ?_
    refine W.ret ?_
    refine WE.retF tab_ok [_] rfl ⟨rfl, trivial⟩ (RLe.refl _) ?_
    exact ⟨_, [], rfl, congrArg (fun i => Value.int .i64 (nth xs i)) (show _ = c by omega), rfl, src_next (by omega), rfl⟩

theorem N_C {R : Ro} {b : Nat} {a : Option Addr} {cp : Nat} {xs : List Int} {c : Nat} (w0 : World) {n : Int} (ha : RS R 1 encI a xs) (hn : InR n) : FnAt Tryd.prog 19 [.pointer (some ⟨b, 0, none⟩), .int .i64 n] w0 R (srcE b a cp xs c) (RdPost (.int .i64 (mod (nth xs c) n)) R (srcE b a cp xs (c + 1))) := by
  intro F
  refine Fn.enter (n := 9) Tryd.func19 rfl rfl (Nat.le_of_ble_eq_true rfl) rfl ?_
  refine W.seq ?_
  refine W.region _ ?_
  refine WG.run tab_ok 1 rfl ?_
  refine WG.nil ?_
  refine WE.nxt ?_
  refine W.seq ?_
  refine W.region _ ?_
  refine WG.run tab_ok 1 rfl ?_
  refine WL.callAt 0 en60 rfl rfl (by decide) (CallOp.mkT rfl rfl rfl rfl) rfl (Raw_C w0 ha _) ?_
  rintro _ _ _ _ - ⟨rfl, rfl, rfl, rfl⟩
  refine WG.run tab_ok 1 rfl ?_
  refine WG.callV en59 rfl rfl (by decide) (CallOp.mk' rfl rfl rfl rfl) (fun _ => rfl) (fun hg => Mod_V hn) ?_
  refine WG.run tab_ok 1 rfl ?_
  refine WG.nil ?_
  refine WE.nxt ?_
  refine W.ret ?_
  refine WE.retF tab_ok [_] rfl ⟨rfl, trivial⟩ (RLe.refl _) ?_
  exact ⟨_, [], rfl, rfl, rfl, rfl, rfl⟩

theorem New_C {R : Ro} {a : Option Addr} {cp : Nat} {l : List Int} (w0 : World) (E : List Ent) (hc : l.length ≤ cp) :
    K.Fn Tryd.prog 15 [.slice a l.length cp] w0 R E (fun v R' E' => ∃ b, v = .pointer (some ⟨b, 0, none⟩) ∧ R = R' ∧ E' = srcE b a cp (l.take 2000) 0 :: E) := by
  refine Fn.enter (n := 10) Tryd.func15 rfl rfl (Nat.le_of_ble_eq_true rfl) rfl ?_
  refine W.seq ?_
  refine W.region _ ?_
  refine WG.run tab_ok 1 rfl ?_
  refine WG.nil ?_
  refine WE.nxt ?_
  refine W.seq ?_
  refine W.region _ ?_
  refine WG.run tab_ok 4 rfl ?_
  refine WG.y rfl rfl (by decide) (Yl.sliceH tab_ok rfl rfl rfl rfl rfl (fun _ => rfl) (by intro _; split <;> constructor <;> omega) rfl) ?_
  -- build
  refine WG.y rfl rfl (by decide) (Yl.build (parts := [(0, .tmp 7)]) tab_ok rfl rfl rfl rfl (fun _ => rfl) rfl rfl) ?_
  refine WL.ef rfl rfl (by decide) (Ef.box rfl rfl (fun b9 => ?_))
  refine WG.run tab_ok 1 rfl ?_
  refine WG.nil ?_
  refine WE.nxt ?_
  refine W.ret ?_
  refine WE.retF tab_ok [_] rfl ⟨rfl, trivial⟩ (RLe.refl _) ?_
  refine ⟨_, rfl, rfl, ?_⟩
  unfold srcE
  rw [List.length_take, Nat.min_comm 0, Nat.min_zero]
  have e1 : ((if (2000 : Int) < (l.length : Int) then 2000 else (l.length : Int))).toNat = min 2000 l.length := by split <;> omega
  exact congrArg (fun n => Ent.blk _ [Value.slice a n cp, .int .i64 0] :: E) e1

end Go.Proofs.YtjacpnojnoompaaDoor

/- The journal: texts of the source, lists of texts compared. No condition. -/
set_option linter.unusedSimpArgs false
set_option linter.unusedVariables false
namespace Go.Proofs.YtjacpnojnoompaaDoor
open Go Go.RowKit Go.Proofs.YtjacpnojnoompaaDoor.K Go.Proofs.YtjacpnojnoompaaDoor.M

theorem GlobJ.mono {R R' : Ro} (h : GlobJ R) (hR : RLe R R') : GlobJ R' := ⟨by obtain ⟨m, rest, hm⟩ := h.m; exact ⟨m, rest, hR _ _ hm⟩⟩
def txU : List (List UInt8) := ([[97], [97, 100, 109, 105, 116, 32, 49, 32, 50], [114, 101, 109, 111, 118, 101, 32, 102], [48], [32], [99, 104, 97, 110, 103, 101, 32, 105, 116, 32, 97, 108, 108]] : List (List UInt8))
def txV : List (List UInt8) := ([[], [120], [126], [32, 32, 57]] : List (List UInt8))
theorem line_good {x : List UInt8} (h : x ≠ [] ∧ badB x = false ∧ x.length ≤ 1000) : (lineF 1 x).2 = 0 := by
  unfold lineF
  rw [if_neg (by decide), if_neg h.1, if_neg (by rw [h.2.1]; decide), if_neg (by omega)]
theorem tx_all : ∀ u ∈ txU, ∀ v ∈ txV, (u ++ v) ≠ [] ∧ badB (u ++ v) = false ∧ (u ++ v).length ≤ 20 := by decide
theorem tx_small : (∀ u ∈ txU, u.length ≤ 20) ∧ ∀ v ∈ txV, v.length ≤ 20 := by decide
theorem OkL_mem : ∀ (ys : List (List UInt8)) (k : Int), OkL k ys → ∀ y ∈ ys, y.length ≤ 1000
  | [], _, _, y, hy => by cases hy
  | x :: r, k, h, y, hy => by
    rcases List.mem_cons.1 hy with rfl | hy
    · exact (lineF_ok h.1).2.2.2.1
    · exact OkL_mem r (k + 1) h.2 y hy
theorem okl_len {ys : List (List UInt8)} (h : OkL 1 ys) : (linesF 1 ys).length ≤ 1100 * ys.length := linesF_len ys 1100 1 (fun y hy k => lineF_len (by have := OkL_mem ys 1 h y hy; omega))

theorem Text_C {R : Ro} {b : Nat} {a : Option Addr} {cp : Nat} {xs : List Int} {c : Nat} (w0 : World) {n : Nat} {a2 : Option Addr} {c2 : Nat} {ys : List (List UInt8)} {j : Nat} {F : List Ent} (hn : ys.length = n) (ha : RS R 1 encI a xs) (hy : F[j]? = some (.sl 9 1 a2 c2 (ys.map encT))) (hne : 0 < n) (hl : n ≤ 1000000) :
    K.Fn Tryd.prog 20 [.pointer (some ⟨b, 0, none⟩), .slice a2 n c2] w0 R (srcE b a cp xs c :: F) (fun v R' E' => ∃ e' N, E' = N ++ e' :: F ∧ RdPost (.string (str (nth ys (mod (nth xs c) n).toNat))) R (srcE b a cp xs (c + 1)) v R' e' N) := by
  subst hn
  have hr := mod_range (nth xs c) (show (1 : Int) ≤ ys.length by omega)
  refine Fn.enter (n := 12) Tryd.func20 rfl rfl (Nat.le_of_ble_eq_true rfl) rfl ?_
  refine W.seq ?_
  refine W.region _ ?_
  refine WG.run tab_ok 1 rfl ?_
  refine WG.nil ?_
  refine WE.nxt ?_
  refine W.seq ?_
  refine W.region _ ?_
  refine WG.run tab_ok 4 rfl ?_
  refine WL.callAt 0 en19 rfl rfl (by decide) (CallOp.mkT rfl rfl rfl rfl) rfl (N_C w0 ha (by constructor <;> omega) _) ?_
  rintro _ _ _ _ - ⟨rfl, rfl, rfl, rfl⟩
  refine WG.y rfl rfl (by decide) (Yl.index tab_ok rfl rfl rfl rfl rfl rfl (fun _ => rfl) (by intro _; constructor <;> (try dsimp only) <;> omega) (by intro _; first | exact HasMem.ownD (j + 1) hy | exact fun _ _ _ _ => rfl | exact RS.has (by assumption) | exact fun _ _ _ _ => (by assumption) | exact HasMem.ownD 0 rfl | exact HasMem.ownD 1 rfl)) ?_
  refine' WG.y rfl rfl (by decide) (Yl.load1 tab_ok rfl rfl rfl (fun _ => rfl) ?r1 rfl ?h1) ?_
  case r1 => (first | exact Rd.slD (j + 1) hy (by omega) | (apply RS.rdD; assumption; ((try dsimp only) <;> omega)) | exact Rd.slD 0 rfl (by (try dsimp only) <;> omega) | exact Rd.slD 1 rfl (by (try dsimp only) <;> omega))
  case h1 => rfl
  refine WG.run tab_ok 1 rfl ?_
  refine WG.nil ?_
  refine WE.nxt ?_
  refine W.ret ?_
  refine WE.retF tab_ok [_] rfl ⟨rfl, trivial⟩ (RLe.refl _) ?_
  exact ⟨_, [], rfl, rfl, rfl, rfl, rfl⟩

theorem SameT_V {R : Ro} {a b : Option Addr} {ca cb m : Nat} {xs ys : List (List UInt8)} (ha : RS R 1 encT a xs) (hb : RS R 1 encT b ys) (hm : m = ys.length) :
    FnV Tryd.prog 17 [.slice a xs.length ca, .slice b m cb] R (.bool (decide (xs = ys))) := by
  subst hm
  have hla := ha.len
  have hlb := hb.len
  refine Fn.toV (fun w0 E => ?_)
  refine Fn.enter (n := 26) Tryd.func17 rfl rfl (Nat.le_of_ble_eq_true rfl) rfl ?_
  refine W.seq ?_
  refine W.region _ ?_
  refine WG.run tab_ok 1 rfl ?_
  refine WG.nil ?_
  refine WE.nxt ?_
  refine W.seq ?_
  refine W.seq ?_
  refine W.region _ ?_
  refine WG.run tab_ok 5 rfl ?_
  refine WG.nil ?_
  refine WE.nxt ?_
  refine W.condN rfl (fun hc0 => ?_) (fun hc0 => ?_)
  · try dsimp only at hc0
    refine W.seq ?_
    refine W.region _ ?_
    refine WG.run tab_ok 1 rfl ?_
    refine WG.nil ?_
    refine WE.nxt ?_
    refine W.ret ?_
    refine WE.then_ret ?_
    refine WE.subE (E' := E) (by (repeat (first | exact List.Sublist.refl _ | exact List.nil_sublist _ | apply List.Sublist.cons_cons | apply List.Sublist.cons)); done) ?_
    refine WE.retF tab_ok [_] rfl ⟨rfl, trivial⟩ (RLe.refl _) ?_
    exact ⟨congrArg Value.bool (decide_eq_false (by rintro rfl; simp at hc0)).symm, rfl⟩
  · try dsimp only at hc0
    refine W.skip ?_
    refine WE.nxt ?_
    refine W.seq ?_
    refine W.seq ?_
    refine W.region _ ?_
    refine WG.run tab_ok 3 rfl ?_
    refine WG.nil ?_
    refine WE.nxt ?_
    refine W.block ?_
    refine W.loopK (β := Nat) (fun k => k ≤ xs.length ∧ ∀ j, j < k → nth xs j = nth ys j) (fun k => [(13, true, .int .i64 (k : Int))]) [0, 1, 12] [_, _, _] [] _ rfl (fun k => []) (fun k => xs.length - k) (0) (⟨Nat.zero_le _, fun j hj => by omega⟩) ⟨rfl, rfl, rfl, rfl, rfl⟩ (by (repeat (first | exact List.Sublist.refl _ | exact List.nil_sublist _ | apply List.Sublist.cons_cons | apply List.Sublist.cons)); done) ?_
    intro k hst
    dsimp only [zipE, setAll, List.cons_append, List.nil_append, List.set_cons_zero, List.set_cons_succ] at hst ⊢
    obtain ⟨hk, hpre⟩ := hst
    refine W.seq ?_
    refine W.region _ ?_
    refine WG.run tab_ok 1 rfl ?_
    refine WG.nil ?_
    refine WE.nxt ?_
    refine W.seq ?_
    refine W.condD rfl (fun hc1 => ?_) (fun hc1 => ?_)
    · try dsimp only at hc1
      refine W.skip ?_
      refine WE.nxt ?_
      refine W.seq ?_
      refine W.block ?_
      refine W.seq ?_
      refine W.region _ ?_
      refine WG.run tab_ok 2 rfl ?_
      refine WG.nil ?_
      refine WE.nxt ?_
      refine W.seq ?_
      refine W.regionQ _ mixed (by kernel_rfl) ?_
      refine WG.run tab_ok 2 rfl ?_
      refine WG.y rfl rfl (by decide) (Yl.indexN tab_ok rfl rfl rfl rfl rfl rfl (fun _ => rfl) (by intro _; (try dsimp only) <;> omega) (by intro _; first | exact fun _ _ _ _ => rfl | exact RS.has (by assumption) | exact fun _ _ _ _ => (by assumption) | exact HasMem.ownD 0 rfl | exact HasMem.ownD 1 rfl | exact HasMem.ownD 2 rfl)) ?_
      refine' WG.y rfl rfl (by decide) (Yl.load1 tab_ok rfl rfl rfl (fun _ => rfl) ?r1 rfl ?h1) ?_
      case r1 => (first | (apply RS.rdD; assumption; ((try dsimp only) <;> omega)) | exact Rd.slD 0 rfl (by (try dsimp only) <;> omega) | exact Rd.slD 1 rfl (by (try dsimp only) <;> omega) | exact Rd.slD 2 rfl (by (try dsimp only) <;> omega))
      case h1 => rfl
      refine WG.run tab_ok 2 rfl ?_
      refine WG.y rfl rfl (by decide) (Yl.indexN tab_ok rfl rfl rfl rfl rfl rfl (fun _ => rfl) (by intro _; (try dsimp only) <;> omega) (by intro _; first | exact fun _ _ _ _ => rfl | exact RS.has (by assumption) | exact fun _ _ _ _ => (by assumption) | exact HasMem.ownD 0 rfl | exact HasMem.ownD 1 rfl | exact HasMem.ownD 2 rfl)) ?_
      refine' WG.y rfl rfl (by decide) (Yl.load1 tab_ok rfl rfl rfl (fun _ => rfl) ?r2 rfl ?h2) ?_
      case r2 => (first | (apply RS.rdD; assumption; ((try dsimp only) <;> omega)) | exact Rd.slD 0 rfl (by (try dsimp only) <;> omega) | exact Rd.slD 1 rfl (by (try dsimp only) <;> omega) | exact Rd.slD 2 rfl (by (try dsimp only) <;> omega))
      case h2 => rfl
      refine WG.y rfl rfl (by decide) (Yl.neS rfl rfl rfl (fun _ => rfl)) ?_
      refine WG.nil ?_
      refine WE.nxt ?_
      refine W.cond rfl (fun hc2 => ?_) (fun hc2 => ?_)
      · try simp only [decide_eq_true_eq, decide_eq_false_iff_not, beq_iff_eq, bne_iff_ne, beq_eq_false_iff_ne, bne_eq_false_iff_eq, ne_eq, Bool.or_eq_true, Bool.or_eq_false_iff, Bool.and_eq_true, Bool.and_eq_false_imp, Bool.not_eq_true, Bool.not_eq_true', Bool.not_eq_false', Classical.not_not, Int.not_lt, Int.not_le, gt_iff_lt, ge_iff_le] at hc2
        have hne : ¬ nth xs k = nth ys k := fun e => hc2 (by rw [e])
        refine W.seq ?_
        refine W.region _ ?_
        refine WG.run tab_ok 1 rfl ?_
        refine WG.nil ?_
        refine WE.nxt ?_
        refine W.ret ?_
        refine WE.blk_ret ?_
        refine WE.then_ret ?_
        refine WE.then_ret ?_
        refine WE.blk_ret ?_
        refine WE.then_ret ?_
        refine WE.subE (E' := E) (by (repeat (first | exact List.Sublist.refl _ | exact List.nil_sublist _ | apply List.Sublist.cons_cons | apply List.Sublist.cons)); done) ?_
        refine WE.retF tab_ok [_] rfl ⟨rfl, trivial⟩ (RLe.refl _) ?_
        exact ⟨congrArg Value.bool (decide_eq_false (by rintro rfl; exact hne rfl)).symm, rfl⟩
      · try simp only [decide_eq_true_eq, decide_eq_false_iff_not, beq_iff_eq, bne_iff_ne, beq_eq_false_iff_ne, bne_eq_false_iff_eq, ne_eq, Bool.or_eq_true, Bool.or_eq_false_iff, Bool.and_eq_true, Bool.and_eq_false_imp, Bool.not_eq_true, Bool.not_eq_true', Bool.not_eq_false', Classical.not_not, Int.not_lt, Int.not_le, gt_iff_lt, ge_iff_le] at hc2
        have heq : nth xs k = nth ys k := str_inj (by simpa using hc2)
        refine W.skip ?_
        refine WE.blk _ ?_
        refine WE.nxt ?_
        refine W.region _ ?_
        refine WG.y rfl rfl (by decide) (Yl.add rfl rfl rfl (fun _ => rfl) (by intro _; constructor <;> (try dsimp only) <;> omega)) ?_
        refine WG.run tab_ok 1 rfl ?_
        refine WG.nil ?_
        refine WE.again (k + 1) (⟨by omega, fun j hj => by
          by_cases h : j = k
          · subst h; exact heq
          · exact hpre j (by omega)⟩) (by (try dsimp only); omega) ⟨rfl, rfl, rfl, rfl, rfl⟩ (RLe.refl _) (by (repeat (first | exact List.Sublist.refl _ | exact List.nil_sublist _ | apply List.Sublist.cons_cons | apply List.Sublist.cons)); done)
    · try dsimp only at hc1
      refine W.exit ?_
      refine WE.then_exit ?_
      refine WE.then_exit ?_
      refine WE.blk_exit ?_
      refine WE.nxt ?_
      refine W.seq ?_
      refine W.region _ ?_
      refine WG.run tab_ok 1 rfl ?_
      refine WG.nil ?_
      refine WE.nxt ?_
      refine W.ret ?_
      refine WE.subE (E' := E) (by (repeat (first | exact List.Sublist.refl _ | exact List.nil_sublist _ | apply List.Sublist.cons_cons | apply List.Sublist.cons)); done) ?_
      refine WE.retF tab_ok [_] rfl ⟨rfl, trivial⟩ (RLe.refl _) ?_
      exact ⟨congrArg Value.bool (decide_eq_true (nth_ext (by omega) (fun i hi => hpre i (by omega)))).symm, rfl⟩

end Go.Proofs.YtjacpnojnoompaaDoor

/- The journal: some texts, and the journal of them. No condition. -/
set_option linter.unusedSimpArgs false
set_option linter.unusedVariables false
namespace Go.Proofs.YtjacpnojnoompaaDoor
open Go Go.RowKit Go.Proofs.YtjacpnojnoompaaDoor.K Go.Proofs.YtjacpnojnoompaaDoor.M

set_option maxHeartbeats 1000000 in
theorem Texts_C {R : Ro} {b : Nat} {a : Option Addr} {cp : Nat} {xs : List Int} {c : Nat} (w0 : World) (ha : RS R 1 encI a xs) {F : List Ent} : K.Fn Tryd.prog 14 [.pointer (some ⟨b, 0, none⟩)] w0 R (srcE b a cp xs c :: F) (fun v R' E' => ∃ (a' : Option Addr) (c' cn : Nat) (ys : List (List UInt8)), v = .tuple #[.slice a' ys.length c', .string (str (linesF 1 ys))] ∧ OkL 1 ys ∧ ys.length ≤ 5 ∧ R = R' ∧ E' = .sl 9 1 a' c' (ys.map encT) :: srcE b a cp xs cn :: F) := by
  
  refine Fn.enter (n := 38) Tryd.func14 rfl rfl (Nat.le_of_ble_eq_true rfl) rfl ?_
  refine W.seq ?_
  refine W.region _ ?_
  refine WG.run tab_ok 1 rfl ?_
  refine WL.nilE 9 1 (by decide) ?_
  refine WG.run tab_ok 1 rfl ?_
  refine WG.nil ?_
  refine WE.nxt ?_
  refine W.seq ?_
  refine W.region _ ?_
  refine WG.run tab_ok 1 rfl ?_
  refine WG.nil ?_
  refine WE.nxt ?_
  refine W.seq ?_
  refine W.region _ ?_
  refine WG.run tab_ok 1 rfl ?_
  refine WG.nil ?_
  refine WE.nxt ?_
  refine W.seq ?_
  refine W.seq ?_
  refine W.region _ ?_
  refine WG.run tab_ok 1 rfl ?_
  refine WL.callAt 1 en19 rfl rfl (by decide) (CallOp.mkT rfl rfl rfl rfl) rfl (N_C w0 ha (by constructor <;> decide) _) ?_
  rintro _ _ _ _ - ⟨rfl, rfl, rfl, rfl⟩
  have hm6 := mod_range (nth xs c) (show (1 : Int) ≤ 6 by decide)
  refine WG.run tab_ok 1 rfl ?_
  refine WG.nil ?_
  refine WE.nxt ?_
  refine W.block ?_
  refine W.loopK (β := List (List UInt8) × Option Addr × Nat × Nat × Int) (fun (ys, a1, c1, cn, q) => OkL 1 ys ∧ (ys.length : Int) + q ≤ 5 ∧ ys.length ≤ 5) (fun (ys, a1, c1, cn, q) => [(4, true, .slice a1 ys.length c1), (5, true, .string (str (linesF 1 ys))), (6, true, .int .i64 q)]) [0] [_] [] _ rfl (fun (ys, a1, c1, cn, q) => [(0, .sl 9 1 a1 c1 (ys.map encT)), (1, srcE b a cp xs cn)]) (fun (ys, a1, c1, cn, q) => q.toNat) (([], none, 0, c + 1, mod (nth xs c) 6)) (⟨trivial, by show (0 : Int) + _ ≤ _; omega, by decide⟩) ⟨rfl, rfl, rfl, rfl, rfl⟩ (by (repeat (first | exact List.Sublist.refl _ | exact List.nil_sublist _ | apply List.Sublist.cons_cons | apply List.Sublist.cons)); done) ?_
  intro zz hst
  obtain ⟨ys, a1, c1, cn, q⟩ := zz
  dsimp only [zipE, setAll, List.cons_append, List.nil_append, List.set_cons_zero, List.set_cons_succ] at hst ⊢
  obtain ⟨hok, hyl, hy5⟩ := hst
  refine W.seq ?_
  refine W.seq ?_
  refine W.region _ ?_
  refine WG.run tab_ok 2 rfl ?_
  refine WG.nil ?_
  refine WE.nxt ?_
  refine W.condD rfl (fun hc0 => ?_) (fun hc0 => ?_)
  · try dsimp only at hc0
    refine W.skip ?_
    refine WE.nxt ?_
    refine W.seq ?_
    refine W.block ?_
    refine W.seq ?_
    refine W.region _ ?_
    refine WG.run tab_ok 1 rfl ?_
    refine WL.ef rfl rfl (by decide) (Ef.buildSliceD (enc := encT) (parts := [.const (.string ⟨#[97]⟩), .const (.string ⟨#[97, 100, 109, 105, 116, 32, 49, 32, 50]⟩), .const (.string ⟨#[114, 101, 109, 111, 118, 101, 32, 102]⟩), .const (.string ⟨#[48]⟩), .const (.string ⟨#[32]⟩), .const (.string ⟨#[99, 104, 97, 110, 103, 101, 32, 105, 116, 32, 97, 108, 108]⟩)]) txU tab_ok rfl rfl rfl rfl rfl rfl rfl rfl (by decide) (by decide) (fun a17 => ?_))
    refine WL.callAt 2 en20 rfl rfl (by decide) (CallOp.mkT rfl rfl rfl rfl) rfl (Text_C (ys := txU) (j := 0) w0 rfl ha rfl (by decide) (by decide)) ?_
    rintro _ _ _ _ - ⟨rfl, rfl, rfl, rfl⟩
    refine WG.run tab_ok 1 rfl ?_
    refine WL.ef rfl rfl (by decide) (Ef.buildSliceD (enc := encT) (parts := [.const (.string ⟨#[]⟩), .const (.string ⟨#[120]⟩), .const (.string ⟨#[126]⟩), .const (.string ⟨#[32, 32, 57]⟩)]) txV tab_ok rfl rfl rfl rfl rfl rfl rfl rfl (by decide) (by decide) (fun a20 => ?_))
    refine WL.callAt 3 en20 rfl rfl (by decide) (CallOp.mkT rfl rfl rfl rfl) rfl (Text_C (ys := txV) (j := 0) w0 rfl ha rfl (by decide) (by decide)) ?_
    rintro _ _ _ _ - ⟨rfl, rfl, rfl, rfl⟩
    have hr6 := mod_range (nth xs cn) (show (1 : Int) ≤ (6 : Nat) by decide)
    have hr4 := mod_range (nth xs (cn + 1)) (show (1 : Int) ≤ (4 : Nat) by decide)
    have hmu : (nth txU (mod (nth xs cn) (6 : Nat)).toNat) ∈ txU := nth_mem (by show _ < 6; omega)
    have hmv : (nth txV (mod (nth xs (cn + 1)) (4 : Nat)).toNat) ∈ txV := nth_mem (by show _ < 4; omega)
    have hxx := tx_all _ hmu _ hmv
    have hsu := tx_small.1 _ hmu
    have hsv := tx_small.2 _ hmv
    have hsu2 := str_size (nth txU (mod (nth xs cn) (6 : Nat)).toNat)
    have hsv2 := str_size (nth txV (mod (nth xs (cn + 1)) (4 : Nat)).toNat)
    have hgx : (lineF 1 ((nth txU (mod (nth xs cn) (6 : Nat)).toNat) ++ (nth txV (mod (nth xs (cn + 1)) (4 : Nat)).toNat))).2 = 0 := line_good ⟨hxx.1, hxx.2.1, by omega⟩
    have hol := okl_len hok
    refine WG.y rfl rfl (by decide) (Yl.catS rfl rfl rfl (fun _ => rfl) (by intro _; omega)) ?_
    refine WG.run tab_ok 1 rfl ?_
    refine WG.nil ?_
    refine WE.nxt ?_
    refine W.seq ?_
    refine W.region _ ?_
    refine WG.run tab_ok 2 rfl ?_
    refine WG.callV (v := .tuple #[.string (str (linesF 1 (ys ++ [((nth txU (mod (nth xs cn) (6 : Nat)).toNat) ++ (nth txV (mod (nth xs (cn + 1)) (4 : Nat)).toNat))]))), .int .i64 0]) en28 rfl rfl (by decide) (CallOp.mk' rfl rfl rfl rfl) (fun _ => rfl) (fun hg => by
      have h := RAppend_V (R := R) (j := linesF 1 ys) (t := ((nth txU (mod (nth xs cn) (6 : Nat)).toNat) ++ (nth txV (mod (nth xs (cn + 1)) (4 : Nat)).toNat))) (by omega) (by omega)
      have e := (appendJ_lines (ys := ys) (t := ((nth txU (mod (nth xs cn) (6 : Nat)).toNat) ++ (nth txV (mod (nth xs (cn + 1)) (4 : Nat)).toNat))) (r := []) hok (stepF_nil _) (by rw [List.append_nil]; omega) hgx (by omega) (by have := lineF_len (k := (ys.length : Int) + 1) (x := ((nth txU (mod (nth xs cn) (6 : Nat)).toNat) ++ (nth txV (mod (nth xs (cn + 1)) (4 : Nat)).toNat))) (by omega); omega)).1
      rw [List.append_nil] at e
      rw [e] at h
      exact h) ?_
    refine WG.run tab_ok 5 rfl ?_
    refine WG.nil ?_
    refine WE.nxt ?_
    refine W.seq ?_
    refine W.seq ?_
    refine W.region _ ?_
    refine WG.run tab_ok 2 rfl ?_
    refine WG.nil ?_
    refine WE.nxt ?_
    refine W.condN rfl (fun hc1 => ?_) (fun hc1 => ?_)
    · try dsimp only at hc1
      first | exact absurd hc1 (by decide) | simp at hc1
    · try dsimp only at hc1
      refine W.skip ?_
      refine WE.nxt ?_
      refine W.region _ ?_
      refine WG.run tab_ok 2 rfl ?_
      refine WL.ef rfl rfl (by decide) (Ef.buildSliceD (enc := encT) (parts := [.tmp 32]) [((nth txU (mod (nth xs cn) (6 : Nat)).toNat) ++ (nth txV (mod (nth xs (cn + 1)) (4 : Nat)).toNat))] tab_ok rfl rfl rfl rfl rfl rfl rfl rfl (by decide) (by decide) (fun a33 => ?_))
      refine WL.ef rfl rfl (by decide) (Ef.appendD (enc := encT) 3 0 tab_ok rfl rfl rfl rfl rfl rfl rfl rfl rfl rfl rfl (fun _ _ => rfl) (by simp only [List.length_cons, List.length_nil]; omega) (by simp only [List.length_cons, List.length_nil]; omega) (fun a34 c34 ha34 => ?_))
      refine WG.run tab_ok 3 rfl ?_
      refine WG.nil ?_
      refine WE.blk _ ?_
      refine WE.nxt ?_
      refine W.region _ ?_
      refine WG.run tab_ok 1 rfl ?_
      refine WG.y rfl rfl (by decide) (Yl.sub rfl rfl rfl (fun _ => rfl) (by intro _; constructor <;> (try dsimp only) <;> omega)) ?_
      refine WG.run tab_ok 1 rfl ?_
      refine WG.nil ?_
      refine WE.again ((ys ++ [((nth txU (mod (nth xs cn) (6 : Nat)).toNat) ++ (nth txV (mod (nth xs (cn + 1)) (4 : Nat)).toNat))], a34, c34, cn + 1 + 1, q - 1)) (⟨(appendJ_lines (ys := ys) (t := ((nth txU (mod (nth xs cn) (6 : Nat)).toNat) ++ (nth txV (mod (nth xs (cn + 1)) (4 : Nat)).toNat))) (r := []) hok (stepF_nil _) (by rw [List.append_nil]; omega) hgx (by omega) (by have := lineF_len (k := (ys.length : Int) + 1) (x := ((nth txU (mod (nth xs cn) (6 : Nat)).toNat) ++ (nth txV (mod (nth xs (cn + 1)) (4 : Nat)).toNat))) (by omega); omega)).2, by dsimp only; simp only [List.length_append, List.length_cons, List.length_nil]; omega, by dsimp only; simp only [List.length_append, List.length_cons, List.length_nil]; omega⟩) (by (try dsimp only); omega) ⟨rfl, rfl, rfl, rfl, rfl⟩ (RLe.refl _) (by (repeat (first | exact List.Sublist.refl _ | exact List.nil_sublist _ | apply List.Sublist.cons_cons | apply List.Sublist.cons)); done)
  · try dsimp only at hc0
    refine W.exit ?_
    refine WE.then_exit ?_
    refine WE.then_exit ?_
    refine WE.blk_exit ?_
    refine WE.nxt ?_
    refine W.seq ?_
    refine W.region _ ?_
    refine WG.run tab_ok 4 rfl ?_
    refine WG.nil ?_
    refine WE.nxt ?_
    refine W.ret ?_
    refine WE.retF tab_ok [_, _] rfl ⟨rfl, rfl, trivial⟩ (RLe.refl _) ?_
    exact ⟨a1, c1, cn, ys, rfl, hok, hy5, rfl, rfl⟩

end Go.Proofs.YtjacpnojnoompaaDoor

/- The journal: texts are added. No condition. -/
set_option linter.unusedSimpArgs false
set_option linter.unusedVariables false
namespace Go.Proofs.YtjacpnojnoompaaDoor
open Go Go.RowKit Go.Proofs.YtjacpnojnoompaaDoor.K Go.Proofs.YtjacpnojnoompaaDoor.M

theorem JValid_V {R : Ro} (hG : GlobJ R) {j : List UInt8} (hj : j.length ≤ 1000000) : FnV Tryd.prog 22 [.string (str j)] R (.bool (validJ j)) := by
  refine FnV.ofOwn (fun w0 hR => ?_)
  have hsz := str_size j
  have hrl := readJ_le j
  refine Fn.enter (n := 19) Tryd.func22 rfl rfl (Nat.le_of_ble_eq_true rfl) rfl ?_
  refine W.seq ?_
  refine W.region _ ?_
  refine WG.run tab_ok 1 rfl ?_
  refine WG.nil ?_
  refine WE.nxt ?_
  refine W.seq ?_
  refine W.region _ ?_
  refine WG.run tab_ok 1 rfl ?_
  refine WL.call en16 rfl rfl (by decide) (CallOp.mkT rfl rfl rfl rfl) (JRead_C hG hj w0) ?_
  rintro _ _ _ - ⟨a2, c2, rfl, rfl, rfl⟩
  refine WG.run tab_ok 5 rfl ?_
  refine WG.nil ?_
  refine WE.nxt ?_
  refine W.seq ?_
  refine W.region _ ?_
  refine WG.run tab_ok 4 rfl ?_
  refine WG.y rfl rfl (by decide) (pureV_ok tab_ok rfl (by first | exact fun _ => rfl | exact fun h => h | (intro h; simp_all))) ?_
  refine WG.y rfl rfl (by decide) (pureV_ok tab_ok rfl (by first | exact fun _ => rfl | exact fun h => h | (intro h; simp_all))) ?_
  refine WG.y rfl rfl (by decide) (pureV_ok tab_ok rfl (by first | exact fun _ => rfl | exact fun h => h | (intro h; simp_all))) ?_
  refine WG.y rfl rfl (by decide) (pureV_ok tab_ok rfl (by first | exact fun _ => rfl | exact fun h => h | (intro h; simp_all))) ?_
  refine WG.y rfl rfl (by decide) (Yl.pand rfl rfl rfl (fun _ => rfl) (by intro h1 h2; simp_all <;> omega)) ?_
  refine WG.run tab_ok 1 rfl ?_
  refine WG.nil ?_
  refine WE.nxt ?_
  refine W.ret ?_
  refine WE.retF tab_ok [_] rfl ⟨rfl, trivial⟩ (RLe.refl _) ?_
  exact congrArg Value.bool (by unfold validJ; rw [Bool.eq_iff_iff]; simp [hsz]; omega)

theorem JAppend_V {R : Ro} (hG : GlobJ R) {j t : List UInt8} (hj : j.length ≤ 1000000) (ht : t.length ≤ 1000000) : FnV Tryd.prog 18 [.string (str j), .string (str t)] R (.tuple #[.string (str (appendJ j t).1), .int .i64 (appendJ j t).2]) := by
  refine FnV.ofOwn (fun w0 hR => ?_)
  have hsz := str_size j
  have hls := str_size (lineF ((readJ j).1.length + 1) t).1
  have hlt : (List.take (((readJ j).2 : Int)).toNat j).length ≤ j.length := by rw [List.length_take]; omega
  have hrl := readJ_le j
  have hll := lineF_len (k := ((readJ j).1.length : Int) + 1) ht
  refine Fn.enter (n := 47) Tryd.func18 rfl rfl (Nat.le_of_ble_eq_true rfl) rfl ?_
  refine W.seq ?_
  refine W.region _ ?_
  refine WG.run tab_ok 2 rfl ?_
  refine WG.nil ?_
  refine WE.nxt ?_
  refine W.seq ?_
  refine W.seq ?_
  refine W.region _ ?_
  refine WG.run tab_ok 1 rfl ?_
  refine WG.callV en29 rfl rfl (by decide) (CallOp.mk' rfl rfl rfl rfl) (fun _ => rfl) (fun hg => JLine_V (k := 1) (x := t) (by constructor <;> decide) ht) ?_
  refine WG.run tab_ok 5 rfl ?_
  refine WG.nil ?_
  refine WE.nxt ?_
  refine W.seq ?_
  refine W.region _ ?_
  refine WG.run tab_ok 2 rfl ?_
  refine WG.nil ?_
  refine WE.nxt ?_
  refine W.condN rfl (fun hc0 => ?_) (fun hc0 => ?_)
  · try dsimp only at hc0
    have he : (lineF 1 t).2 ≠ 0 := by simpa using hc0
    refine W.seq ?_
    refine W.region _ ?_
    refine WG.run tab_ok 3 rfl ?_
    refine WG.nil ?_
    refine WE.nxt ?_
    refine W.ret ?_
    refine WE.then_ret ?_
    refine WE.retF tab_ok [_, _] rfl ⟨rfl, rfl, trivial⟩ (RLe.refl _) ?_
    exact by unfold appendJ; rw [if_pos he]; rfl
  · try dsimp only at hc0
    have he : ¬ (lineF 1 t).2 ≠ 0 := by simpa using hc0
    refine W.skip ?_
    refine WE.nxt ?_
    refine W.seq ?_
    refine W.region _ ?_
    refine WG.run tab_ok 1 rfl ?_
    refine WL.call en16 rfl rfl (by decide) (CallOp.mkT rfl rfl rfl rfl) (JRead_C hG hj w0) ?_
    rintro _ _ _ - ⟨a2, c2, rfl, rfl, rfl⟩
    refine WG.run tab_ok 5 rfl ?_
    refine WG.nil ?_
    refine WE.nxt ?_
    refine W.seq ?_
    refine W.region _ ?_
    refine WG.run tab_ok 2 rfl ?_
    refine WG.y rfl rfl (by decide) (Yl.add rfl rfl rfl (fun _ => rfl) (by intro _; constructor <;> (try dsimp only) <;> omega)) ?_
    refine WG.run tab_ok 1 rfl ?_
    refine WG.callV en29 rfl rfl (by decide) (CallOp.mk' rfl rfl rfl rfl) (fun _ => rfl) (fun hg => JLine_V (k := ((readJ j).1.length : Int) + 1) (x := t) (by constructor <;> omega) ht) ?_
    refine WG.run tab_ok 5 rfl ?_
    refine WG.nil ?_
    refine WE.nxt ?_
    refine W.seq ?_
    refine W.seq ?_
    refine W.region _ ?_
    refine WG.run tab_ok 3 rfl ?_
    refine WG.y rfl rfl (by decide) (pureV_ok tab_ok rfl (by first | exact fun _ => rfl | exact fun h => h | (intro h; simp_all))) ?_
    refine WG.y rfl rfl (by decide) (pureV_ok tab_ok rfl (by first | exact fun _ => rfl | exact fun h => h | (intro h; simp_all))) ?_
    refine WG.y rfl rfl (by decide) (pureV_ok tab_ok rfl (by first | exact fun _ => rfl | exact fun h => h | (intro h; simp_all))) ?_
    refine WG.y rfl rfl (by decide) (Yl.add rfl rfl rfl (by first | exact fun _ => rfl | exact fun h => h | (intro h; simp_all)) (by intro hg; (try simp only [decide_eq_true_eq, decide_eq_false_iff_not, beq_iff_eq, bne_iff_ne, beq_eq_false_iff_ne, bne_eq_false_iff_eq, ne_eq, Bool.or_eq_true, Bool.or_eq_false_iff, Bool.and_eq_true, Bool.and_eq_false_imp, Bool.not_eq_true, Bool.not_eq_true', Bool.not_eq_false', Classical.not_not, Int.not_lt, Int.not_le, gt_iff_lt, ge_iff_le] at hg); constructor <;> (try dsimp only) <;> omega)) ?_
    refine WG.y rfl rfl (by decide) (pureV_ok tab_ok rfl (by first | exact fun _ => rfl | exact fun h => h | (intro h; simp_all))) ?_
    refine WG.y rfl rfl (by decide) (Yl.por rfl rfl rfl (fun _ => rfl) (by intro h1 h2; simp_all <;> omega)) ?_
    refine WG.nil ?_
    refine WE.nxt ?_
    refine W.cond rfl (fun hc1 => ?_) (fun hc1 => ?_)
    · try simp only [decide_eq_true_eq, decide_eq_false_iff_not, beq_iff_eq, bne_iff_ne, beq_eq_false_iff_ne, bne_eq_false_iff_eq, ne_eq, Bool.or_eq_true, Bool.or_eq_false_iff, Bool.and_eq_true, Bool.and_eq_false_imp, Bool.not_eq_true, Bool.not_eq_true', Bool.not_eq_false', Classical.not_not, Int.not_lt, Int.not_le, gt_iff_lt, ge_iff_le] at hc1
      refine W.seq ?_
      refine W.region _ ?_
      refine WG.run tab_ok 2 rfl ?_
      refine WG.nil ?_
      refine WE.nxt ?_
      refine W.ret ?_
      refine WE.then_ret ?_
      refine WE.retF tab_ok [_, _] rfl ⟨rfl, rfl, trivial⟩ (RLe.refl _) ?_
      exact by unfold appendJ; rw [if_neg he, if_pos (by rcases hc1 with h | h; exact .inl h; exact .inr (by omega))]; rfl
    · try simp only [decide_eq_true_eq, decide_eq_false_iff_not, beq_iff_eq, bne_iff_ne, beq_eq_false_iff_ne, bne_eq_false_iff_eq, ne_eq, Bool.or_eq_true, Bool.or_eq_false_iff, Bool.and_eq_true, Bool.and_eq_false_imp, Bool.not_eq_true, Bool.not_eq_true', Bool.not_eq_false', Classical.not_not, Int.not_lt, Int.not_le, gt_iff_lt, ge_iff_le] at hc1
      refine W.skip ?_
      refine WE.nxt ?_
      refine W.seq ?_
      refine W.region _ ?_
      refine WG.run tab_ok 2 rfl ?_
      refine WG.y rfl rfl (by decide) (Yl.sliceSH tab_ok rfl rfl rfl rfl rfl (fun _ => rfl) (by intro _; omega)) ?_
      refine WG.run tab_ok 1 rfl ?_
      refine WG.y rfl rfl (by decide) (Yl.catS rfl rfl rfl (fun _ => rfl) (by intro _; omega)) ?_
      refine WG.run tab_ok 2 rfl ?_
      refine WG.nil ?_
      refine WE.nxt ?_
      refine W.ret ?_
      refine WE.retF tab_ok [_, _] rfl ⟨rfl, rfl, trivial⟩ (RLe.refl _) ?_
      exact by unfold appendJ; rw [if_neg he, if_neg (by rintro (h | h); exact h hc1.1; have := hc1.2; omega)]; rfl

end Go.Proofs.YtjacpnojnoompaaDoor

/- The journal: the example of the chapter. No condition. -/
set_option linter.unusedSimpArgs false
set_option linter.unusedVariables false
namespace Go.Proofs.YtjacpnojnoompaaDoor
open Go Go.RowKit Go.Proofs.YtjacpnojnoompaaDoor.K Go.Proofs.YtjacpnojnoompaaDoor.M

theorem dec_one {u : Nat} (h : u < 10) : Lib.decDigits u = [UInt8.ofNat (48 + u)] := by rw [Lib.decDigits, dif_pos h]
theorem sane_line1 : lineF 1 [97, 98, 99] = ([49, 32, 51, 32, 48, 50, 52, 100, 48, 49, 50, 55, 32, 97, 98, 99, 10], 0) := by
  unfold lineF
  rw [if_neg (by decide), if_neg (by decide), if_neg (by decide), if_neg (by decide), dec_one (by decide), dec_one (by decide), show hexF (sumF [97, 98, 99]) 8 = [48, 50, 52, 100, 48, 49, 50, 55] from by decide]
  rfl
theorem sane_line2 : lineF 2 [120] = ([50, 32, 49, 32, 48, 48, 55, 57, 48, 48, 55, 57, 32, 120, 10], 0) := by
  unfold lineF
  rw [if_neg (by decide), if_neg (by decide), if_neg (by decide), if_neg (by decide), dec_one (by decide), dec_one (by decide), show hexF (sumF [120]) 8 = [48, 48, 55, 57, 48, 48, 55, 57] from by decide]
  rfl
theorem sane_b : linesF 1 [[97, 98, 99], [120]] = [49, 32, 51, 32, 48, 50, 52, 100, 48, 49, 50, 55, 32, 97, 98, 99, 10, 50, 32, 49, 32, 48, 48, 55, 57, 48, 48, 55, 57, 32, 120, 10] := by
  simp only [linesF]
  rw [sane_line1, show (1 : Int) + 1 = 2 from rfl, sane_line2]
  rfl
theorem sane_a : linesF 1 [[97, 98, 99]] = [49, 32, 51, 32, 48, 50, 52, 100, 48, 49, 50, 55, 32, 97, 98, 99, 10] := by
  simp only [linesF]
  rw [sane_line1]
  rfl
theorem sane_ok1 : OkL 1 [[97, 98, 99]] := ⟨by rw [sane_line1], trivial⟩
theorem sane_ok2 : OkL 1 [[97, 98, 99], [120]] := ⟨by rw [sane_line1], by rw [show (1 : Int) + 1 = 2 from rfl, sane_line2], trivial⟩
theorem sane_app1 : appendJ [] [97, 98, 99] = ([49, 32, 51, 32, 48, 50, 52, 100, 48, 49, 50, 55, 32, 97, 98, 99, 10], 0) := by
  have h := (appendJ_lines (ys := []) (t := [97, 98, 99]) (r := []) trivial (stepF_nil _) (by decide) (by rw [sane_line1]) (by decide) (by show 0 + (lineF 1 [97, 98, 99]).1.length ≤ 8000; rw [sane_line1]; decide)).1
  rw [List.nil_append, sane_a] at h
  exact h
theorem sane_app2 : appendJ [49, 32, 51, 32, 48, 50, 52, 100, 48, 49, 50, 55, 32, 97, 98, 99, 10] [120] = ([49, 32, 51, 32, 48, 50, 52, 100, 48, 49, 50, 55, 32, 97, 98, 99, 10, 50, 32, 49, 32, 48, 48, 55, 57, 48, 48, 55, 57, 32, 120, 10], 0) := by
  have h := (appendJ_lines (ys := [[97, 98, 99]]) (t := [120]) (r := []) sane_ok1 (stepF_nil _) (by rw [sane_a]; decide) (lineF_any (k := 2) (by rw [sane_line2]) (by decide)) (by decide) (by rw [sane_a]; show _ + (lineF 2 [120]).1.length ≤ 8000; rw [sane_line2]; decide)).1
  rw [List.append_nil, sane_a, show [[97, 98, 99]] ++ [[120]] = ([[97, 98, 99], [120]] : List (List UInt8)) from rfl, sane_b] at h
  exact h
theorem sane_read : readJ [49, 32, 51, 32, 48, 50, 52, 100, 48, 49, 50, 55, 32, 97, 98, 99, 10, 50, 32, 49, 32, 48, 48, 55, 57, 48, 48, 55, 57, 32, 120, 10] = ([[97, 98, 99], [120]], 32) := by
  have h := readJ_lines0 sane_ok2 (by rw [sane_b]; decide)
  rw [sane_b] at h
  exact h
theorem sane_valid : validJ [49, 32, 51, 32, 48, 50, 52, 100, 48, 49, 50, 55, 32, 97, 98, 99, 10, 50, 32, 49, 32, 48, 48, 55, 57, 48, 48, 55, 57, 32, 120, 10] = true := by
  unfold validJ
  rw [sane_read]
  decide

theorem JSane_V {R : Ro} (hG : GlobJ R) : FnV Tryd.prog 13 [] R (.bool true) := by
  refine FnV.ofOwn (fun w0 hR => ?_)
  refine Fn.enter (n := 71) Tryd.func13 rfl rfl (Nat.le_of_ble_eq_true rfl) rfl ?_
  refine W.seq ?_
  refine W.region _ ?_
  refine WG.run tab_ok 1 rfl ?_
  refine WG.nil ?_
  refine WE.nxt ?_
  refine W.seq ?_
  refine W.region _ ?_
  refine WG.callV (v := .tuple #[.string ⟨#[49, 32, 51, 32, 48, 50, 52, 100, 48, 49, 50, 55, 32, 97, 98, 99, 10]⟩, .int .i64 0]) en29 rfl rfl (by decide) (CallOp.mk' rfl rfl rfl rfl) (fun _ => rfl) (fun hg => by
    have h := JLine_V (R := R) (k := 1) (x := [97, 98, 99]) (by constructor <;> decide) (by decide)
    rw [sane_line1] at h
    exact h) ?_
  refine WG.run tab_ok 5 rfl ?_
  refine WG.nil ?_
  refine WE.nxt ?_
  refine W.seq ?_
  refine W.region _ ?_
  refine WG.callV (v := .tuple #[.string ⟨#[49, 32, 51, 32, 48, 50, 52, 100, 48, 49, 50, 55, 32, 97, 98, 99, 10]⟩, .int .i64 0]) en18 rfl rfl (by decide) (CallOp.mk' rfl rfl rfl rfl) (fun _ => rfl) (fun hg => by
    have h := JAppend_V (R := R) hG (j := []) (t := [97, 98, 99]) (by decide) (by decide)
    rw [sane_app1] at h
    exact h) ?_
  refine WG.run tab_ok 5 rfl ?_
  refine WG.nil ?_
  refine WE.nxt ?_
  refine W.seq ?_
  refine W.region _ ?_
  refine WG.run tab_ok 1 rfl ?_
  refine WG.callV (v := .tuple #[.string ⟨#[49, 32, 51, 32, 48, 50, 52, 100, 48, 49, 50, 55, 32, 97, 98, 99, 10, 50, 32, 49, 32, 48, 48, 55, 57, 48, 48, 55, 57, 32, 120, 10]⟩, .int .i64 0]) en18 rfl rfl (by decide) (CallOp.mk' rfl rfl rfl rfl) (fun _ => rfl) (fun hg => by
    have h := JAppend_V (R := R) hG (j := [49, 32, 51, 32, 48, 50, 52, 100, 48, 49, 50, 55, 32, 97, 98, 99, 10]) (t := [120]) (by decide) (by decide)
    rw [sane_app2] at h
    exact h) ?_
  refine WG.run tab_ok 5 rfl ?_
  refine WG.nil ?_
  refine WE.nxt ?_
  refine W.seq ?_
  refine W.region _ ?_
  refine WG.run tab_ok 1 rfl ?_
  refine WL.call en16 rfl rfl (by decide) (CallOp.mkT rfl rfl rfl rfl) (JRead_C hG (j := [49, 32, 51, 32, 48, 50, 52, 100, 48, 49, 50, 55, 32, 97, 98, 99, 10, 50, 32, 49, 32, 48, 48, 55, 57, 48, 48, 55, 57, 32, 120, 10]) (by decide) w0) ?_
  rintro _ _ _ - ⟨a2, c2, rfl, rfl, rfl⟩
  rw [sane_read]
  refine WG.run tab_ok 5 rfl ?_
  refine WG.nil ?_
  refine WE.nxt ?_
  refine W.seq ?_
  refine W.region _ ?_
  refine WG.callV (v := .int .i64 38600999) en24 rfl rfl (by decide) (CallOp.mk' rfl rfl rfl rfl) (fun _ => rfl) (fun hg => by
    have h := JSum_V (R := R) (l := [97, 98, 99]) (by decide)
    rw [show sumF [97, 98, 99] = 38600999 from by decide] at h
    exact h) ?_
  refine WG.run tab_ok 2 rfl ?_
  refine WL.guardT rfl (by first | rfl | decide | simp) ?_
  refine WG.y rfl rfl (by decide) (pureV_ok tab_ok rfl (fun _ => rfl)) ?_
  refine WL.guardT rfl (by first | rfl | decide | simp) ?_
  refine WG.y rfl rfl (by decide) (pureV_ok tab_ok rfl (fun _ => rfl)) ?_
  refine WG.y rfl rfl (by decide) (Yl.pand rfl rfl rfl (fun _ => rfl) (by intro h1 h2; simp_all <;> omega)) ?_
  refine WG.run tab_ok 1 rfl ?_
  refine WL.guardT rfl (by first | rfl | decide | simp) ?_
  refine WG.y rfl rfl (by decide) (pureV_ok tab_ok rfl (fun _ => rfl)) ?_
  refine WL.guardT rfl (by first | rfl | decide | simp) ?_
  refine WG.y rfl rfl (by decide) (Yl.eqS rfl rfl rfl (fun _ => rfl)) ?_
  refine WG.y rfl rfl (by decide) (Yl.pand rfl rfl rfl (fun _ => rfl) (by intro h1 h2; simp_all <;> omega)) ?_
  refine WG.run tab_ok 1 rfl ?_
  refine WL.guardT rfl (by first | rfl | decide | simp) ?_
  refine WG.y rfl rfl (by decide) (pureV_ok tab_ok rfl (fun _ => rfl)) ?_
  refine WL.guardT rfl (by first | rfl | decide | simp) ?_
  refine WG.y rfl rfl (by decide) (pureV_ok tab_ok rfl (fun _ => rfl)) ?_
  refine WG.y rfl rfl (by decide) (Yl.pand rfl rfl rfl (fun _ => rfl) (by intro h1 h2; simp_all <;> omega)) ?_
  refine WG.run tab_ok 1 rfl ?_
  refine WL.guardT rfl (by first | rfl | decide | simp) ?_
  refine WG.y rfl rfl (by decide) (pureV_ok tab_ok rfl (fun _ => rfl)) ?_
  refine WL.guardT rfl (by first | rfl | decide | simp) ?_
  refine WG.y rfl rfl (by decide) (pureV_ok tab_ok rfl (fun _ => rfl)) ?_
  refine WL.guardT rfl (by first | rfl | decide | simp) ?_
  refine WG.y rfl rfl (by decide) (Yl.eqS rfl rfl rfl (fun _ => rfl)) ?_
  refine WG.y rfl rfl (by decide) (Yl.pand rfl rfl rfl (fun _ => rfl) (by intro h1 h2; simp_all <;> omega)) ?_
  refine WG.run tab_ok 1 rfl ?_
  refine WL.guardT rfl (by first | rfl | decide | simp) ?_
  refine WG.y rfl rfl (by decide) (pureV_ok tab_ok rfl (fun _ => rfl)) ?_
  refine WL.guardT rfl (by first | rfl | decide | simp) ?_
  refine WG.y rfl rfl (by decide) (pureV_ok tab_ok rfl (fun _ => rfl)) ?_
  refine WG.y rfl rfl (by decide) (Yl.pand rfl rfl rfl (fun _ => rfl) (by intro h1 h2; simp_all <;> omega)) ?_
  refine WG.run tab_ok 1 rfl ?_
  refine WL.guardT rfl (by first | rfl | decide | simp) ?_
  refine WG.y rfl rfl (by decide) (pureV_ok tab_ok rfl (fun _ => rfl)) ?_
  refine WL.guardT rfl (by first | rfl | decide | simp) ?_
  refine WG.y rfl rfl (by decide) (pureV_ok tab_ok rfl (fun _ => rfl)) ?_
  refine WL.guardT rfl (by first | rfl | decide | simp) ?_
  refine WG.y rfl rfl (by decide) (pureV_ok tab_ok rfl (fun _ => rfl)) ?_
  refine WG.y rfl rfl (by decide) (Yl.pand rfl rfl rfl (fun _ => rfl) (by intro h1 h2; simp_all <;> omega)) ?_
  refine WG.run tab_ok 1 rfl ?_
  refine WL.guardT rfl (by first | rfl | decide | simp) ?_
  refine WG.y rfl rfl (by decide) (pureV_ok tab_ok rfl (fun _ => rfl)) ?_
  refine WL.guardT rfl (by first | rfl | decide | simp) ?_
  refine WG.y rfl rfl (by decide) (Yl.indexN tab_ok rfl rfl rfl rfl rfl rfl (fun _ => rfl) (by intro _; (simp only [List.length_cons, List.length_nil]; omega)) (by intro _; first | exact fun _ _ _ _ => rfl | exact RS.has (by assumption) | exact fun _ _ _ _ => (by assumption) | exact HasMem.ownD 0 rfl)) ?_
  refine WL.guardT rfl (by first | rfl | decide | simp) ?_
  refine' WG.y rfl rfl (by decide) (Yl.load1 tab_ok rfl rfl rfl (fun _ => rfl) ?r1 rfl ?h1) ?_
  case r1 => exact Rd.slD 0 rfl (by simp)
  case h1 => rfl
  refine WL.guardT rfl (by first | rfl | decide | simp) ?_
  refine WG.y rfl rfl (by decide) (Yl.eqS rfl rfl rfl (fun _ => rfl)) ?_
  refine WG.y rfl rfl (by decide) (Yl.pand rfl rfl rfl (fun _ => rfl) (by intro h1 h2; simp_all <;> omega)) ?_
  refine WG.run tab_ok 1 rfl ?_
  refine WL.guardT rfl (by first | rfl | decide | simp) ?_
  refine WG.y rfl rfl (by decide) (pureV_ok tab_ok rfl (fun _ => rfl)) ?_
  refine WL.guardT rfl (by first | rfl | decide | simp) ?_
  refine WG.y rfl rfl (by decide) (pureV_ok tab_ok rfl (fun _ => rfl)) ?_
  refine WL.guardT rfl (by first | rfl | decide | simp) ?_
  refine WG.y rfl rfl (by decide) (pureV_ok tab_ok rfl (fun _ => rfl)) ?_
  refine WL.guardT rfl (by first | rfl | decide | simp) ?_
  refine WG.y rfl rfl (by decide) (pureV_ok tab_ok rfl (fun _ => rfl)) ?_
  refine WG.y rfl rfl (by decide) (Yl.pand rfl rfl rfl (fun _ => rfl) (by intro h1 h2; simp_all <;> omega)) ?_
  refine WG.run tab_ok 1 rfl ?_
  refine WL.guardT rfl (by first | rfl | decide | simp) ?_
  refine WG.y rfl rfl (by decide) (pureV_ok tab_ok rfl (fun _ => rfl)) ?_
  refine WL.guardT rfl (by first | rfl | decide | simp) ?_
  refine WG.callV (v := .bool true) en22 rfl rfl (by decide) (CallOp.mk' rfl rfl rfl rfl) (fun _ => rfl) (fun hg => by
    have h := JValid_V (R := R) hG (j := [49, 32, 51, 32, 48, 50, 52, 100, 48, 49, 50, 55, 32, 97, 98, 99, 10, 50, 32, 49, 32, 48, 48, 55, 57, 48, 48, 55, 57, 32, 120, 10]) (by decide)
    rw [sane_valid] at h
    exact h) ?_
  refine WG.y rfl rfl (by decide) (Yl.pand rfl rfl rfl (fun _ => rfl) (by intro h1 h2; simp_all <;> omega)) ?_
  refine WG.run tab_ok 1 rfl ?_
  refine WG.nil ?_
  refine WE.nxt ?_
  refine W.ret ?_
  refine WE.retF tab_ok [_] rfl ⟨rfl, trivial⟩ (RLe.refl _) ?_
  exact by first | rfl | simp

end Go.Proofs.YtjacpnojnoompaaDoor

/- The journal: a cut leaves the first texts, and appending writes over the torn line. No condition. -/
set_option linter.unusedSimpArgs false
set_option linter.unusedVariables false
namespace Go.Proofs.YtjacpnojnoompaaDoor
open Go Go.RowKit Go.Proofs.YtjacpnojnoompaaDoor.K Go.Proofs.YtjacpnojnoompaaDoor.M

end Go.Proofs.YtjacpnojnoompaaDoor

/- The journal: a line in which one byte was changed is not taken. No condition. -/
set_option linter.unusedSimpArgs false
set_option linter.unusedVariables false
namespace Go.Proofs.YtjacpnojnoompaaDoor
open Go Go.RowKit Go.Proofs.YtjacpnojnoompaaDoor.K Go.Proofs.YtjacpnojnoompaaDoor.M

theorem count10 {l : List UInt8} {f : Nat} (h : f < l.length) : (byteAt l f = 10 → (l.take (f + 1)).count 10 = (l.take f).count 10 + 1) ∧ (¬ byteAt l f = 10 → (l.take (f + 1)).count 10 = (l.take f).count 10) := by
  rw [← List.take_append_getElem h, List.count_append, byteAt_get h]
  constructor
  · intro e
    have : l[f] = 10 := by
      apply UInt8.toNat.inj
      have : ((10 : UInt8)).toNat = 10 := rfl
      omega
    rw [this]; rfl
  · intro e
    have : ¬ l[f] = 10 := fun h => e (by rw [h]; rfl)
    simp [List.count_cons, this]

set_option maxHeartbeats 2000000 in
theorem JournalChanged_F {R : Ro} {u : Int} {v : UInt8} {a : Option Addr} {c : Nat} {xs : List Int} (ha : RS R 1 encI a xs) (hu : 0 ≤ u ∧ u ≤ 65535) (hG : GlobJ R) (hc : xs.length ≤ c) (w0 : World) : K.Fn Tryd.prog 3 [.slice a xs.length c, .int .u16 u, .int .u8 v.toNat] w0 R [] (fun v R' E' => v = .bool true) := by
  
  refine Fn.enter (n := 77) Tryd.func3 rfl rfl (Nat.le_of_ble_eq_true rfl) rfl ?_
  refine W.seq ?_
  refine W.region _ ?_
  refine WG.run tab_ok 1 rfl ?_
  refine WG.nil ?_
  refine WE.nxt ?_
  refine W.seq ?_
  refine W.seq ?_
  refine W.region _ ?_
  refine WG.run tab_ok 3 rfl ?_
  refine WG.nil ?_
  refine WE.nxt ?_
  refine W.condD rfl (fun hc0 => ?_) (fun hc0 => ?_)
  · try dsimp only at hc0
    refine W.seq ?_
    refine W.region _ ?_
    refine WG.callV en13 rfl rfl (by decide) (CallOp.mk' rfl rfl rfl rfl) (fun _ => rfl) (fun hg => JSane_V hG) ?_
    refine WG.run tab_ok 1 rfl ?_
    refine WG.nil ?_
    refine WE.nxt ?_
    refine W.ret ?_
    refine WE.then_ret ?_
    refine WE.retF tab_ok [_] rfl ⟨rfl, trivial⟩ ((by first | exact RLe.refl _ | exact hR2 | exact hR2.trans hR3)) ?_
    exact rfl
  · try dsimp only at hc0
    refine W.skip ?_
    refine WE.nxt ?_
    refine W.seq ?_
    refine W.region _ ?_
    refine WG.run tab_ok 1 rfl ?_
    refine WL.call en15 rfl rfl (by decide) (CallOp.mkT rfl rfl rfl rfl) (New_C w0 _ hc) ?_
    rintro _ _ _ - ⟨b, rfl, rfl, rfl⟩
    have hz := ha.take 2000
    refine WL.call en14 rfl rfl (by decide) (CallOp.mkT rfl rfl rfl rfl) (Texts_C w0 hz) ?_
    rintro _ _ _ - ⟨a3, c3, cn, ys, rfl, hok, hy5, rfl, rfl⟩
    have hol := okl_len hok
    have hszj := str_size (linesF 1 ys)
    have hrd := readJ_lines0 hok (by omega)
    refine WL.cap 0 rfl ?_
    intro hcap
    rw [List.length_map] at hcap
    refine WL.freeze (enc := encT) (xs := ys) 0 rfl ?_
    intro R2 hR2 hys
    have hG := hG.mono hR2
    have hz := hz.mono hR2
    refine WG.run tab_ok 5 rfl ?_
    refine WG.nil ?_
    refine WE.nxt ?_
    refine W.seq ?_
    refine W.seq ?_
    refine W.region _ ?_
    refine WG.run tab_ok 4 rfl ?_
    refine WG.y rfl rfl (by decide) (pureV_ok tab_ok rfl (by first | exact fun _ => rfl | exact fun h => h | (intro h; simp_all))) ?_
    refine WG.y rfl rfl (by decide) (pureV_ok tab_ok rfl (by first | exact fun _ => rfl | exact fun h => h | (intro h; simp_all))) ?_
    refine WG.y rfl rfl (by decide) (Yl.por rfl rfl rfl (fun _ => rfl) (by intro h1 h2; first | rfl | exact h2 | (simp_all <;> omega))) ?_
    refine WG.nil ?_
    refine WE.nxt ?_
    refine W.cond rfl (fun hc1 => ?_) (fun hc1 => ?_)
    · try simp only [decide_eq_true_eq, decide_eq_false_iff_not, beq_iff_eq, bne_iff_ne, beq_eq_false_iff_ne, bne_eq_false_iff_eq, ne_eq, Bool.or_eq_true, Bool.or_eq_false_iff, Bool.and_eq_true, Bool.and_eq_false_imp, Bool.not_eq_true, Bool.not_eq_true', Bool.not_eq_false', Classical.not_not, Int.not_lt, Int.not_le, gt_iff_lt, ge_iff_le] at hc1
      refine W.seq ?_
      refine W.region _ ?_
      refine WG.callV en13 rfl rfl (by decide) (CallOp.mk' rfl rfl rfl rfl) (fun _ => rfl) (fun hg => JSane_V hG) ?_
      refine WG.run tab_ok 1 rfl ?_
      refine WG.nil ?_
      refine WE.nxt ?_
      refine W.ret ?_
      refine WE.then_ret ?_
      refine WE.retF tab_ok [_] rfl ⟨rfl, trivial⟩ ((by first | exact RLe.refl _ | exact hR2 | exact hR2.trans hR3)) ?_
      exact rfl
    · try simp only [decide_eq_true_eq, decide_eq_false_iff_not, beq_iff_eq, bne_iff_ne, beq_eq_false_iff_ne, bne_eq_false_iff_eq, ne_eq, Bool.or_eq_true, Bool.or_eq_false_iff, Bool.and_eq_true, Bool.and_eq_false_imp, Bool.not_eq_true, Bool.not_eq_true', Bool.not_eq_false', Classical.not_not, Int.not_lt, Int.not_le, gt_iff_lt, ge_iff_le] at hc1
      have hj0 : 0 < (linesF 1 ys).length := by have := hc1.1; omega
      have hv0 : v ≠ 0 := by rintro rfl; exact hc1.2 rfl
      have hs1 := Int.emod_nonneg u (show ((str (linesF 1 ys)).size : Int) ≠ 0 by omega)
      have hs2 := Int.emod_lt_of_pos u (show 0 < ((str (linesF 1 ys)).size : Int) by omega)
      obtain ⟨i, hie⟩ := Int.eq_ofNat_of_zero_le hs1
      have hil : i < (linesF 1 ys).length := by omega
      have hne : (linesF 1 ys)[i]? ≠ some ((linesF 1 ys).getD i 0 ^^^ v) := by
        have e2 : (linesF 1 ys).getD i 0 = (linesF 1 ys)[i] := by rw [List.getD_eq_getElem?_getD, List.getElem?_eq_getElem hil, Option.getD_some]
        rw [List.getElem?_eq_getElem hil, e2]
        intro e
        exact xor_ne hv0 (Option.some.inj e).symm
      obtain ⟨p, r, hpl, hset, hrs, hpi, hcnt⟩ := changed_lines ys 1 i ((linesF 1 ys).getD i 0 ^^^ v) hok hil hne
      have hlp : (ys.take p).length = p := by rw [List.length_take]; omega
      have hlp2 : p = (ys.take p).length := hlp.symm
      have hokp := OkL_take hok p
      have hrdc : readJ ((linesF 1 ys).set i ((linesF 1 ys).getD i 0 ^^^ v)) = (ys.take p, (linesF 1 (ys.take p)).length) := by
        rw [hset]
        refine readJ_lines hokp (by rw [hlp, show (p : Int) + 1 = 1 + p by omega]; exact hrs) ?_
        rw [← hset, List.length_set]
        omega
      refine W.skip ?_
      refine WE.nxt ?_
      refine W.seq ?_
      refine W.region _ ?_
      refine WG.run tab_ok 1 rfl ?_
      refine WG.y rfl rfl (by decide) (Yl.convId tab_ok rfl rfl rfl rfl rfl rfl (fun _ => rfl) (by intro _; (try dsimp only); first | exact u64_id ⟨by omega, by omega⟩ | exact i64_wrap ⟨by omega, by omega⟩ | exact u8_id ⟨by omega, by omega⟩)) ?_
      refine WG.run tab_ok 2 rfl ?_
      refine WG.y rfl rfl (by decide) (Yl.rem rfl rfl rfl (fun _ => rfl) (by intro _; (try dsimp only) <;> omega) (by intro _; (try dsimp only) <;> omega)) ?_
      rw [hie]
      refine WG.run tab_ok 1 rfl ?_
      refine WG.nil ?_
      refine WE.nxt ?_
      refine W.seq ?_
      refine W.region _ ?_
      refine WG.run tab_ok 1 rfl ?_
      refine WL.ef rfl rfl (by decide) (Ef.bytesOf tab_ok rfl rfl rfl rfl rfl rfl rfl rfl (fun b39 c39 m39 => ?_))
      refine WG.run tab_ok 1 rfl ?_
      refine WG.nil ?_
      refine WE.nxt ?_
      refine W.seq ?_
      refine W.region _ ?_
      refine WG.run tab_ok 2 rfl ?_
      refine WG.y rfl rfl (by decide) (Yl.indexN tab_ok rfl rfl rfl rfl rfl rfl (fun _ => rfl) (by intro _; (try dsimp only) <;> omega) (by intro _; first | exact fun _ _ _ _ => rfl | exact RS.has (by assumption) | exact fun _ _ _ _ => (by assumption) | exact HasMem.ownD 0 rfl | exact HasMem.ownD 1 rfl | exact HasMem.ownD 2 rfl | exact HasMem.ownD 3 rfl | exact HasMem.ownD 4 rfl | exact HasMem.ownD 5 rfl)) ?_
      refine' WG.y rfl rfl (by decide) (Yl.load1 tab_ok rfl rfl rfl (fun _ => rfl) ?r1 rfl ?h1) ?_
      case r1 => exact Rd.byB 0 rfl (by omega)
      case h1 => rfl
      refine WG.run tab_ok 1 rfl ?_
      refine WG.y rfl rfl (by decide) (Yl.xorB (a := (linesF 1 ys).getD i 0) (b := v) rfl rfl rfl (fun _ => rfl)) ?_
      refine WG.y rfl rfl (by decide) (Yl.indexN tab_ok rfl rfl rfl rfl rfl rfl (fun _ => rfl) (by intro _; (try dsimp only) <;> omega) (by intro _; first | exact fun _ _ _ _ => rfl | exact RS.has (by assumption) | exact fun _ _ _ _ => (by assumption) | exact HasMem.ownD 0 rfl | exact HasMem.ownD 1 rfl | exact HasMem.ownD 2 rfl | exact HasMem.ownD 3 rfl | exact HasMem.ownD 4 rfl | exact HasMem.ownD 5 rfl)) ?_
      refine WL.efN rfl rfl (Ef.storeB (i := i) (c := ((linesF 1 ys).getD i 0 ^^^ v)) (l := linesF 1 ys) 0 tab_ok rfl rfl rfl rfl rfl rfl (by omega) ?_)
      refine WG.nil ?_
      refine WE.nxt ?_
      refine W.seq ?_
      refine W.region _ ?_
      refine WG.run tab_ok 1 rfl ?_
      refine WG.nil ?_
      refine WE.nxt ?_
      refine W.seq ?_
      refine W.seq ?_
      refine W.region _ ?_
      refine WG.run tab_ok 1 rfl ?_
      refine WG.nil ?_
      refine WE.nxt ?_
      refine W.block ?_
      refine W.loopK (β := Nat × Nat) (fun (q, k) => k ≤ i ∧ q = ((linesF 1 ys).take k).count 10) (fun (q, k) => [(11, true, .int .i64 (q : Int)), (12, true, .int .i64 (k : Int))]) [7, 8, 9, 10] [_, _, _, _] [] _ rfl (fun (q, k) => []) (fun (q, k) => i - k) ((0, 0)) (⟨Nat.zero_le _, by simp⟩) ⟨rfl, rfl, rfl, rfl, rfl, rfl, rfl⟩ (by (repeat (first | exact List.Sublist.refl _ | exact List.nil_sublist _ | apply List.Sublist.cons_cons | apply List.Sublist.cons)); done) ?_
      intro zz hst
      obtain ⟨q, k⟩ := zz
      dsimp only [zipE, setAll, List.cons_append, List.nil_append, List.set_cons_zero, List.set_cons_succ] at hst ⊢
      obtain ⟨hkle, hq⟩ := hst
      have hql : q ≤ 6000 := by rw [hq]; exact Nat.le_trans (List.count_le_length) (by rw [List.length_take]; omega)
      refine W.seq ?_
      refine W.seq ?_
      refine W.region _ ?_
      refine WG.run tab_ok 3 rfl ?_
      refine WG.nil ?_
      refine WE.nxt ?_
      refine W.condD rfl (fun hc2 => ?_) (fun hc2 => ?_)
      · try dsimp only at hc2
        have hki : k < i := by omega
        have hct := count10 (l := linesF 1 ys) (f := k) (by omega)
        refine W.skip ?_
        refine WE.nxt ?_
        refine W.seq ?_
        refine W.block ?_
        refine W.seq ?_
        refine W.region _ ?_
        refine WG.run tab_ok 2 rfl ?_
        refine WG.y rfl rfl (by decide) (Yl.sidx tab_ok rfl rfl rfl rfl rfl (fun _ => rfl) (by intro _; constructor <;> (try dsimp only) <;> omega)) ?_
        refine WG.run tab_ok 1 rfl ?_
        refine WG.nil ?_
        refine WE.nxt ?_
        refine W.condE rfl (fun hc3 => ?_) (fun hc3 => ?_)
        · try dsimp only at hc3
          refine W.region _ ?_
          refine WG.run tab_ok 1 rfl ?_
          refine WG.y rfl rfl (by decide) (Yl.add rfl rfl rfl (fun _ => rfl) (by intro _; constructor <;> (try dsimp only) <;> omega)) ?_
          refine WG.run tab_ok 1 rfl ?_
          refine WG.nil ?_
          refine WE.blk _ ?_
          refine WE.nxt ?_
          refine W.region _ ?_
          refine WG.run tab_ok 1 rfl ?_
          refine WG.y rfl rfl (by decide) (Yl.add rfl rfl rfl (fun _ => rfl) (by intro _; constructor <;> (try dsimp only) <;> omega)) ?_
          refine WG.run tab_ok 1 rfl ?_
          refine WG.nil ?_
          refine WE.again ((q + 1, k + 1)) (⟨by dsimp only; omega, by dsimp only; rw [hct.1 hc3, hq]⟩) (by (try dsimp only); omega) ⟨rfl, rfl, rfl, rfl, rfl, rfl, rfl⟩ (RLe.refl _) (by (repeat (first | exact List.Sublist.refl _ | exact List.nil_sublist _ | apply List.Sublist.cons_cons | apply List.Sublist.cons)); done)
        · try dsimp only at hc3
          refine W.skip ?_
          refine WE.blk _ ?_
          refine WE.nxt ?_
          refine W.region _ ?_
          refine WG.run tab_ok 1 rfl ?_
          refine WG.y rfl rfl (by decide) (Yl.add rfl rfl rfl (fun _ => rfl) (by intro _; constructor <;> (try dsimp only) <;> omega)) ?_
          refine WG.run tab_ok 1 rfl ?_
          refine WG.nil ?_
          refine WE.again ((q, k + 1)) (⟨by dsimp only; omega, by dsimp only; rw [hct.2 hc3, hq]⟩) (by (try dsimp only); omega) ⟨rfl, rfl, rfl, rfl, rfl, rfl, rfl⟩ (RLe.refl _) (by (repeat (first | exact List.Sublist.refl _ | exact List.nil_sublist _ | apply List.Sublist.cons_cons | apply List.Sublist.cons)); done)
      · try dsimp only at hc2
        obtain rfl : i = k := by omega
        obtain rfl : p = q := by omega
        refine W.exit ?_
        refine WE.then_exit ?_
        refine WE.then_exit ?_
        refine WE.blk_exit ?_
        refine WE.nxt ?_
        refine W.seq ?_
        refine W.region _ ?_
        refine WG.run tab_ok 1 rfl ?_
        refine WG.y rfl rfl (by decide) (Yl.bytesB 0 tab_ok rfl rfl rfl rfl rfl rfl rfl rfl rfl (by rw [List.length_set]) (fun _ => rfl)) ?_
        refine WL.call en16 rfl rfl (by decide) (CallOp.mkT rfl rfl rfl rfl) (JRead_C hG (j := ((linesF 1 ys).set i ((linesF 1 ys).getD i 0 ^^^ v))) (by rw [List.length_set]; omega) w0) ?_
        rintro _ _ _ - ⟨a9, c9, rfl, rfl, rfl⟩
        rw [show (readJ ((linesF 1 ys).set i ((linesF 1 ys).getD i 0 ^^^ v))).1 = (ys.take p) from by rw [hrdc], show (readJ ((linesF 1 ys).set i ((linesF 1 ys).getD i 0 ^^^ v))).2 = (linesF 1 (ys.take p)).length from by rw [hrdc]]
        refine WL.freeze (enc := encT) (xs := (ys.take p)) 0 rfl ?_
        intro R3 hR3 hm1
        have hG := hG.mono hR3
        have hz := hz.mono hR3
        have hys := hys.mono hR3
        refine WG.run tab_ok 5 rfl ?_
        refine WG.nil ?_
        refine WE.nxt ?_
        refine W.seq ?_
        refine W.region _ ?_
        refine WG.run tab_ok 3 rfl ?_
        refine WG.y rfl rfl (by decide) (Yl.sliceH tab_ok rfl rfl rfl rfl rfl (fun _ => rfl) (by intro _; omega) rfl) ?_
        refine WG.callV (v := .bool true) en17 rfl rfl (by decide) (CallOp.mk' rfl rfl rfl rfl) (fun _ => rfl) (fun hg => by
          have h := SameT_V (ca := c9) (cb := c3) (m := p) hm1 (hys.take p) hlp2
          rw [decide_eq_true (rfl)] at h
          exact h) ?_
        refine WG.run tab_ok 1 rfl ?_
        refine WL.guardT rfl (by first | rfl | decide | (simp; done) | (simp; omega)) ?_
        refine WG.y rfl rfl (by decide) (pureV_ok tab_ok rfl (fun _ => rfl)) ?_
        refine WL.guardT rfl (by first | rfl | decide | (simp; done) | (simp; omega)) ?_
        refine WG.y rfl rfl (by decide) (pureV_ok tab_ok rfl (fun _ => rfl)) ?_
        refine WL.guardT rfl (by first | rfl | decide | (simp; done) | (simp; omega)) ?_
        refine WG.y rfl rfl (by decide) (pureV_ok tab_ok rfl (fun _ => rfl)) ?_
        refine WG.y rfl rfl (by decide) (Yl.pand rfl rfl rfl (fun _ => rfl) (by intro h1 h2; first | rfl | exact h2 | (simp_all <;> omega))) ?_
        refine WG.run tab_ok 1 rfl ?_
        refine WL.guardT rfl (by first | rfl | decide | (simp; done) | (simp; omega)) ?_
        refine WG.callV en13 rfl rfl (by decide) (CallOp.mk' rfl rfl rfl rfl) (fun _ => rfl) (fun hg => JSane_V hG) ?_
        refine WG.y rfl rfl (by decide) (Yl.pand rfl rfl rfl (fun _ => rfl) (by intro h1 h2; first | rfl | exact h2 | (simp_all <;> omega))) ?_
        refine WG.run tab_ok 1 rfl ?_
        refine WG.nil ?_
        refine WE.nxt ?_
        refine W.ret ?_
        refine WE.retF tab_ok [_] rfl ⟨rfl, trivial⟩ ((by first | exact RLe.refl _ | exact hR2 | exact hR2.trans hR3)) ?_
        exact congrArg Value.bool (by simp; try omega)

end Go.Proofs.YtjacpnojnoompaaDoor

/- Chapter 16, plain: what the line's functions compute. No condition. -/
namespace Go.Proofs.YtjacpnojnoompaaDoor.M
open Go Go.Proofs.YtjacpnojnoompaaDoor.K

def BadC (cap classes ticks : Int) : Prop := cap < 1 ∨ 4000 < cap ∨ classes < 1 ∨ 6 < classes ∨ ticks < 0 ∨ 2000 < ticks
instance (cap classes ticks : Int) : Decidable (BadC cap classes ticks) := by unfold BadC; infer_instance
def flowGo (classes : Int) : List Pkt → Int
  | [] => 0
  | p :: ps => if classes ≤ p.flow then 2 else flowGo classes ps
def checkE (cap classes ticks : Int) (ps : List Pkt) : Int := if BadC cap classes ticks then 2 else flowGo classes ps
theorem Ok.at {ps : List Pkt} (h : Ok ps) {p : Pkt} (hp : p ∈ ps) : 0 ≤ p.flow ∧ p.flow < 60 ∧ 0 ≤ p.time ∧ p.time ≤ 2000 ∧ 1 ≤ p.size ∧ p.size ≤ 1500 := by
  have := h.each p hp; unfold BadP at this; omega
def goodF (ps : List Pkt) (ms : MS) (_ : Unit) : Prop := ms.before ≤ ps.length
theorem firstR_lt (ps : List Pkt) (ms : MS) : firstR ps ms < ps.length ∧ -1 ≤ firstR ps ms := by
  unfold firstR
  dsimp only
  split <;> omega
/-- the bytes of a class that have been sent -/
def qGo (cls t : Int) : Int → Nat → List (List Int) → Option Int
  | acc, _, [] => some acc
  | acc, c, l :: ls => if (c : Int) ≠ cls ∧ cls ≠ -1 then qGo cls t acc (c + 1) ls else if (l.length : Int) ≤ t then none else qGo cls t (acc + nth l t.toNat) (c + 1) ls
def queueR (ps : List Pkt) (sent : List (List Int)) (cls t : Int) : Int × Int :=
  if cls < -1 ∨ (sent.length : Int) ≤ cls ∨ t < 0 then (0, 0) else
    match qGo cls t 0 0 sent with
    | none => (0, 0)
    | some s => (pbytes cls t ps - s, pbytes cls (t + 1) ps - s)
end Go.Proofs.YtjacpnojnoompaaDoor.M

/- What Traffic makes is a valid trace; laws of runs, plain. No condition. -/
namespace Go.Proofs.YtjacpnojnoompaaDoor.M
open Go Go.Proofs.YtjacpnojnoompaaDoor.K

/-! ### sizes and a capacity that are so many times as great -/
def scP (k : Int) (p : Pkt) : Pkt := { p with size := p.size * k }
theorem nth_map_lt {α β : Type} [Inhabited α] [Inhabited β] (f : α → β) {l : List α} {i : Nat} (h : i < l.length) : nth (l.map f) i = f (nth l i) := by
  rw [nth_eq (by simpa using h), nth_eq h]; simp
theorem firstR_scale (ps : List Pkt) (k : Int) (ms : MS) (l : Int) : firstR (ps.map (scP k)) { ms with left := l } = firstR ps ms := by
  unfold firstR
  dsimp only
  rw [List.length_map]
  by_cases h : skipTo ms.begun ms.before < ps.length
  · rw [nth_map_lt _ h]; rfl
  · rw [if_neg (by omega), if_neg (by omega)]

structure Sc (k : Int) (s s' : RS Unit) : Prop where
  cur : s'.cur = s.cur
  rest : s'.rest = s.rest * k
  done : s'.done = s.done
  ms : s'.ms = { s.ms with left := s.ms.left * k }
  pos : 0 ≤ s.cur → 1 ≤ s.rest ∧ s.cur.toNat < s.done.length
section
variable {ps : List Pkt} {k : Int} {s s' : RS Unit}
theorem Sc.pickup (hs : ∀ p ∈ ps, 1 ≤ p.size) (hl : s.done.length = ps.length) (h : Sc k s s') : Sc k (pickup ps (fifo ps) s) (pickup (ps.map (scP k)) (fifo (ps.map (scP k))) s') := by
  unfold M.pickup
  rw [h.cur]
  by_cases hc : 0 ≤ s.cur
  · rw [if_pos hc, if_pos hc]; exact h
  · rw [if_neg hc, if_neg hc]
    have hf : (fifo (ps.map (scP k)) s'.ms s'.sg) = (firstR ps s.ms, skipTo s.ms.begun s.ms.before, ()) := by
      unfold fifo; rw [h.ms, firstR_scale]
    rw [hf]
    have hf2 : fifo ps s.ms s.sg = (firstR ps s.ms, skipTo s.ms.begun s.ms.before, ()) := rfl
    rw [hf2]
    dsimp only
    have hlt := (firstR_lt ps s.ms).1
    by_cases hr : firstR ps s.ms < 0
    · rw [if_pos hr, if_pos hr]
      exact ⟨rfl, h.rest, h.done, by rw [h.ms], fun h0 => by dsimp only at h0; omega⟩
    · rw [if_neg hr, if_neg hr]
      have hi : (firstR ps s.ms).toNat < ps.length := by omega
      exact ⟨rfl, by dsimp only; rw [nth_map_lt _ hi]; rfl, h.done, by rw [h.ms], fun h0 => ⟨hs _ (nth_mem hi), by rw [hl]; exact hi⟩⟩
theorem Sc.send (hk : 1 ≤ k) {t : Nat} (h : Sc k s s') (hc : 0 ≤ s.cur) (hl : 0 < s.ms.left) : Sc k (send ps t s) (send (ps.map (scP k)) t s') ∧ (send ps t s).ms.left < s.ms.left ∧ (send ps t s).done.length = s.done.length := by
  obtain ⟨h1, h2⟩ := h.pos hc
  have hl' : s'.ms.left = s.ms.left * k := by rw [h.ms]
  have hn : (if s'.ms.left < s'.rest then s'.ms.left else s'.rest) = (if s.ms.left < s.rest then s.ms.left else s.rest) * k := by
    rw [hl', h.rest]
    by_cases hlt : s.ms.left < s.rest
    · rw [if_pos hlt, if_pos (Int.mul_lt_mul_of_pos_right hlt (by omega))]
    · rw [if_neg hlt, if_neg (by have := Int.mul_le_mul_of_nonneg_right (show s.rest ≤ s.ms.left by omega) (show 0 ≤ k by omega); omega)]
  have hn1 : 1 ≤ (if s.ms.left < s.rest then s.ms.left else s.rest) ∧ (if s.ms.left < s.rest then s.ms.left else s.rest) ≤ s.rest := by split <;> omega
  unfold M.send
  rw [hn]
  generalize (if s.ms.left < s.rest then s.ms.left else s.rest) = n at hn1 ⊢
  have hz : s'.rest - n * k = (s.rest - n) * k := by rw [h.rest, Int.sub_mul]
  have hz2 : (s.rest - n) * k = 0 ↔ s.rest - n = 0 := by
    rw [Int.mul_eq_zero]; omega
  dsimp only
  rw [hz]
  refine ⟨⟨?_, rfl, ?_, ?_, ?_⟩, by omega, by split <;> simp⟩
  · by_cases hq : s.rest - n = 0
    · rw [if_pos (hz2.2 hq), if_pos hq]
    · simp only [hq, if_false, show ¬ (s.rest - n) * k = 0 from fun h => hq (hz2.1 h)]; exact h.cur
  · by_cases hq : s.rest - n = 0
    · dsimp only; rw [if_pos (hz2.2 hq), if_pos hq, h.done, h.cur]
    · simp only [hq, if_false, show ¬ (s.rest - n) * k = 0 from fun h => hq (hz2.1 h)]; exact h.done
  · rw [h.ms]; simp only [Int.sub_mul]
  · dsimp only
    by_cases hq : s.rest - n = 0
    · rw [if_pos hq, if_pos hq]; intro h0; omega
    · rw [if_neg hq, if_neg hq]
      intro _
      exact ⟨by omega, h2⟩
theorem Sc.inner (hs : ∀ p ∈ ps, 1 ≤ p.size) (hk : 1 ≤ k) {t : Nat} : ∀ (j j' : Nat) (s s' : RS Unit), Sc k s s' → s.done.length = ps.length → s.ms.left ≤ j → s'.ms.left ≤ j' →
    Sc k (inner ps (fifo ps) t j s) (inner (ps.map (scP k)) (fifo (ps.map (scP k))) t j' s') ∧ (inner ps (fifo ps) t j s).done.length = ps.length
  | 0, j', s, s', h, hl, hj, hj' => by
    have hl' : s'.ms.left = s.ms.left * k := by rw [h.ms]
    have : s'.ms.left ≤ 0 := by rw [hl']; exact Int.mul_nonpos_of_nonpos_of_nonneg (by omega) (by omega)
    rw [inner_stop (by omega), inner_stop this]
    exact ⟨h, hl⟩
  | j + 1, j', s, s', h, hl, hj, hj' => by
    have hl' : s'.ms.left = s.ms.left * k := by rw [h.ms]
    by_cases h0 : s.ms.left ≤ 0
    · have : s'.ms.left ≤ 0 := by rw [hl']; exact Int.mul_nonpos_of_nonpos_of_nonneg (by omega) (by omega)
      rw [inner_stop h0, inner_stop this]
      exact ⟨h, hl⟩
    · have h0' : 0 < s'.ms.left := by rw [hl']; exact Int.mul_pos (by omega) (by omega)
      have hp := h.pickup hs hl
      have hps := pickup_same ps (fifo ps) s
      have hps' := pickup_same (ps.map (scP k)) (fifo (ps.map (scP k))) s'
      by_cases hc : (M.pickup ps (fifo ps) s).cur < 0
      · rw [inner_none hj (by omega) hc, inner_none hj' h0' (by rw [hp.cur]; exact hc)]
        exact ⟨hp, by rw [hps.2.2.2]; exact hl⟩
      · rw [inner_some hj (by omega) (by omega), inner_some hj' h0' (by rw [hp.cur]; omega)]
        obtain ⟨g1, g2, g3⟩ := hp.send hk (t := t) (by omega) (by rw [hps.1]; omega)
        have e1 : (M.send (ps.map (scP k)) t (M.pickup (ps.map (scP k)) (fifo (ps.map (scP k))) s')).ms.left = (M.send ps t (M.pickup ps (fifo ps) s)).ms.left * k := by rw [g1.ms]
        have e2 : (M.send ps t (M.pickup ps (fifo ps) s)).ms.left * k ≤ s.ms.left * k - k := by
          have : (M.send ps t (M.pickup ps (fifo ps) s)).ms.left ≤ s.ms.left - 1 := by rw [hps.1] at g2; omega
          have := Int.mul_le_mul_of_nonneg_right this (show 0 ≤ k by omega)
          rw [Int.sub_mul] at this; omega
        refine Sc.inner hs hk j (j' - 1) _ _ g1 (by rw [g3, hps.2.2.2]; exact hl) (by rw [hps.1] at g2; omega) (by rw [e1]; omega)
theorem Sc.ticks (hs : ∀ p ∈ ps, 1 ≤ p.size) (hk : 1 ≤ k) {c : Int} (hc : 0 ≤ c) : ∀ (m t : Nat) (s s' : RS Unit), Sc k s s' → s.done.length = ps.length →
    Sc k (ticksFrom ps (fifo ps) c t m s) (ticksFrom (ps.map (scP k)) (fifo (ps.map (scP k))) (c * k) t m s')
  | 0, t, s, s', h, hl => h
  | m + 1, t, s, s', h, hl => by
    have h1 : Sc k { s with ms := { s.ms with now := t, left := c }, sent := s.sent.map fun l => l ++ [nth l t] } { s' with ms := { s'.ms with now := t, left := c * k }, sent := s'.sent.map fun l => l ++ [nth l t] } :=
      ⟨h.cur, h.rest, h.done, by dsimp only; rw [h.ms], h.pos⟩
    have hck : 0 ≤ c * k := Int.mul_nonneg hc (by omega)
    obtain ⟨h2, h3⟩ := Sc.inner hs hk (t := t) c.toNat (c * k).toNat _ _ h1 hl (by dsimp only; omega) (by dsimp only; omega)
    exact Sc.ticks hs hk hc m (t + 1) _ _ h2 h3
end
end Go.Proofs.YtjacpnojnoompaaDoor.M

/- A law over a list of numbers: from its contract to its row. No condition. -/
namespace Go.Proofs.YtjacpnojnoompaaDoor.K
open Go Go.RowKit

theorem mem0 (W : World) : Mem W W (fun _ => none) [] :=
  ⟨Below.refl _ W, fun b cs h => (by cases h), fun e he => (by cases he), fun e he => (by cases he), List.Pairwise.nil⟩
theorem encI_flat : ∀ (zs : List Int), (zs.map encI).flatten = zs.map (Value.int .i64)
  | [] => rfl
  | z :: zs => by simp [encI, encI_flat zs]
theorem rs_of_ints {W : World} {a : Addr} {zs : List Int} (hcell : ∀ i, i < zs.length → W.cell? (a.add i) = some (.int .i64 (zs.getD i 0))) (hl : zs.length ≤ 9223372036854775807) :
    ∃ R, Mem W W R [] ∧ RS R 1 encI (some a) zs := by
  by_cases h0 : zs = []
  · subst h0
    exact ⟨_, mem0 W, by simp, .inl rfl, by simp⟩
  · have hpos : 0 < zs.length := List.length_pos_iff.2 h0
    have h1 := hcell 0 hpos
    unfold World.cell? at h1
    cases hh : W.heap[(a.add 0).block]? with
    | none => simp [hh] at h1
    | some o =>
      cases o with
      | cells arr T fz =>
        have hs : a.spot = none := by
          simp only [hh] at h1
          cases hsp : a.spot with
          | none => rfl
          | some x => simp [Addr.add, hsp] at h1
        have hb : (a.add 0).block = a.block := rfl
        rw [hb] at hh
        refine ⟨fun b => if b = a.block then some arr.toList else none, ⟨Below.refl _ W, fun b cs h => ?_, fun e he => (by cases he), fun e he => (by cases he), List.Pairwise.nil⟩, by simp [encI], .inr ⟨a.block, a.off, arr.toList, ?_, by simp, fun j v hv => ?_⟩, by simpa using hl⟩
        · by_cases hba : b = a.block
          · subst hba
            simp at h; subst h
            exact ⟨T, fz, by simpa using hh⟩
          · simp [hba] at h
        · cases a; simp only at hs; subst hs; rfl
        · rw [encI_flat] at hv
          have hj : j < zs.length := by
            have := (List.getElem?_eq_some_iff.1 hv).1
            simpa using this
          have h2 := hcell j hj
          unfold World.cell? at h2
          have hbj : (a.add j).block = a.block := by unfold Addr.add; split <;> rfl
          have hsj : (a.add j).spot = a.spot := by unfold Addr.add; split <;> simp [hs]
          have hoj : (a.add j).off = a.off + j := by unfold Addr.add; split <;> simp [*]
          rw [hbj, hh] at h2
          simp only [hsj, hs, hoj] at h2
          rw [List.getElem?_map, List.getElem?_eq_getElem hj] at hv
          simp only [Option.map_some, Option.some.injEq] at hv
          subst hv
          have e1 : zs.getD j 0 = zs[j] := by simp [List.getD, List.getElem?_eq_getElem hj]
          rw [e1] at h2
          simpa using h2
      | _ => simp [hh] at h1

/-- a contract over a list of numbers, seen from outside -/
def LawI (P : Program) (f : FuncId) : Prop := ∀ {R : Ro} {a : Option Addr} {c : Nat} {xs : List Int}, RS R 1 encI a xs → xs.length ≤ c → ∀ w0, Fn P f [.slice a xs.length c] w0 R [] (fun v _ _ => v = .bool true)
theorem LawI.nil {P : Program} {f : FuncId} (h : LawI P f) (W : World) : Calls P f #[.slice none 0 0] W fun e W' => e = .returned (.bool true) ∧ Below W.heap.size W W' := by
  refine (h (R := fun _ => none) (a := none) (c := 0) (xs := []) ⟨by simp, .inl rfl, by simp⟩ (Nat.le_refl _) W W (mem0 W)).mono ?_
  rintro e w' ⟨v, R', E', rfl, _, hm, rfl⟩
  exact ⟨rfl, hm.below⟩
theorem LawI.some {P : Program} {f : FuncId} (h : LawI P f) {W : World} {a : Addr} {len cap : Nat} {zs : List Int} (hcell : ∀ i, i < zs.length → W.cell? (a.add i) = some (.int .i64 (zs.getD i 0))) (hl : zs.length ≤ 9223372036854775807) (hz : zs.length = cap) (hc : len ≤ cap) :
    Calls P f #[.slice (some a) len cap] W fun e W' => e = .returned (.bool true) ∧ Below W.heap.size W W' := by
  obtain ⟨R, hm, hr⟩ := rs_of_ints hcell hl
  have hr := hr.take len
  have hlen : (zs.take len).length = len := by simp; omega
  have := h (c := cap) hr (by omega) W W hm
  rw [hlen] at this
  refine this.mono ?_
  rintro e w' ⟨v, R', E', rfl, _, hm, rfl⟩
  exact ⟨rfl, hm.below⟩
end Go.Proofs.YtjacpnojnoompaaDoor.K
