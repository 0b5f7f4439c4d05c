/- What the line answers, plain: errors and runs; queues. No condition. -/
import Derived.Test.YtcfnckccmkjjlaaSimB
import Derived.Test.YtcfnckccmkjjlaaLoop
namespace Go.Proofs.Ytcfnckccmkjjlaa.M
open Go Go.Proofs.Ytcfnckccmkjjlaa.K

/-- slices of packets, and three numbers, in a slice -/
structure SlP where
  a : Option Addr
  cap : Nat
  xs : List Pkt
instance instSlP : Inhabited SlP := ⟨⟨none, 0, []⟩⟩
def encL (s : SlP) : List Value := [.slice s.a s.xs.length s.cap]
def enc3 (x : Int × Int × Int) : List Value := [.int .i64 x.1, .int .i64 x.2.1, .int .i64 x.2.2]
def enc2 (x : Int × Int) : List Value := [.int .i64 x.1, .int .i64 x.2]
def lrunE (cap classes ticks : Int) (ps : List Pkt) : Int := if validate ps ≠ 0 then validate ps else checkE cap classes ticks ps
def lineOut (cap classes ticks : Int) (ps : List Pkt) : List Int × List (List Int) :=
  if lrunE cap classes ticks ps ≠ 0 then ([], []) else ((mrun ps (fifo ps) cap classes.toNat ticks.toNat ()).done, (mrun ps (fifo ps) cap classes.toNat ticks.toNat ()).sent)
theorem lrunE_ok {cap classes ticks : Int} {ps : List Pkt} (h : lrunE cap classes ticks ps = 0) : Ok ps ∧ validate ps = 0 ∧ checkE cap classes ticks ps = 0 ∧ 1 ≤ cap ∧ cap ≤ 4000 ∧ 1 ≤ classes ∧ classes ≤ 6 ∧ 0 ≤ ticks ∧ ticks ≤ 2000 ∧ (∀ p ∈ ps, 1 ≤ p.size ∧ p.size ≤ 1500) ∧ ∀ p ∈ ps, 0 ≤ p.flow ∧ p.flow < classes := by
  unfold lrunE at h
  split at h
  · rename_i hv; exact absurd h hv
  · rename_i hv
    have hv : validate ps = 0 := by omega
    have hok := (validate_ok ps).1 hv
    obtain ⟨h1, h2⟩ := checkE_ok h
    unfold BadC at h1
    refine ⟨hok, hv, h, by omega, by omega, by omega, by omega, by omega, by omega, fun p hp => by have := hok.at hp; omega, fun p hp => by have := hok.at hp; have := h2 p hp; omega⟩
theorem lineOut_ok {cap classes ticks : Int} {ps : List Pkt} (h : lrunE cap classes ticks ps = 0) {l : List Int} (hl : l ∈ (lineOut cap classes ticks ps).2) : (l.length : Int) = ticks + 1 ∧ ∀ x ∈ l, 0 ≤ x ∧ x ≤ 1000000000 := by
  obtain ⟨hok, _, _, c1, c2, c3, c4, c5, c6, hs, hf⟩ := lrunE_ok h
  unfold lineOut at hl
  rw [if_neg (by omega)] at hl
  dsimp only at hl
  have hfit : Fit ps classes.toNat := ⟨by have := hok.len; omega, fun p hp => by have := hs p hp; have := hf p hp; omega⟩
  have hi : ∀ (k : Nat) (s : RS Unit) (t : Nat), Inv ps classes.toNat (goodF ps) (t + 1) (t * cap) s → Inv ps classes.toNat (goodF ps) (t + k + 1) ((t + k : Nat) * cap) (ticksFrom ps (fifo ps) cap t k s) := by
    intro k
    induction k with
    | zero => intro s t h; exact h
    | succ k ih =>
      intro s t h
      have h1 := h.open (cap := cap) (goodF_good ps).free
      have h2 := inner_inv (goodF_good ps) hfit (t := t) cap.toNat _ _ h1 (by dsimp only; omega) (by dsimp only; omega)
      have h3 := ih (tick ps (fifo ps) cap t s) (t + 1) (h2.mono (by dsimp only; rw [Int.natCast_add, Int.add_mul]; simp))
      rw [show t + 1 + k = t + (k + 1) by omega] at h3
      exact h3
  have h0 := hi ticks.toNat _ 0 (show Inv ps classes.toNat (goodF ps) (0 + 1) (((0 : Nat) : Int) * cap) (start ps classes.toNat ()) by simpa using Inv.start (ps := ps) (classes := classes.toNat) (good := goodF ps) (sg := ()) (Nat.zero_le _))
  rw [Nat.zero_add] at h0
  have h1 := h0.rows l hl
  have hb : ((ticks.toNat : Nat) : Int) * cap ≤ 2000 * 4000 := Int.mul_le_mul (by omega) c2 (by omega) (by omega)
  refine ⟨by omega, fun x hx => by have := h1.2 x hx; omega⟩
theorem lineOut_len {cap classes ticks : Int} {ps : List Pkt} (h : lrunE cap classes ticks ps = 0) : ((lineOut cap classes ticks ps).2.length : Int) = classes := by
  obtain ⟨hok, _, _, c1, c2, c3, c4, c5, c6, hs, hf⟩ := lrunE_ok h
  have hw := (work_run (goodFB_fair ps) (fun p hp => (hs p hp).1) (classes := classes.toNat) (fun p hp => by have := hf p hp; omega) (cap := cap) (by omega) (goodFB_start ps _) ticks.toNat).1
  unfold lineOut
  rw [if_neg (by omega)]
  dsimp only
  rw [hw.slen]; omega
/-- the reference's -/
theorem lineOut_ref {cap classes ticks : Int} {ps : List Pkt} (h : lrunE cap classes ticks ps = 0) : (rrun ps (fifoR ps) cap classes.toNat ticks.toNat ()).done = (lineOut cap classes ticks ps).1 ∧ (rrun ps (fifoR ps) cap classes.toNat ticks.toNat ()).sent = (lineOut cap classes ticks ps).2 := by
  obtain ⟨hok, _, _, c1, c2, c3, c4, c5, c6, hs, hf⟩ := lrunE_ok h
  have := sim_run (goodFB_fair ps) (fun p hp => (hs p hp).1) (classes := classes.toNat) (fun p hp => by have := hf p hp; omega) (fifo_alike hok.sorted) (cap := cap) (by omega) (sg := ()) (g := ()) (goodFB_start ps _) trivial ticks.toNat
  unfold lineOut
  rw [if_neg (by omega)]
  exact this

/-! ### queues -/
def selSum (cls t : Int) : Nat → List (List Int) → Int
  | _, [] => 0
  | c, l :: ls => (if (c : Int) ≠ cls ∧ cls ≠ -1 then 0 else nth l t.toNat) + selSum cls t (c + 1) ls
theorem selSum_snoc (cls t : Int) : ∀ (ls : List (List Int)) (c : Nat) (l : List Int), selSum cls t c (ls ++ [l]) = selSum cls t c ls + (if ((c + ls.length : Nat) : Int) ≠ cls ∧ cls ≠ -1 then 0 else nth l t.toNat)
  | [], c, l => by simp [selSum]
  | x :: xs, c, l => by
    simp only [List.cons_append, selSum, selSum_snoc cls t xs (c + 1) l, List.length_cons]
    rw [show c + 1 + xs.length = c + (xs.length + 1) by omega]; omega
theorem qGo_sel {cls t : Int} {m : Nat} (ht : 0 ≤ t) (htm : t < m) : ∀ (ls : List (List Int)) (acc : Int) (c : Nat), (∀ l ∈ ls, l.length = m) → qGo cls t acc c ls = some (acc + selSum cls t c ls)
  | [], acc, c, _ => by simp [qGo, selSum]
  | l :: ls, acc, c, h => by
    have hl := h l (by simp)
    have ih := fun a => qGo_sel (cls := cls) ht htm ls a (c + 1) (fun l hl => h l (by simp [hl]))
    simp only [qGo, selSum]
    by_cases hc : (c : Int) ≠ cls ∧ cls ≠ -1
    · rw [if_pos hc, if_pos hc, ih]; simp
    · rw [if_neg hc, if_neg hc, if_neg (by omega), ih]; congr 1; omega
theorem qGo_none {cls t : Int} {m : Nat} (htm : (m : Int) ≤ t) : ∀ (ls : List (List Int)) (acc : Int) (c : Nat), (∀ l ∈ ls, l.length = m) → (cls = -1 ∧ ls ≠ [] ∨ (c : Int) ≤ cls ∧ cls < c + ls.length) → qGo cls t acc c ls = none
  | [], acc, c, _, h => by
    rcases h with ⟨_, h⟩ | ⟨h1, h2⟩
    · exact absurd rfl h
    · simp at h2; omega
  | l :: ls, acc, c, h, hc => by
    have hl := h l (by simp)
    simp only [qGo]
    by_cases hx : (c : Int) ≠ cls ∧ cls ≠ -1
    · rw [if_pos hx]
      refine qGo_none htm ls acc (c + 1) (fun l hl => h l (by simp [hl])) (.inr ?_)
      rcases hc with ⟨h1, _⟩ | ⟨h1, h2⟩
      · omega
      · simp at h2; omega
    · rw [if_neg hx, if_pos (by omega)]
theorem queueR_is {ps : List Pkt} {sent : List (List Int)} {cls t : Int} {m : Nat} (h : ∀ l ∈ sent, l.length = m) (hne : sent ≠ []) :
    queueR ps sent cls t = if cls < -1 ∨ (sent.length : Int) ≤ cls ∨ t < 0 ∨ (m : Int) ≤ t then (0, 0) else (pbytes cls t ps - selSum cls t 0 sent, pbytes cls (t + 1) ps - selSum cls t 0 sent) := by
  unfold queueR
  by_cases h1 : cls < -1 ∨ (sent.length : Int) ≤ cls ∨ t < 0
  · rw [if_pos h1, if_pos (by omega)]
  · rw [if_neg h1]
    by_cases h2 : (m : Int) ≤ t
    · rw [qGo_none h2 sent 0 0 h (by
        by_cases hc : cls = -1
        · exact .inl ⟨hc, hne⟩
        · right; omega), if_pos (by omega)]
    · rw [qGo_sel (by omega) (by omega) sent 0 0 h, if_neg (by omega)]
      simp
theorem selSum_bound {cls t : Int} {m : Nat} (ht : 0 ≤ t) (htm : t < m) : ∀ (ls : List (List Int)) (c : Nat), (∀ l ∈ ls, l.length = m ∧ ∀ x ∈ l, 0 ≤ x ∧ x ≤ 1000000000) → 0 ≤ selSum cls t c ls ∧ selSum cls t c ls ≤ 1000000000 * ls.length
  | [], c, _ => by simp [selSum]
  | l :: ls, c, h => by
    have ih := selSum_bound (cls := cls) ht htm ls (c + 1) (fun l hl => h l (by simp [hl]))
    have hl := h l (by simp)
    have := hl.2 _ (nth_mem (xs := l) (k := t.toNat) (by omega))
    simp only [selSum, List.length_cons]
    split <;> omega
end Go.Proofs.Ytcfnckccmkjjlaa.M
