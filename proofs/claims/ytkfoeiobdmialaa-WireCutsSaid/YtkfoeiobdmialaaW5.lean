/- Wire: frames and payloads, in one form. -/
import Derived.Test.YtkfoeiobdmialaaW4
namespace Go.Proofs.Ytkfoeiobdmialaa
open Go.K

def frE (xs : List Nat) : Int := if 131072 < xs.length then 12 else 0
def frL (xs : List Nat) : List Nat := if 131072 < xs.length then [] else hdr xs.length ++ xs
def payE (ys : List Nat) : Int := if cutE ys = 0 then (if 4 + num (ys.take 4) < ys.length then 11 else 0) else cutE ys
def payL (ys : List Nat) : List Nat := if payE ys = 0 then ys.drop 4 else []
/-- A slice of bytes and an error's number. -/
def Tld (β : Nat → Option Obj) (σ : Heap) (L : List Nat) (e : Int) (v : Value) (σ' : Heap) : Prop :=
  ∃ p k c φ, v = .tuple #[.slice p k c, .int .i64 e] ∧ σ' = φ ++ σ ∧ L.length = k ∧ SL β σ' 1 k (by8 L) p
theorem SL.nilV (β : Nat → Option Obj) (σ : Heap) (p : Option Addr) : SL β σ 1 0 (by8 []) p := ⟨rfl, fun h => by omega⟩
theorem Frame_q (β : Nat → Option Obj) (σ : Heap) (m c : Nat) (xs : List Nat) (p : Option Addr) (hl : xs.length = m) (hv : SL β σ 1 m (by8 xs) p) (hpc : p = none → c = 0 ∧ m = 0) (hm : m ≤ 281474976710656) :
    Go.K.Tr Try.prog 18 [.slice p m c] β σ (Tld β σ (frL xs) (frE xs)) := by
  refine Tr.perm ((Frame_p β σ m c xs p hl hv hpc hm).mono ?_)
  rintro v σ' (⟨h1, rfl, rfl⟩ | ⟨h1, u, φ, rfl, hu, rfl⟩)
  · exact ⟨σ', List.Perm.refl _, none, 0, 0, [], by simp [frE, hl, h1], rfl, by simp [frL, hl, h1], by simp only [frL, hl, h1, if_true]; exact SL.nilV _ _ _⟩
  · have h2 : ¬ 131072 < xs.length := by omega
    obtain ⟨p', c', rfl⟩ := hu.len
    refine ⟨φ ++ σ, List.perm_append_comm, p', 4 + m, c', φ, by simp [frE, h2], rfl, ?_, ?_⟩
    · rw [frL, if_neg h2, List.length_append, hdr, bes_len, hl]
    · rw [frL, if_neg h2, hl]
      exact SL.ofVec hu (fun q hq => List.mem_append_left _ hq)
theorem rFrame_q (β : Nat → Option Obj) (σ : Heap) (m c : Nat) (xs : List Nat) (p : Option Addr) (hl : xs.length = m) (hv : SL β σ 1 m (by8 xs) p) (hpc : p = none → c = 0 ∧ m = 0) (hm : m ≤ 281474976710656) :
    Go.K.Tr Try.prog 19 [.slice p m c] β σ (Tld β σ (frL xs) (frE xs)) := by
  refine Tr.perm ((rFrame_p β σ m c xs p hl hv hpc hm).mono ?_)
  rintro v σ' (⟨h1, rfl, rfl⟩ | ⟨h1, u, φ, rfl, hu, rfl⟩)
  · exact ⟨σ', List.Perm.refl _, none, 0, 0, [], by simp [frE, hl, h1], rfl, by simp [frL, hl, h1], by simp only [frL, hl, h1, if_true]; exact SL.nilV _ _ _⟩
  · have h2 : ¬ 131072 < xs.length := by omega
    obtain ⟨p', c', rfl⟩ := hu.len
    refine ⟨φ ++ σ, List.perm_append_comm, p', 4 + m, c', φ, by simp [frE, h2], rfl, ?_, ?_⟩
    · rw [frL, if_neg h2, List.length_append, hdr, bes_len, hl]
    · rw [frL, if_neg h2, hl]
      exact SL.ofVec hu (fun q hq => List.mem_append_left _ hq)
theorem Payload_q (β : Nat → Option Obj) (σ : Heap) (m c : Nat) (xs : List Nat) (p : Option Addr) (hl : xs.length = m) (hB : Byt xs) (hmc : m ≤ c) (hv : SL β σ 1 m (by8 xs) p) (hpc : p = none → c = 0 ∧ m = 0) (hm : m ≤ 1000000) :
    Go.K.Tr Try.prog 20 [.slice p m c] β σ (Tld β σ (payL xs) (payE xs)) := by
  refine (Payload_p β σ m c xs p hl hB hmc hv hpc hm).mono ?_
  rintro v σ' (⟨h1, rfl, rfl⟩ | ⟨h1, h2, rfl, rfl⟩ | ⟨h1, h2, b, rfl, rfl⟩)
  · have e : payE xs = cutE xs := by rw [payE, if_neg h1]
    exact ⟨none, 0, 0, [], by rw [e], rfl, by simp [payL, e, h1], by simp only [payL, e, h1, if_false]; exact SL.nilV _ _ _⟩
  · have e : payE xs = 11 := by rw [payE, if_pos h1, if_pos (by omega)]
    exact ⟨none, 0, 0, [], by rw [e], rfl, by simp [payL, e], by simp only [payL, e]; exact SL.nilV _ _ _⟩
  · have e : payE xs = 0 := by rw [payE, if_pos h1, if_neg (by omega)]
    have hd : (xs.drop 4).length = num (xs.take 4) := by rw [List.length_drop]; omega
    refine ⟨_, _, _, [_], by rw [e], rfl, by simp only [payL, e, if_true]; exact hd, ?_⟩
    simp only [payL, e, if_true]
    exact SL.ofBlk (e := 5) (List.Mem.head _) (by rw [by8_len, hd]; omega)
theorem rPayload_q (β : Nat → Option Obj) (σ : Heap) (m c : Nat) (xs : List Nat) (p : Option Addr) (hl : xs.length = m) (hB : Byt xs) (hmc : m ≤ c) (hv : SL β σ 1 m (by8 xs) p) (hm : m ≤ 1000000) :
    Go.K.Tr Try.prog 21 [.slice p m c] β σ (Tld β σ (payL xs) (payE xs)) := by
  refine (rPayload_p β σ m c xs p hl hB hmc hv hm).mono ?_
  rintro v σ' (⟨h1, rfl, rfl⟩ | ⟨h1, h2, rfl, rfl⟩ | ⟨h1, h2, rfl, rfl⟩)
  · have e : payE xs = cutE xs := by rw [payE, if_neg h1]
    exact ⟨none, 0, 0, [], by rw [e], rfl, by simp [payL, e, h1], by simp only [payL, e, h1, if_false]; exact SL.nilV _ _ _⟩
  · have e : payE xs = 11 := by rw [payE, if_pos h1, if_pos (by omega)]
    exact ⟨none, 0, 0, [], by rw [e], rfl, by simp [payL, e], by simp only [payL, e]; exact SL.nilV _ _ _⟩
  · have e : payE xs = 0 := by rw [payE, if_pos h1, if_neg (by omega)]
    refine ⟨_, _, _, [], by rw [e], rfl, by simp only [payL, e, if_true]; rw [List.length_drop, hl], ?_⟩
    simp only [payL, e, if_true]
    have := hv.adv (l := 4) (h := m) (c := c) (by omega) (by omega) (by omega)
    have e2 : (List.drop (4 * 1) (by8 xs)).take ((m - 4) * 1) = by8 (xs.drop 4) := by
      rw [Nat.mul_one, Nat.mul_one, List.take_of_length_le (by rw [List.length_drop, by8_len]; omega), by8_drop]
    rw [e2] at this
    exact this
end Go.Proofs.Ytkfoeiobdmialaa
