/- msg.form that puts: a word, a number, a cell, a flag, moves. -/
import Derived.Test.YtnaclkdjchnbpaaDoorM8
import Derived.Test.YtnaclkdjchnbpaaDoorN3
namespace Go.Proofs.YtnaclkdjchnbpaaDoor
open Go Go.K

/-- A form that puts: the bytes, and what went wrong. -/
def FormP (β : Nat → Option Obj) (bf : Nat) (what : ByteArray) (z : List Nat × Flt) (σ : Heap) : Prop := FormB β bf what (.put z.1) z.2 σ
theorem putF1_len (z : List Nat × Flt) (f : ByteArray × Nat × Nat) : (putF1 z f).1.length ≤ z.1.length + f.2.1 := by
  unfold putF1
  rcases z with ⟨o, x⟩
  rcases x with _ | y
  · dsimp only
    split
    · rw [List.length_append, bes_len]; exact Nat.le_refl _
    · exact Nat.le_add_right _ _
  · exact Nat.le_add_right _ _
theorem wordP_p (β : Nat → Option Obj) (bf bx : Nat) (cs : List Value) (t : TypeId) (ox : Nat) (what name : ByteArray) (z : List Nat × Flt) (σ : Heap) (hf : FormP β bf what z σ) (hm : z.1.length ≤ 1000000) (X : Nat) (s : Nat) (h1 : 1 ≤ s) (h8 : s ≤ 8) (hX : X < 18446744073709551616) (hx : cs[ox]? = some (.int .u64 (X : Int))) :
    Go.K.Tr Tryd.prog 55 [.pointer (some ⟨bf, 0, none⟩), .string name, .pointer (some ⟨bx, ox, none⟩), .int .i64 (s : Int)] β ((bx, cl cs t) :: σ) (fun _ σ' => ∃ τ, FormP β bf what (putF1 z (name, s, X)) τ ∧ σ' = (bx, cl cs t) :: τ) := by
  refine (word_p β bf bx cs t ox what name (.put z.1) z.2 σ hf hm X s hX hx).mono ?_
  rintro _ _ ⟨τ, hτ, rfl⟩
  rw [stepW_f z.1 z.2 name X s h1 h8 hX] at hτ ⊢
  refine ⟨τ, hτ, ?_⟩
  dsimp only
  rw [set_same hx]
theorem numberP_p (β : Nat → Option Obj) (bf bx : Nat) (cs : List Value) (t : TypeId) (ox : Nat) (what name : ByteArray) (z : List Nat × Flt) (σ : Heap) (hf : FormP β bf what z σ) (hm : z.1.length ≤ 1000000) {N : Int} (s : Nat) (h1 : 1 ≤ s) (h8 : s ≤ 8) (hN : I64 N) (hx : cs[ox]? = some (.int .i64 N)) :
    Go.K.Tr Tryd.prog 52 [.pointer (some ⟨bf, 0, none⟩), .string name, .pointer (some ⟨bx, ox, none⟩), .int .i64 (s : Int)] β ((bx, cl cs t) :: σ) (fun _ σ' => ∃ τ, FormP β bf what (putF1 z (name, s, u64 N)) τ ∧ σ' = (bx, cl cs t) :: τ) := by
  refine (number_p β bf bx cs t ox what name (.put z.1) z.2 σ hf hm N s hx).mono ?_
  rintro _ _ ⟨τ, hτ, rfl⟩
  rw [stepN_f z.1 z.2 name s h1 h8 hN] at hτ ⊢
  refine ⟨τ, hτ, ?_⟩
  dsimp only
  rw [set_same hx]
theorem cellP_p (β : Nat → Option Obj) (bf bx : Nat) (cs : List Value) (t : TypeId) (ox : Nat) (what name : ByteArray) (z : List Nat × Flt) (σ : Heap) (hf : FormP β bf what z σ) (hm : z.1.length ≤ 999990) {X Y : Int} (hX : I64 X) (hY : I64 Y) (hx : cs[ox]? = some (.int .i64 X)) (hy : cs[ox + 1]? = some (.int .i64 Y)) :
    Go.K.Tr Tryd.prog 56 [.pointer (some ⟨bf, 0, none⟩), .string name, .pointer (some ⟨bx, ox, none⟩)] β ((bx, cl cs t) :: σ) (fun _ σ' => ∃ τ, FormP β bf what (putF [(name, 2, u64 X), (name, 2, u64 Y)] z) τ ∧ σ' = (bx, cl cs t) :: τ) := by
  refine (cell_p β bf bx cs t ox what name (.put z.1) z.2 σ hf hm X Y hx hy).mono ?_
  rintro _ _ ⟨τ, hτ, rfl⟩
  rw [stepC_f z.1 z.2 name hX hY] at hτ ⊢
  refine ⟨τ, hτ, ?_⟩
  dsimp only
  rw [set_same hx, set_same hy]
theorem u64_of {n : Nat} (h : n < 18446744073709551616) : u64 (n : Int) = n := by unfold u64; omega
def bit (b : Bool) : Nat := if b then 1 else 0
theorem stepF_f (xs : List Nat) (x : Flt) (name : ByteArray) (b : Bool) : stepF (.put xs) x name b = (.put (putF1 (xs, x) (name, 1, bit b)).1, (putF1 (xs, x) (name, 1, bit b)).2, b) := by
  have hN : I64 (if b then 1 else 0 : Int) := by cases b <;> (unfold I64; simp)
  have e := stepN_f xs x name (N := if b then 1 else 0) 1 (by omega) (by omega) hN
  have e' : stepN (.put xs) x name (if b then 1 else 0) 1 = _ := e
  unfold stepF
  rw [e']
  have eu : u64 (if b then 1 else 0 : Int) = bit b := by cases b <;> rfl
  rw [eu]
  cases b <;> rfl
theorem flagP_p (β : Nat → Option Obj) (bf bx : Nat) (cs : List Value) (t : TypeId) (ox : Nat) (what name : ByteArray) (z : List Nat × Flt) (σ : Heap) (hf : FormP β bf what z σ) (hm : z.1.length ≤ 900000) (b : Bool) (hx : cs[ox]? = some (.bool b)) :
    Go.K.Tr Tryd.prog 71 [.pointer (some ⟨bf, 0, none⟩), .string name, .pointer (some ⟨bx, ox, none⟩)] β ((bx, cl cs t) :: σ) (fun _ σ' => ∃ τ, FormP β bf what (putF1 z (name, 1, bit b)) τ ∧ σ' = (bx, cl cs t) :: τ) := by
  refine (flag_p β bf bx cs t ox what name (.put z.1) z.2 σ hf hm b hx).mono ?_
  rintro _ _ ⟨τ, hτ, rfl⟩
  rw [stepF_f z.1 z.2 name b] at hτ ⊢
  refine ⟨τ, hτ, ?_⟩
  dsimp only
  rw [set_same hx]
/-- Moves put. -/
def movF (z : List Nat × Flt) (name : ByteArray) (ms : List Nat) : List Nat × Flt :=
  let q := putF1 (z.1, if 65535 < ms.length then note z.2 name 12 else z.2) (name, 4, ms.length)
  match q.2 with
  | some _ => q
  | none => if ms.all (fun m => decide (m ≤ 3)) then (q.1 ++ ms, none) else (q.1 ++ ms.takeWhile (fun m => decide (m ≤ 3)), some (name, 10))
structure S20 where
  k : Nat
  v : Value
  φ : Heap
theorem take_all {ms : List Nat} {j : Nat} (h : (ms.take j).all (fun m => decide (m ≤ 3)) = true) {x : Nat} (hx : ms[j]? = some x) (h3 : 3 < x) : ms.all (fun m => decide (m ≤ 3)) = false ∧ ms.takeWhile (fun m => decide (m ≤ 3)) = ms.take j := by
  have hlt := (List.getElem?_eq_some_iff.1 hx).1
  have e : ms = ms.take j ++ x :: ms.drop (j + 1) := by
    conv => lhs; rw [← List.take_append_drop j ms, List.drop_eq_getElem_cons hlt]
    rw [(List.getElem?_eq_some_iff.1 hx).2]
  constructor
  · rw [e, List.all_append, List.all_cons]
    simp [show ¬ x ≤ 3 by omega]
  · conv => lhs; rw [e]
    rw [List.takeWhile_append_of_pos (fun a ha => List.all_eq_true.1 h a ha)]
    rw [List.takeWhile_cons_of_neg (by simp; omega), List.append_nil]
theorem bes1 {n : Nat} (h : n < 256) : bes n 1 1 = [n] := by
  show [n / 2 ^ (8 * (1 - 1 - 0)) % 256] = [n]
  simp
  omega
theorem put1 {n : Nat} (h : n < 256) : putE n 1 = 0 ∧ putB n 1 = [n] := by
  have e : putE n 1 = 0 := by
    have h0 : n / 2 ^ 8 = 0 := Nat.div_eq_of_lt h
    unfold putE
    rw [if_pos (by rfl), if_neg]
    rintro ⟨_, h2⟩
    exact h2 h0
  refine ⟨e, ?_⟩
  unfold putB
  rw [if_pos e]
  exact bes1 h
end Go.Proofs.YtnaclkdjchnbpaaDoor
