/- Texts read byte by byte. -/
import Derived.Test.YtnaclkdjchnbpaaDoorK29
namespace Go.K
open Go Go.RowKit
/-- A text's bytes. -/
def byt (s : ByteArray) : List Nat := s.data.toList.map UInt8.toNat
theorem byt_len (s : ByteArray) : (byt s).length = s.size := by
  simp [byt]
theorem byt_lt {s : ByteArray} {b : Nat} (h : b ∈ byt s) : b < 256 := by
  simp only [byt, List.mem_map] at h
  obtain ⟨x, _, rfl⟩ := h
  exact x.toNat_lt
section
variable {C : Cx} {L : Look} {σ : Heap} {g : Bool} {o : Oper}
theorem qt_indexS {t : TypeId} {x i : Operand} {gx gi : Bool} {s : ByteArray} {k : IntKind} {n : Int} {b : Nat} (ho : o.op = .index t x i) (hx : opnd L x = some (gx, .string s)) (hn : opnd L i = some (gi, .int k n)) (hi : g = true → (gx && gi) = true)
    (hu : C.T.u t = some .string) (hb : g = true → 0 ≤ n ∧ (byt s)[n.toNat]? = some b) : Qt C L σ g o (.int .u8 (b : Int)) :=
  qt_val fun ac w hL _ hg => by
    have h := hi hg
    rw [Bool.and_eq_true] at h
    obtain ⟨h1, h2⟩ := hb hg
    have e3 : ∃ y : UInt8, s[n.toNat]? = some y ∧ y.toNat = b := by
      simp only [byt, List.getElem?_map, Option.map_eq_some_iff] at h2
      obtain ⟨y, hy, rfl⟩ := h2
      refine ⟨y, ?_, rfl⟩
      have hlt : n.toNat < s.size := by
        have := (List.getElem?_eq_some_iff.1 hy).1
        simpa using this
      rw [getElem?_pos s n.toNat hlt]
      rw [List.getElem?_eq_getElem (by simpa using hlt)] at hy
      simp only [Option.some.injEq] at hy ⊢
      rw [← hy]
      rfl
    obtain ⟨y, hy, hyb⟩ := e3
    simp [execOp, ho, opnd_ev hL hx h.1, opnd_ev hL hn h.2, Instr.index, asIntOf, run_underlying (TT.u_ok hu), h1, hy, hyb]
end
/-- A call that only reads, be it what is tracked. -/
theorem Tr.frzQ {P : Program} {f : FuncId} {args : List Value} {β : Nat → Option Obj} {σ : Heap} {v : Value} (hok : FnOk P f)
    (h : ∀ β', (∀ b o, β b = some o → β' b = some o) → (∀ p ∈ σ, β' p.1 = some p.2) → Tr P f args β' [] (fun u s => u = v ∧ s = [])) : Tr P f args β σ (fun u s => u = v ∧ s = σ) :=
  ⟨hok, fun w hw hh => by
    have hnd := hh.nodup
    have hb0 : ∀ b o, β b = some o → b ∉ keys σ := fun b o hb => (hw b o hb).2
    have hT := h (frz β σ) (fun b o hb => by rw [frz_not _ (hb0 b o hb)]; exact hb) (fun p hp => frz_mem _ hnd hp)
    refine (hT.2 w (fun b o hb => ?_) (Has.nil w)).mono ?_
    · rcases frz_of _ hb with h1 | ⟨_, h1⟩
      · exact ⟨hh.has _ h1, by simp⟩
      · exact ⟨(hw b o h1).1, by simp⟩
    · rintro e w' ⟨v', σ', h1, ⟨rfl, rfl⟩, h3⟩
      exact ⟨_, σ, h1, ⟨rfl, rfl⟩, h3.frame (σ := []) hh⟩⟩
end Go.K
