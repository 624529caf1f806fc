/- Texts read byte by byte. -/
import Derived.Test.YtnaclkdjchnbpaaDoorK29
namespace Go.K
open Go Go.RowKit
/-- A text's bytes. -/
def byt (s : ByteArray) : List Nat := s.data.toList.map UInt8.toNat
theorem byt_len (s : ByteArray) : (byt s).length = s.size := by
  simp [byt]
theorem byt_lt {s : ByteArray} {b : Nat} (h : b ∈ byt s) : b < 256 := by
  simp only [byt, List.mem_map] at h
  obtain ⟨x, _, rfl⟩ := h
  exact x.toNat_lt
section
variable {C : Cx} {L : Look} {σ : Heap} {g : Bool} {o : Oper}
theorem qt_indexS {t : TypeId} {x i : Operand} {gx gi : Bool} {s : ByteArray} {k : IntKind} {n : Int} {b : Nat} (ho : o.op = .index t x i) (hx : opnd L x = some (gx, .string s)) (hn : opnd L i = some (gi, .int k n)) (hi : g = true → (gx && gi) = true)
    (hu : C.T.u t = some .string) (hb : g = true → 0 ≤ n ∧ (byt s)[n.toNat]? = some b) : Qt C L σ g o (.int .u8 (b : Int)) :=
  qt_val fun ac w hL _ hg => by
    have h := hi hg
    rw [Bool.and_eq_true] at h
    obtain ⟨h1, h2⟩ := hb hg
    have e3 : ∃ y : UInt8, s[n.toNat]? = some y ∧ y.toNat = b := by
      simp only [byt, List.getElem?_map, Option.map_eq_some_iff] at h2
      obtain ⟨y, hy, rfl⟩ := h2
      refine ⟨y, ?_, rfl⟩
      have hlt : n.toNat < s.size := by
        have := (List.getElem?_eq_some_iff.1 hy).1
        simpa using this
      rw [getElem?_pos s n.toNat hlt]
      rw [List.getElem?_eq_getElem (by simpa using hlt)] at hy
      simp only [Option.some.injEq] at hy ⊢
      rw [← hy]
      rfl
    obtain ⟨y, hy, hyb⟩ := e3
    simp [execOp, ho, opnd_ev hL hx h.1, opnd_ev hL hn h.2, Instr.index, asIntOf, run_underlying (TT.u_ok hu), h1, hy, hyb]
end
end Go.K
