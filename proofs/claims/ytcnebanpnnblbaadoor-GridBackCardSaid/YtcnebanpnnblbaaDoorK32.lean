/- Strings as rows of bytes: cut, indexed, measured; turned to rows of bytes and back; the entries that search them. -/
import Derived.Test.YtcnebanpnnblbaaDoorK31
import Derived.Laws.Strings3
import Derived.Laws.BytesString
import Derived.Lib.Bytealg
import Derived.Lib.ConvBytes
namespace Go.K
open Go Go.RowKit

/-- The text of bytes. -/
def bs (l : List Nat) : ByteArray := ⟨(l.map Nat.toUInt8).toArray⟩
theorem bs_size (l : List Nat) : (bs l).size = l.length := by simp [bs, ByteArray.size]
theorem u8_nat {n : Nat} (h : n < 256) : n.toUInt8.toNat = n := by
  simp [Nat.toUInt8, UInt8.toNat_ofNat, Nat.mod_eq_of_lt h]
theorem byt_bs {l : List Nat} (h : Byt l) : byt (bs l) = l := by
  unfold byt bs
  simp only [List.map_map]
  conv => rhs; rw [← List.map_id l]
  apply List.map_congr_left
  intro n hn
  exact u8_nat (h n hn)
theorem bs_byt (s : ByteArray) : bs (byt s) = s := by
  unfold byt bs
  rw [List.map_map]
  have e : (Nat.toUInt8 ∘ UInt8.toNat) = id := by funext x; simp [Nat.toUInt8]
  rw [e, List.map_id]
theorem byt_B (s : ByteArray) : Byt (byt s) := fun _ h => byt_lt h
theorem bs_inj {a b : List Nat} (ha : Byt a) (hb : Byt b) : bs a = bs b ↔ a = b :=
  ⟨fun h => by rw [← byt_bs ha, ← byt_bs hb, h], fun h => by rw [h]⟩
theorem bs_nil : bs [] = ByteArray.empty := rfl
theorem bs_empty (l : List Nat) : bs l = ⟨#[]⟩ ↔ l = [] := by
  constructor
  · intro h
    have := congrArg ByteArray.size h
    rw [bs_size] at this
    exact List.length_eq_zero_iff.1 this
  · intro h; rw [h]; rfl
theorem bs_app (a b : List Nat) : bs a ++ bs b = bs (a ++ b) := by
  apply ByteArray.ext
  rw [ByteArray.data_append]
  simp [bs]
theorem bs_ext (l : List Nat) (i j : Nat) : (bs l).extract i j = bs ((l.take j).drop i) := by
  apply ByteArray.ext
  rw [ByteArray.data_extract]
  simp [bs, List.map_drop, List.map_take, List.extract_eq_take_drop, List.drop_take]
section
variable {C : Cx} {L : Look} {σ : Heap} {g : Bool} {o : Oper}
theorem qt_bsLen {x : Operand} {t : TypeId} {gx : Bool} {l : List Nat} (ho : o.op = .call ⟨.builtin .len, #[x], #[t]⟩) (hx : opnd L x = some (gx, .string (bs l))) (hi : g = true → gx = true) (hu : C.T.u t = some .string) : Qt C L σ g o (.int .i64 (l.length : Int)) := by
  have := qt_len_string (C := C) (σ := σ) ho hx hi hu
  rw [bs_size] at this
  exact this
theorem qt_bsIdx {t : TypeId} {x i : Operand} {gx gi : Bool} {l : List Nat} {k : IntKind} {n : Int} {b : Nat} (ho : o.op = .index t x i) (hx : opnd L x = some (gx, .string (bs l))) (hn : opnd L i = some (gi, .int k n)) (hi : g = true → (gx && gi) = true)
    (hu : C.T.u t = some .string) (hb : g = true → 0 ≤ n ∧ Byt l ∧ l[n.toNat]? = some b) : Qt C L σ g o (.int .u8 (b : Int)) :=
  qt_indexS ho hx hn hi hu (fun hg => ⟨(hb hg).1, by rw [byt_bs (hb hg).2.1]; exact (hb hg).2.2⟩)
theorem qt_bsH {t : TypeId} {x hi' : Operand} {gx gl : Bool} {l : List Nat} {k : IntKind} {a : Int} (ho : o.op = .slice t x none (some hi') none) (hx : opnd L x = some (gx, .string (bs l))) (hl : opnd L hi' = some (gl, .int k a)) (hi : g = true → (gx && gl) = true) (hu : C.T.u t = some .string)
    (hb : g = true → 0 ≤ a ∧ a ≤ (l.length : Int)) : Qt C L σ g o (.string (bs (l.take a.toNat))) :=
  qt_val fun ac w hL _ hg => by
    have h := hi hg
    rw [Bool.and_eq_true] at h
    have hb' := hb hg
    have e := run_slice_string_to_if (P := C.P) w t (bs l) k a (TT.u_ok hu)
    rw [bs_size, if_pos hb', bs_ext, List.drop_zero] at e
    simp [execOp, ho, opnd_ev hL hx h.1, opnd_ev hL hl h.2, Instr.sliceAt, run_underlying (TT.u_ok hu), e]
theorem qt_bsL {t : TypeId} {x lo : Operand} {gx gl : Bool} {l : List Nat} {k : IntKind} {a : Int} (ho : o.op = .slice t x (some lo) none none) (hx : opnd L x = some (gx, .string (bs l))) (hl : opnd L lo = some (gl, .int k a)) (hi : g = true → (gx && gl) = true) (hu : C.T.u t = some .string)
    (hb : g = true → 0 ≤ a ∧ a ≤ (l.length : Int)) : Qt C L σ g o (.string (bs (l.drop a.toNat))) :=
  qt_val fun ac w hL _ hg => by
    have h := hi hg
    rw [Bool.and_eq_true] at h
    have hb' := hb hg
    have e := run_slice_string_from_if (P := C.P) w t (bs l) k a (TT.u_ok hu)
    rw [bs_size, if_pos hb', bs_ext, List.take_length] at e
    simp [execOp, ho, opnd_ev hL hx h.1, opnd_ev hL hl h.2, Instr.sliceAt, run_underlying (TT.u_ok hu), e]
theorem qt_bsLH {t : TypeId} {x lo hi' : Operand} {gx gl gh : Bool} {l : List Nat} {k k' : IntKind} {a c : Int} (ho : o.op = .slice t x (some lo) (some hi') none) (hx : opnd L x = some (gx, .string (bs l))) (hl : opnd L lo = some (gl, .int k a)) (hh : opnd L hi' = some (gh, .int k' c)) (hi : g = true → (gx && (gl && gh)) = true) (hu : C.T.u t = some .string)
    (hb : g = true → 0 ≤ a ∧ a ≤ c ∧ c ≤ (l.length : Int)) : Qt C L σ g o (.string (bs ((l.take c.toNat).drop a.toNat))) :=
  qt_val fun ac w hL _ hg => by
    have h := hi hg
    rw [Bool.and_eq_true, Bool.and_eq_true] at h
    have hb' := hb hg
    have e := run_slice_string (P := C.P) w t (bs l) k k' a c (TT.u_ok hu) hb'.1 hb'.2.1 (by rw [bs_size]; exact hb'.2.2)
    rw [bs_ext] at e
    simp [execOp, ho, opnd_ev hL hx h.1, opnd_ev hL hl h.2.1, opnd_ev hL hh h.2.2, Instr.sliceAt, run_underlying (TT.u_ok hu), e]
theorem qt_bsCat {t t' : TypeId} {x y : Operand} {gx gy : Bool} {a b : List Nat} (ho : o.op = .binOp .add t x y t') (hx : opnd L x = some (gx, .string (bs a))) (hy : opnd L y = some (gy, .string (bs b))) (hi : g = true → (gx && gy) = true)
    (hs : g = true → (a.length : Int) + (b.length : Int) ≤ 4611686018427387904) : Qt C L σ g o (.string (bs (a ++ b))) := by
  have := qt_strcat (C := C) (σ := σ) ho hx hy hi (fun hg => by rw [bs_size, bs_size]; have := hs hg; omega)
  rw [bs_app] at this
  exact this
theorem Stp.bytes {σ : Heap} {w : World} (h : Has σ w) (e : TypeId) (s : ByteArray) : Stp σ ((w.heap.size, .cells (Lib.bytesCells w e s) e ((Lib.bytesCells w e s).size, (Lib.bytesCells w e s).size + 1)) :: σ) w (Lib.bytesWorld w e s) :=
  ⟨rfl, rfl, rfl, by rw [Lib.bytesWorld_size]; omega, fun b hb _ => Lib.bytesWorld_at_old w e s b hb,
    ⟨fun p hp => by
      rcases List.mem_cons.1 hp with rfl | hp
      · exact Lib.bytesWorld_at_new w e s
      · have hlt : p.1 < w.heap.size := h.lt _ (List.mem_map.2 ⟨p, hp, rfl⟩)
        rw [Lib.bytesWorld_at_old w e s p.1 hlt]
        exact h.has p hp, by
      simp only [keys, List.map_cons, List.nodup_cons]
      exact ⟨fun hm => Nat.lt_irrefl _ (h.lt _ hm), h.nodup⟩⟩,
    fun b hb => by
      simp only [keys, List.map_cons, List.mem_cons] at hb
      rcases hb with rfl | hb
      · exact .inr (Nat.le_refl _)
      · exact .inl hb⟩
theorem eo_s2b {t t' e : TypeId} {x : Operand} {l : List Nat} (ho : o.op = .convert t t' x) (hx : opnd L x = some (true, .string (bs l))) (hu : C.T.u t = some .string) (hd : C.T.u t' = some (.slice e)) (he : C.T.u e = some (.int .u8)) (hB : Byt l) :
    EO C L σ o (fun v s => ∃ (b c : Nat) (cs : Array Value) (fz : Nat × Nat), v = Value.slice (some ⟨b, 0, none⟩) l.length c ∧ s = (b, Obj.cells cs e fz) :: σ ∧ ∀ (j n : Nat), l[j]? = some n → cs[j]? = some (Value.int .u8 (n : Int))) := fun a w hL hO => .inl
  ⟨.slice (some ⟨w.heap.size, 0, none⟩) (bs l).size (grownCap w (bs l).size 0 e), Lib.bytesWorld w e (bs l), by
    have := Lib.run_convert_string_bytes (P := C.P) w t t' e (bs l) (TT.u_ok hu) (TT.u_ok hd) (TT.u_ok he)
    simp [execOp, ho, opnd_ev hL hx rfl, this], _, ⟨w.heap.size, _, _, _, by rw [bs_size], rfl, fun j n hj => by
      have hlt : j < l.length := (List.getElem?_eq_some_iff.1 hj).1
      have hn : n < 256 := hB n (List.mem_of_getElem? hj)
      have e1 : (bs l).data = (l.map Nat.toUInt8).toArray := rfl
      have e2 : l[j] = n := by rw [List.getElem?_eq_getElem hlt] at hj; simpa using hj
      unfold Lib.bytesCells
      rw [e1, Array.getElem?_append_left (by simpa using hlt)]
      simp [hlt, e2, Nat.mod_eq_of_lt hn]⟩, Stp.bytes hO.has e (bs l)⟩
/-- A row that was made of a text may be read where it lies. -/
theorem qt_loadF {t : TypeId} {x : Operand} {gx : Bool} {b off : Nat} {c : Array Value} {e : TypeId} {fz : Nat × Nat} {d : TypeDesc} {v : Value} (ho : o.op = .load t x) (hx : opnd L x = some (gx, .pointer (some ⟨b, off, none⟩))) (hi : g = true → gx = true)
    (hu : C.T.u t = some d) (ha : aggD d = false) (hm : (b, .cells c e fz) ∈ σ) (hc : g = true → c[off]? = some v) : Qt C L σ g o v :=
  qt_val fun ac w hL hO hg => by
    have h1 : w.cell? ⟨b, off, none⟩ = some v := by rw [cell_of_cells (hO.has.has _ hm)]; exact hc hg
    simp [execOp, ho, opnd_ev hL hx (hi hg), run_load1 hu ha h1]
end
end Go.K
