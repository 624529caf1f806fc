/- The program logic, thirty-third part: strings built of bytes: append of a string, cuts of an array, bytes told as a string. -/
import Derived.Test.YtcnebanpnnblbaaDoorK32
import Derived.Lib.AppendStr
import Derived.Lib.UnsafeStr
import Derived.Laws.BytesArg
namespace Go.K
open Go Go.RowKit

theorem Stp.permL {σ σ1 σ' : Heap} {w w' : World} (hp : List.Perm σ σ1) (h : Stp σ1 σ' w w') : Stp σ σ' w w' := by
  have hk : ∀ b, b ∈ keys σ ↔ b ∈ keys σ1 := fun b => (hp.map _).mem_iff
  exact ⟨h.os, h.tape, h.output, h.size, fun b h1 h2 => h.old b h1 (fun h3 => h2 ((hk b).2 h3)), h.has, fun b hb => (h.new b hb).imp (hk b).2 id⟩
theorem strCells_bs {l : List Nat} (h : Byt l) : Lib.strCells (bs l) = by8 l := by
  unfold Lib.strCells by8 bs
  simp only [List.map_map]
  apply List.map_congr_left
  intro n hn
  simp [u8_nat (h n hn)]
theorem run_appendS {P : Program} {T : TT P} {t u ty e : Nat} {by' : Nat} (ht : T.u t = some (.slice e)) (hu : T.u u = some .string) (hz : T.i e = some (.int .u8 0, 1, by')) (hb1 : by' ≤ 1) {m : Nat} {l : List Nat} {xs : List Value} {v : Value} {ρ φ : Heap} {w : World} (hv : Vec e 1 m xs v φ) (hh : Has (ρ ++ φ) w) (hB : Byt l)
    (hby : m + l.length ≤ 140737488355328) :
    ∃ v' w' φ', (Builtin.append_ #[t, u] ty #[v, .string (bs l)]).run P w = .ok v' w' ∧ Vec e 1 (m + l.length) (xs ++ by8 l) v' φ' ∧ Stp (ρ ++ φ) (ρ ++ φ') w w' := by
  obtain ⟨i, hi1, hi2, hi3, hi4⟩ := TT.i_ok hz
  have hc := strCells_bs hB
  have hsz := bs_size l
  have hl8 := by8_len l
  have hmx : maxLen = 9223372036854775807 := rfl
  have hzc : (Value.int IntKind.u8 0).cells.size = 1 := rfl
  obtain ⟨hxl, hcase⟩ := hv
  rw [Nat.mul_one] at hxl
  rcases hcase with ⟨rfl, rfl, rfl⟩ | ⟨g, cap, sp, rfl, rfl, hmc, hcm, hsl⟩
  · have hxs : xs = [] := by simpa using hxl
    subst hxs
    by_cases hk : l.length = 0
    · have hl0 : l = [] := by simpa using hk
      subst hl0
      refine ⟨.slice none 0 0, w, [], ?_, ⟨by simp [by8], .inl ⟨rfl, rfl, rfl⟩⟩, Stp.refl hh⟩
      have hf := Lib.run_firstCells_string (P := P) w 1 (bs [])
      rw [hc, hsz] at hf
      simp only [List.length_nil] at hf hsz
      simp [Builtin.append_, run_underlying (TT.u_ok ht), run_underlying (TT.u_ok hu), sizeOf, typeInfo, hi1, hi3, Builtin.lenOf, hsz, hf]
    · have hr := run_append_nil_string (P := P) w t u ty e i (.int .u8 0) (TT.u_ok ht) (TT.u_ok hu) hi1 hi2 (bs l) (by omega) (by omega) (by rw [hsz, hi4]; have := Nat.mul_le_mul_left l.length hb1; omega)
      have e1 : ((bs l).data.map fun b => Value.int .u8 b.toNat) = (by8 l).toArray := by
        apply Array.ext'
        rw [← hc]
        simp [Lib.strCells]
      rw [e1, hsz] at hr
      refine ⟨_, _, [(w.heap.size, cl (by8 l ++ (Builtin.zeroCells (Value.int .u8 0).cells (grownCap w l.length 0 e - l.length)).toList) e)], hr, ⟨by simpa using hl8, .inr ⟨w.heap.size, grownCap w l.length 0 e, (Builtin.zeroCells (Value.int .u8 0).cells (grownCap w l.length 0 e - l.length)).toList, by simp, by simp, ?_, ?_, ?_⟩⟩, ?_⟩
      · have := grownCap_ge w l.length 0 e; omega
      · exact grownCap_le_maxLen w l.length 0 e (by omega)
      · have h2 := grownCap_ge w l.length 0 e
        have h3 : (Builtin.zeroCells (Value.int .u8 0).cells (grownCap w l.length 0 e - l.length)).toList.length = (grownCap w l.length 0 e - l.length) * 1 := by rw [Array.length_toList, size_zeroCells, hzc]
        rw [List.nil_append, List.length_append, hl8, h3]
        omega
      · have hszd : w.drew.heap.size = w.heap.size := rfl
        refine Stp.tail hh rfl rfl rfl (by rw [World.size_alloc, hszd]; omega) (fun b hb _ => Below.heap_alloc w.drew _ b hb) ⟨fun p hp => ?_, by simp⟩ (fun b hb => .inr ?_)
        · simp only [List.mem_singleton] at hp
          subst hp
          have := World.alloc_heap_new w.drew (Obj.cells ((by8 l).toArray ++ Builtin.zeroCells (Value.int .u8 0).cells (grownCap w l.length 0 e - l.length)) e)
          rw [hszd] at this
          rw [this]
          simp [cl]
        · simp at hb; omega
  · have hb : w.heap[g]? = some (cl (xs ++ sp) e) := hh.has (g, cl (xs ++ sp) e) (by simp)
    rw [Nat.mul_one] at hsl
    by_cases hroom : m + l.length ≤ cap
    · have hr := Lib.run_append_room_string (P := P) w t u ty e i (TT.u_ok ht) (TT.u_ok hu) hi1 hi3 g m cap (xs ++ sp).toArray hb (bs l) (by omega) (by rw [List.size_toArray]; omega)
      rw [hc, hsz] at hr
      have hrow : ((xs ++ sp).toArray.toList.take m ++ by8 l ++ (xs ++ sp).toArray.toList.drop (m + l.length)) = (xs ++ by8 l) ++ sp.drop l.length := by
        have e1 : (xs ++ sp).take m = xs := by rw [← hxl]; simp
        have e2 : (xs ++ sp).drop (m + l.length) = sp.drop l.length := by rw [← hxl]; simp [List.drop_append]
        show (xs ++ sp).take m ++ by8 l ++ (xs ++ sp).drop (m + l.length) = _
        rw [e1, e2]
      have hsl2 : xs.length + sp.length = cap := by rw [← List.length_append]; exact hsl
      refine ⟨_, _, [(g, cl ((xs ++ by8 l) ++ sp.drop l.length) e)], hr, ⟨by rw [List.length_append, hxl, hl8, Nat.mul_one], .inr ⟨g, cap, sp.drop l.length, rfl, rfl, hroom, hcm, ?_⟩⟩, ?_⟩
      · rw [List.length_append, List.length_append, hl8, List.length_drop]; omega
      rw [hrow]
      refine Stp.tail hh rfl rfl rfl (by simp [World.setRow]) (fun b hb' hn => ?_) ⟨fun p hp => ?_, by simp⟩ (fun b hb' => .inl (by simpa using hb'))
      · have hne : b ≠ g := by simpa using hn
        simp only [World.setRow, Array.getElem?_modify]
        rw [if_neg (by omega)]
      · simp only [List.mem_singleton] at hp
        subst hp
        simp [World.setRow, Array.getElem?_modify, hb, cl]
    · have hcell : ∀ j u, xs[j]? = some u → w.cell? ((⟨g, 0, none⟩ : Addr).add j) = some u := fun j u hj => by
        rw [Addr.add_lit, cell_of_cl hb, Nat.zero_add]
        have := (List.getElem?_eq_some_iff.1 hj).1
        rw [List.getElem?_append_left this]; exact hj
      have hfit : Builtin.nextslicecap (m + (bs l).size) cap * i.bytes ≤ 281474976710656 := by
        have h1 : Builtin.nextslicecap (m + (bs l).size) cap * 1 ≤ 281474976710656 := growslice_fits (by omega) (by omega)
        have := Nat.mul_le_mul_left (Builtin.nextslicecap (m + (bs l).size) cap) hb1
        rw [hi4]
        omega
      have hr := Lib.run_append_grow_string (P := P) w t u ty e i (.int .u8 0) (TT.u_ok ht) (TT.u_ok hu) hi1 hi2 ⟨g, 0, none⟩ m cap xs (by rw [hi3, hxl, Nat.mul_one]) hcell (bs l) (by omega) (by omega) hfit
      rw [hc, hsz] at hr
      have h2 := grownCap_ge w (m + l.length) cap e
      refine ⟨_, _, [(w.heap.size, cl ((xs ++ by8 l) ++ (Builtin.zeroCells (Value.int .u8 0).cells (grownCap w (m + l.length) cap e - (m + l.length))).toList) e)], hr, ⟨by rw [List.length_append, hxl, hl8, Nat.mul_one], .inr ⟨w.heap.size, grownCap w (m + l.length) cap e, _, rfl, rfl, h2, grownCap_le_maxLen w (m + l.length) cap e (by omega), ?_⟩⟩, ?_⟩
      · have h3 : (Builtin.zeroCells (Value.int .u8 0).cells (grownCap w (m + l.length) cap e - (m + l.length))).toList.length = (grownCap w (m + l.length) cap e - (m + l.length)) * 1 := by rw [Array.length_toList, size_zeroCells, hzc]
        rw [List.length_append, List.length_append, hl8, h3]
        omega
      · have hszd : w.drew.heap.size = w.heap.size := rfl
        refine Stp.tail hh rfl rfl rfl (by rw [World.size_alloc, hszd]; omega) (fun b hb _ => Below.heap_alloc w.drew _ b hb) ⟨fun p hp => ?_, by simp⟩ (fun b hb => .inr ?_)
        · simp only [List.mem_singleton] at hp
          subst hp
          have := World.alloc_heap_new w.drew (Obj.cells (xs.toArray ++ (by8 l).toArray ++ Builtin.zeroCells (Value.int .u8 0).cells (grownCap w (m + l.length) cap e - (m + l.length))) e)
          rw [hszd] at this
          rw [this]
          simp [cl]
        · simp at hb; omega
section
variable {C : Cx} {ops : List Oper} {Q : KQ} {o : Oper} {rest : List Oper} {fr : Fr} {σ : Heap} {d : Nat}
/-- 'append(b, s...)'. -/
theorem KO.appendS {s x : Operand} {t u e : TypeId} {m by' : Nat} {l : List Nat} {xs : List Value} {v : Value} (ρ φ : Heap) (hp : List.Perm σ (ρ ++ φ)) (hg : guardOf ops (look fr) o = some true) (hd : o.dst = some d) (hn : Nat.blt d C.N = true) (ho : o.op = .call ⟨.builtin .append, #[s, x], #[t, u]⟩)
    (hs : opnd (look fr) s = some (true, v)) (hx : opnd (look fr) x = some (true, .string (bs l))) (ht : C.T.u t = some (.slice e)) (hu : C.T.u u = some .string) (hz : C.T.i e = some (.int .u8 0, 1, by')) (hb1 : Nat.ble by' 1 = true)
    (hv : Vec e 1 m xs v φ) (hB : Byt l) (hby : m + l.length ≤ 140737488355328)
    (h : ∀ v' φ', Vec e 1 (m + l.length) (xs ++ by8 l) v' φ' → KO C ops Q rest ((d, true, v') :: fr) (ρ ++ φ')) : KO C ops Q (o :: rest) fr σ := by
  refine KO.perm hp ?_
  refine KO.eff (Post := fun v' σ' => ∃ φ', Vec e 1 (m + l.length) (xs ++ by8 l) v' φ' ∧ σ' = ρ ++ φ') hg hd hn (fun a w hL hO => .inl ?_) ?_
  · obtain ⟨v', w', φ', r1, r2, r3⟩ := run_appendS (ty := o.type) ht hu hz (Nat.le_of_ble_eq_true hb1) hv hO.has hB hby
    refine ⟨v', w', ?_, ρ ++ φ', ⟨φ', r2, rfl⟩, r3⟩
    simp [execOp, ho, resolve, invoke, builtin, opnd_ev hL hs rfl, opnd_ev hL hx rfl]
    rw [r1]
    simp
  · rintro v' σ' ⟨φ', h1, rfl⟩
    exact h v' φ' h1
end
section
variable {C : Cx} {L : Look} {σ : Heap} {g : Bool} {o : Oper}
/-- A cut of an array. -/
theorem qt_sliceA {t e : TypeId} {x hi' : Operand} {lo : Option Operand} {gx gh : Bool} {a : Addr} {N n by' h l : Nat} {z : Value} {k : IntKind} {c : Int} {lv : Option Value} (ho : o.op = .slice t x lo (some hi') none) (hx : opnd L x = some (gx, .pointer (some a))) (hh : opnd L hi' = some (gh, .int k c)) (hi : g = true → (gx && gh) = true)
    (e1 : ∀ ac, LOk L ac → g = true → lo.map ac.eval = lv) (hu : C.T.u t = some (.array N e)) (hz : C.T.i e = some (z, n, by'))
    (hb : g = true → 0 ≤ c ∧ c ≤ (N : Int) ∧ h = c.toNat) (hl : g = true → (lv = none ∧ l = 0) ∨ ∃ k a, lv = some (.int k a) ∧ 0 ≤ a ∧ a ≤ (h : Int) ∧ l = a.toNat) : Qt C L σ g o (.slice (some (if N = l then a else a.add (l * n))) (h - l) (N - l)) :=
  qt_val fun ac w hL _ hg => by
    have h' := hi hg
    rw [Bool.and_eq_true] at h'
    obtain ⟨b1, b2, b3⟩ := hb hg
    have := run_bounds (P := C.P) (w := w) (isS := false) (len := N) (cap := N) (lo := lv) (hi := some (.int k c)) (mx := none) (l := l) (h := h) (m := N) (.inl ⟨rfl, rfl⟩) (fun e => by cases e) (.inr ⟨k, c, rfl, b1, b2, b3⟩) (hl hg)
    simp [execOp, ho, opnd_ev hL hx h'.1, opnd_ev hL hh h'.2, e1 ac hL hg, Instr.sliceAt, Instr.sureAddr, run_underlying (TT.u_ok hu), this, run_sizeOf hz]
/-- Bytes told as a string. -/
theorem qt_b2s {s d' e : TypeId} {x : Operand} {gx : Bool} {b off m c : Nat} {l : List Nat} (ho : o.op = .convert s d' x) (hx : opnd L x = some (gx, .slice (some ⟨b, off, none⟩) m c)) (hi : g = true → gx = true) (hs : C.T.u s = some (.slice e)) (he : C.T.u e = some (.int .u8)) (hd : C.T.u d' = some .string)
    (hl : l.length = m) (hB : Byt l) (hc : ∀ j u, (by8 l)[j]? = some u → Cel C.E.β σ b (off + j) u) : Qt C L σ g o (.string (bs l)) :=
  qt_val fun ac w hL hO hg => by
    have h := run_convert_bytes_arg (P := C.P) w s e (TT.u_ok hs) (TT.u_ok he) b off m c (l.map fun n : Nat => (n : Int)) (by simpa using hl) (fun i hi => by
      have hi' : i < l.length := by omega
      have := hc i (.int .u8 (l[i] : Nat)) (by simp [by8, hi'])
      rw [this.ok hO]
      simp [List.getD_eq_getElem?_getD, hi']) d' (TT.u_ok hd)
    have e2 : strOfNums (l.map fun n : Nat => (n : Int)) = bs l := by
      unfold strOfNums bs
      rw [List.map_map]
      congr 2
    rw [e2] at h
    simp [execOp, ho, opnd_ev hL hx (hi hg), h]
/-- unsafe.SliceData of a slice with room. -/
theorem qt_sliceData {x : Operand} {t : TypeId} {gx : Bool} {a : Addr} {n c : Nat} (ho : o.op = .call ⟨.builtin .unsafeSliceData, #[x], #[t]⟩) (hx : opnd L x = some (gx, .slice (some a) n c)) (hi : g = true → gx = true) (hc : g = true → c ≠ 0) : Qt C L σ g o (.pointer (some a)) :=
  qt_val fun ac w hL _ hg => by
    have h := Lib.run_unsafeSliceData_row (P := C.P) w #[t] o.type a n c (hc hg)
    simp [execOp, ho, resolve, invoke, builtin, opnd_ev hL hx (hi hg)]
    rw [h]
    simp
/-- unsafe.String over bytes that the call owns: they are frozen, and given up. -/
theorem eo_unsafeString {x y : Operand} {pt it e : TypeId} {gb by' : Nat} {l : List Nat} {sp : List Value} (ρ : Heap) (hp : List.Perm σ ((gb, cl (by8 l ++ sp) e) :: ρ)) (ho : o.op = .call ⟨.builtin .unsafeString, #[x, y], #[pt, it]⟩)
    (hx : opnd L x = some (true, .pointer (some ⟨gb, 0, none⟩))) (hy : opnd L y = some (true, .int .i64 (l.length : Int))) (hu : C.T.u pt = some (.pointer e)) (hz : C.T.i e = some (.int .u8 0, 1, by')) (hB : Byt l) (h1 : 1 ≤ l.length) (h2 : l.length ≤ 140737488355328) :
    EO C L σ o (fun v s => v = .string (bs l) ∧ s = ρ) := fun ac w hL hO => .inl (by
  have hsub := Sub.perm hp hO.has
  have hh := hO.has.sub hsub
  have hb : w.heap[gb]? = some (cl (by8 l ++ sp) e) := hh.has (gb, cl (by8 l ++ sp) e) (List.Mem.head _)
  obtain ⟨i, hi1, hi2, hi3, hi4⟩ := TT.i_ok hz
  have hce : C.P.cellsOf e = 1 := by unfold Program.cellsOf; rw [hi1]; simp [hi3]
  have hsh : w.shape? gb = some (e, (by8 l ++ sp).length) := by unfold World.shape?; rw [hb]; simp [cl]
  have hne : l.map Nat.toUInt8 ≠ [] := by
    intro h
    have := congrArg List.length h
    rw [List.length_map, List.length_nil] at this
    omega
  have hr := Lib.run_unsafeString_row (P := C.P) w pt it o.type e (TT.u_ok hu) hce gb (by8 l ++ sp).length hsh (l.map Nat.toUInt8) hne (by rw [List.length_map, List.length_append, by8_len]; omega) (by rw [List.length_map]; omega) (fun j x hj => by
    rw [List.getElem?_map] at hj
    obtain ⟨n, hn, hx'⟩ := Option.map_eq_some_iff.1 hj
    subst hx'
    rw [Addr.add_lit, cell_of_cl hb, Nat.zero_add, List.getElem?_append_left (by rw [by8_len]; exact (List.getElem?_eq_some_iff.1 hn).1), u8_nat (hB n (List.mem_of_getElem? hn))]
    simp [by8, hn])
  rw [List.length_map] at hr
  have hn0 : ¬ l.length = 0 := by omega
  refine ⟨.string (bs l), w.freeze ⟨gb, 0, none⟩ l.length, ?_, ρ, ⟨rfl, rfl⟩, ?_⟩
  · simp [execOp, ho, resolve, invoke, builtin, opnd_ev hL hx rfl, opnd_ev hL hy rfl]
    rw [hr]
    simp [bs]
  · have hs0 : Stp ((gb, cl (by8 l ++ sp) e) :: ρ) ρ w (w.freeze ⟨gb, 0, none⟩ l.length) := by
      have hnd := hh.nodup
      simp only [keys_cons, List.nodup_cons] at hnd
      have hfz : ∀ b, b ≠ gb → (w.freeze ⟨gb, 0, none⟩ l.length).heap[b]? = w.heap[b]? := fun b hb' => by
        unfold World.freeze
        rw [if_neg hn0]
        simp only [Array.getElem?_modify]
        rw [if_neg (fun h => hb' h.symm)]
      refine ⟨by unfold World.freeze; rw [if_neg hn0], by unfold World.freeze; rw [if_neg hn0], by unfold World.freeze; rw [if_neg hn0], by unfold World.freeze; rw [if_neg hn0]; simp, fun b hb1 hb2 => hfz b (fun h => hb2 (by rw [h]; simp)), ⟨fun p hp' => ?_, hnd.2⟩, fun b hb' => .inl (by simp [hb'])⟩
      rw [hfz p.1 (fun h => hnd.1 (by rw [← h]; exact mem_keys hp'))]
      exact hh.has p (List.mem_cons_of_mem _ hp')
    exact Stp.permL hp hs0)
/-- A pointer as an unsafe one, and back. -/
theorem run_seen {P : Program} {w : World} {b off : Nat} {cs : List Value} {e : TypeId} (hb : w.heap[b]? = some (cl cs e)) : (Conv.seenAt ⟨b, off, none⟩).run P w = .ok ⟨b, off, none⟩ w := by
  have hsh : w.shape? b = some (e, cs.length) := by unfold World.shape?; rw [hb]; simp [cl]
  simp [Conv.seenAt, viewAt, hsh]
theorem qt_toUnsafe {s d' t e : TypeId} {x : Operand} {gx : Bool} {b n by' : Nat} {cs : List Value} {z : Value} (ho : o.op = .convert s d' x) (hx : opnd L x = some (gx, .pointer (some ⟨b, 0, none⟩))) (hi : g = true → gx = true) (hs : C.T.u s = some (.pointer t)) (hd : C.T.u d' = some .unsafePointer)
    (hz : C.T.i t = some (z, n + 1, by')) (hm : (b, cl cs e) ∈ σ) (h1 : 0 < cs.length) : Qt C L σ g o (.pointer (some ⟨b, 0, none⟩)) :=
  qt_val fun ac w hL hO hg => by
    have hb := hO.has.has _ hm
    have hsh : w.shape? b = some (e, cs.length) := by unfold World.shape?; rw [hb]; simp [cl]
    have h2 : ¬ cs.length ≤ 0 := by omega
    have h := run_seen (P := C.P) (off := 0) hb
    simp [execOp, ho, opnd_ev hL hx (hi hg), convert, Conv.unsafePointer, run_underlying (TT.u_ok hs), run_underlying (TT.u_ok hd), h, cellsIn, hsh, run_sizeOf hz, h2, show cs ≠ [] from fun h => by rw [h] at h1; exact Nat.lt_irrefl _ h1]
theorem qt_fromUnsafe {s d' t e : TypeId} {x : Operand} {gx : Bool} {b n by' : Nat} {cs : List Value} {z : Value} (ho : o.op = .convert s d' x) (hx : opnd L x = some (gx, .pointer (some ⟨b, 0, none⟩))) (hi : g = true → gx = true) (hs : C.T.u s = some .unsafePointer) (hd : C.T.u d' = some (.pointer t))
    (hz : C.T.i t = some (z, n + 1, by')) (hm : (b, cl cs e) ∈ σ) (hl : liesAt C.P C.P.depth e (cs.length / C.P.cellsOf e) 0 t 1 = true) : Qt C L σ g o (.pointer (some ⟨b, 0, none⟩)) :=
  qt_val fun ac w hL hO hg => by
    have hb := hO.has.has _ hm
    have hsh : w.shape? b = some (e, cs.length) := by unfold World.shape?; rw [hb]; simp [cl]
    have h := run_seen (P := C.P) (off := 0) hb
    simp [execOp, ho, opnd_ev hL hx (hi hg), convert, Conv.unsafePointer, run_underlying (TT.u_ok hs), run_underlying (TT.u_ok hd), h, hsh, run_sizeOf hz, variablesAt, hl]
/-- One pointer beside itself. -/
theorem qt_ptrNe {t t' u : TypeId} {x y : Operand} {gx gy : Bool} {a : Addr} {n by' : Nat} {z : Value} (ho : o.op = .binOp .neq t x y t') (hx : opnd L x = some (gx, .pointer (some a))) (hy : opnd L y = some (gy, .pointer (some a))) (hi : g = true → (gx && gy) = true)
    (hu : C.T.u t = some (.pointer u)) (hz : C.T.i u = some (z, n + 1, by')) : Qt C L σ g o (.bool false) :=
  qt_val fun ac w hL _ hg => by
    have h := hi hg
    rw [Bool.and_eq_true] at h
    have h2 : (sameAddr a a).run C.P w = .ok true w := by simp [sameAddr]
    have h3 : (Op.equalIn Op.maxDepth t (.pointer (some a)) (.pointer (some a))).run C.P w = .ok true w := by
      rw [show Op.maxDepth = (Op.maxDepth - 1) + 1 from rfl]
      simp [Op.equalIn, run_underlying (TT.u_ok hu), run_sizeOf hz, h2]
    have e1 : (eqGuard .neq t x y (.pointer (some a)) (.pointer (some a))).run C.P w = .ok () w := by
      cases x <;> cases y <;> rfl
    simp [execOp, ho, opnd_ev hL hx h.1, opnd_ev hL hy h.2, e1, binOp, Op.equal, h3]
end
end Go.K
