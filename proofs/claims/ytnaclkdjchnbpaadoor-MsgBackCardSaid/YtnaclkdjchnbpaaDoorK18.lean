/- The program logic, eighteenth part: 'append(nil, make([]E, n)...)'. -/
import Derived.Test.YtnaclkdjchnbpaaDoorK17
import Derived.Lib.AppendZeros
namespace Go.K
open Go Go.RowKit

theorem run_append_zeros {P : Program} {T : TT P} {t tn ty e : Nat} {z : Value} {n by' : Nat} {zs : List Value} {kq kn : IntKind} (ht : T.u t = some (.slice e)) (htn : T.u tn = some (.int kn)) (hz : T.i e = some (z, n, by')) (hzc : vcells z = some zs) (hzl : zs.length = n) (hn0 : 0 < n)
    {k : Nat} {σ : Heap} {w : World} (hk : 0 < k) (hm : k ≤ maxLen) (hby : k * by' ≤ 140737488355328) (hh : Has σ w) :
    ∃ cap sp w', (Builtin.append_ #[t, tn] ty #[.slice none 0 0, .int kq k]).run P w = .ok (.slice (some ⟨w.heap.size, 0, none⟩) k cap) w' ∧ sp.length = cap * n ∧ k ≤ cap ∧ cap ≤ maxLen ∧ Stp σ ((w.heap.size, cl sp e) :: σ) w w' := by
  obtain ⟨i, hi1, hi2, hi3, hi4⟩ := TT.i_ok hz
  subst hi3 hi4
  have hzs : z.cells.size = i.size := by rw [vcells_ok hzc]; simpa using hzl
  have hm63 : (k : Int) ≤ 9223372036854775807 := by have : maxLen = 9223372036854775807 := rfl; omega
  have hr := Lib.run_append_nil_zeros (P := P) w t tn ty e i z kq kn (TT.u_ok ht) (TT.u_ok htn) hi1 hi2 k hk hn0 hm63 (by omega)
  have h2 := grownCap_ge w k 0 e
  refine ⟨grownCap w k 0 e, (Builtin.zeroCells z.cells k ++ Builtin.zeroCells z.cells (grownCap w k 0 e - k)).toList, _, hr, ?_, h2, grownCap_le_maxLen w k 0 e (by omega), ?_⟩
  · rw [Array.length_toList, Array.size_append, size_zeroCells, size_zeroCells, hzs, ← Nat.add_mul]
    congr 1; omega
  · have hsz : w.drew.heap.size = w.heap.size := rfl
    have hst : Stp (σ ++ []) (σ ++ [(w.heap.size, cl (Builtin.zeroCells z.cells k ++ Builtin.zeroCells z.cells (grownCap w k 0 e - k)).toList e)]) w (w.drew.alloc (.cells (Builtin.zeroCells z.cells k ++ Builtin.zeroCells z.cells (grownCap w k 0 e - k)) e)) := by
      refine Stp.tail (by simpa using hh) rfl rfl rfl (by rw [World.size_alloc, hsz]; omega) (fun b hb _ => Below.heap_alloc w.drew _ b hb) ⟨fun p hp => ?_, by simp⟩ (fun b hb => .inr ?_)
      · simp only [List.mem_singleton] at hp
        subst hp
        have := World.alloc_heap_new w.drew (Obj.cells (Builtin.zeroCells z.cells k ++ Builtin.zeroCells z.cells (grownCap w k 0 e - k)) e)
        rw [hsz] at this
        rw [this]
        simp [cl]
      · simp at hb; omega
    rw [List.append_nil] at hst
    exact hst.sub (Sub.perm List.perm_append_comm hst.has)
section
variable {C : Cx} {ops : List Oper} {Q : KQ} {o : Oper} {rest : List Oper} {fr : Fr} {σ : Heap} {d : Nat}
theorem KO.appendZ {s x : Operand} {t tn e : TypeId} {z : Value} {n by' : Nat} {a : Int} {zs : List Value} {kq kn : IntKind} (hg : guardOf ops (look fr) o = some true) (hd : o.dst = some d) (hn : Nat.blt d C.N = true) (ho : o.op = .call ⟨.builtin .append, #[s, x], #[t, tn]⟩)
    (hs : opnd (look fr) s = some (true, .slice none 0 0)) (hx : opnd (look fr) x = some (true, .int kq a)) (hu : C.T.u t = some (.slice e)) (hun : C.T.u tn = some (.int kn)) (hz : C.T.i e = some (z, n, by')) (hzc : vcells z = some zs) (hzl : zs.length = n) (hn0 : 0 < n)
    (h0 : 0 < a) (hm : a.toNat ≤ maxLen) (hby : a.toNat * by' ≤ 140737488355328)
    (h : ∀ b cap sp, b ∉ keys σ → sp.length = cap * n → a.toNat ≤ cap → cap ≤ maxLen → KO C ops Q rest ((d, true, .slice (some ⟨b, 0, none⟩) a.toNat cap) :: fr) ((b, cl sp e) :: σ)) : KO C ops Q (o :: rest) fr σ := by
  obtain ⟨k, rfl⟩ := Int.eq_ofNat_of_zero_le (Int.le_of_lt h0)
  refine KO.eff (Post := fun v' σ' => ∃ b cap sp, b ∉ keys σ ∧ sp.length = cap * n ∧ k ≤ cap ∧ cap ≤ maxLen ∧ v' = .slice (some ⟨b, 0, none⟩) k cap ∧ σ' = (b, cl sp e) :: σ) hg hd hn (fun ac w hL hO => .inl ?_) ?_
  · obtain ⟨cap, sp, w', r1, r2, r3, r4, r5⟩ := run_append_zeros (ty := o.type) (kq := kq) hu hun hz hzc hzl hn0 (k := k) (by omega) (by simpa using hm) (by simpa using hby) hO.has
    refine ⟨_, w', ?_, _, ⟨w.heap.size, cap, sp, hO.has.fresh, r2, r3, r4, rfl, rfl⟩, r5⟩
    simp [execOp, ho, resolve, invoke, builtin, opnd_ev hL hs rfl, opnd_ev hL hx rfl]
    rw [r1]
    simp
  · rintro v' σ' ⟨b, cap, sp, h1, h2, h3, h4, rfl, rfl⟩
    exact h b cap sp h1 h2 (by simpa using h3) h4
theorem qt_cap {L : Look} {g : Bool} {x : Operand} {t : TypeId} {gx : Bool} {p : Option Addr} {n c : Nat} {e : TypeId} (ho : o.op = .call ⟨.builtin .cap, #[x], #[t]⟩) (hx : opnd L x = some (gx, .slice p n c)) (hi : g = true → gx = true) (hu : C.T.u t = some (.slice e)) : Qt C L σ g o (.int .i64 (c : Int)) :=
  qt_val fun ac w hL hO hg => by
    simp [execOp, ho, resolve, invoke, builtin, opnd_ev hL hx (hi hg), Builtin.cap_, run_underlying (TT.u_ok hu), goInt]
theorem qt_no {L : Look} {g : Bool} {v : Value} (h : g = false) : Qt C L σ g o v := fun _ _ _ _ hg => by rw [h] at hg; cases hg
end
end Go.K
