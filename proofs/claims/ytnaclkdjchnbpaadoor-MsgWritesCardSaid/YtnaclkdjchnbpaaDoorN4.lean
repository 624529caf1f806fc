/- The document's rows, walked: who has a row, a request's numbers, numbers laid, noughts. -/
import Derived.Test.YtnaclkdjchnbpaaDoorN3
import Derived.Test.YtnaclkdjchnbpaaDoorK30
import Derived.Test.YtnaclkdjchnbpaaDoorW4
namespace Go.Proofs.YtnaclkdjchnbpaaDoor
open Go Go.K

def ofB (l : List Nat) : ByteArray := ⟨(l.map UInt8.ofNat).toArray⟩
theorem byt_ofB {l : List Nat} (h : Byt l) : byt (ofB l) = l := by
  unfold byt ofB
  rw [List.map_map]
  conv => rhs; rw [← List.map_id l]
  apply List.map_congr_left
  intro x hx
  have := h x hx
  show (UInt8.ofNat x).toNat = x
  simp only [UInt8.toNat_ofNat']
  omega
def rowV (w : RowT) : List Value := [.string w.name, .int .i64 (w.size : Int), .int .i64 (w.many : Int), .string (ofB w.ops)]
def rowsV (l : List RowT) : List Value := l.flatMap rowV
def uv (l : List Nat) : List Value := l.map fun (n : Nat) => .int .u64 (n : Int)
theorem uv_len (l : List Nat) : (uv l).length = l.length := by simp [uv]
theorem uv_get {l : List Nat} {i s : Nat} (h : l[i]? = some s) : (uv l)[i]? = some (.int .u64 (s : Int)) := by simp [uv, h]
theorem cuv {β : Nat → Option Obj} {σ : Heap} {b off n : Nat} {l : List Nat} {s : Nat} (h : ∀ (j : Nat) (u : Value), (uv l)[j]? = some u → Cel β σ b (off + j) u) (hi : l[n]? = some s) : Cel β σ b (off + ((n : Nat) : Int).toNat * 1) (.int .u64 (s : Int)) := by
  rw [Int.toNat_natCast, Nat.mul_one]
  exact h n _ (uv_get hi)
theorem hasR_succ {l : List Nat} {j b : Nat} {op : Int} (h : l[j]? = some b) : hasR (l.take (j + 1)) op = (hasR (l.take j) op || decide ((b : Int) - 48 = op)) := by
  unfold hasR
  rw [List.take_add_one, h, List.any_append]
  simp
theorem Has_p (β : Nat → Option Obj) (σ : Heap) (w : RowT) (hw : ∀ b ∈ w.ops, 48 ≤ b ∧ b ≤ 57) (hn : w.ops.length ≤ 100) (op : Int) :
    Go.K.Tr Tryd.prog 33 [.agg (rowV w).toArray, .int .i64 op] β σ (fun v s => v = .bool (hasR w.ops op) ∧ s = σ) := by
  refine Tr.sub ?_
  refine Tr.of_body Tryd.tt (args := [.agg (rowV w).toArray, .int .i64 op]) (fr := [(0, true, .agg (rowV w).toArray), (1, true, .int .i64 op)]) Tryd.func33 rfl (by decide) rfl Tryd.ntmps33 rfl rfl ?_
  intro E hE
  subst hE
  have hB : Byt w.ops := fun b hb => by have := hw b hb; omega
  have hb := byt_ofB hB
  have hz : (ofB w.ops).size = w.ops.length := by rw [← byt_len, hb]
  dsimp only [rowV]
  obtain ⟨s, hs⟩ : ∃ s, s = ofB w.ops := ⟨_, rfl⟩
  rw [← hs] at hb hz ⊢
  repeat' (first | refine KW.seq ?_ | refine KW.region ?_ | refine KO.nil ?_ | refine At.then_normal ?_ | refine KW.block ?_ | ((first | apply KO.val rfl rfl rfl ?kq ?_); (case kq => ((first | apply qt_ev rfl ?hi ); (case hi => (intro h; (repeat' (first | with_reducible exact alln | with_reducible refine allc ?_ ?_ )); all_goals (first | with_reducible rfl )))))) | (refine KO.box rfl rfl rfl rfl rfl rfl ?_; intro _ _) | fail)
  rename_i b2 _
  refine KW.loop (fun j : Nat => j ≤ w.ops.length ∧ hasR (w.ops.take j) op = false) (fun j => ([(5, true, .int .i64 (j : Int)), (2, true, .pointer (some ⟨b2, 0, none⟩)), (1, true, .int .i64 op)], (b2, cl [.string w.name, .int .i64 (w.size : Int), .int .i64 (w.many : Int), .string s] 86) :: σ)) (fun j => w.ops.length - j) 0
    ⟨Nat.zero_le _, by simp [hasR]⟩ (Le.sub (FLe.cons rfl rfl (FLe.cons rfl rfl (FLe.cons rfl rfl (FLe.nil _)))) (List.Sublist.refl _)) ?_
  rintro j ⟨hj, he⟩
  dsimp only
  by_cases hjn : j < w.ops.length
  · obtain ⟨x, hx⟩ : ∃ z, w.ops[j]? = some z := ⟨_, List.getElem?_eq_getElem hjn⟩
    have hx2 : (byt s)[((j : Int)).toNat]? = some x := by rw [hb, Int.toNat_natCast]; exact hx
    have hw1 := hw x (List.mem_of_getElem? hx)
    have hss := hasR_succ (op := op) hx
    have hwr : IntKind.i64.wrap (IntKind.u8.wrap ((x : Int) - 48)) = (x : Int) - 48 := by
      rw [show (x : Int) - 48 = ((x - 48 : Nat) : Int) by omega, wrap_u8, IntKind.wrap_i64]
      omega
    repeat' (first | refine KW.seq ?_ | refine KW.region ?_ | refine KO.nil ?_ | refine At.then_normal ?_ | refine KW.skip ?_ | refine KW.ret ?_ | refine At.then_ret ?_ | refine KW.block ?_ | refine KW.exit ?_ | refine At.block_ret ?_ | refine At.loop_ret ?_ | ((first | apply KO.val rfl rfl rfl ?kq ?_); (case kq => ((first | ((first | apply qt_add rfl rfl rfl ?hi ?om ); (case om => (intro hg; first | omega ))) | apply qt_ev rfl ?hi | ((first | apply qt_load1 rfl rfl ?hi rfl rfl ?hm ?hc ); (case hm => repeat (first | exact List.Mem.head _ )); (case hc => rfl)) | apply qt_indexS rfl rfl rfl ?hi rfl (fun _ => ⟨by omega, hx2⟩) ); (case hi => (intro h; (repeat' (first | with_reducible exact alln | with_reducible refine allc ?_ ?_ | with_reducible refine andi ?_ ?_)); all_goals (first | with_reducible rfl )))))) | (refine KW.cond rfl ?_ ?_ <;> (intro hc; try simp only [kBool] at hc)) | fail)
    · ((first | apply At.done_ret ); (focus (repeat' (first | exact ResVs.nil' | apply ResVs.cons' | exact ResV.tmp' rfl ))); dsimp only [resVal])
      rw [hwr] at hc
      refine ⟨σ, List.Sublist.cons _ (List.Sublist.refl _), ?_, rfl⟩
      have : hasR w.ops op = true := by
        unfold hasR
        exact List.any_eq_true.2 ⟨x, List.mem_of_getElem? hx, decide_eq_true hc⟩
      rw [this]
    · rw [hwr] at hc
      refine At.loop_on (j + 1) ⟨by omega, ?_⟩ (by omega) (Le.sub (by repeat' (first | exact FLe.nil _ | refine FLe.cons rfl rfl ?_)) (List.Sublist.refl _))
      rw [hss, he, decide_eq_false hc]; rfl
    · exfalso; omega
  · have hj2 : j = w.ops.length := by omega
    repeat' (first | refine KW.seq ?_ | refine KW.region ?_ | refine KO.nil ?_ | refine At.then_normal ?_ | refine KW.skip ?_ | refine KW.ret ?_ | refine KW.block ?_ | refine KW.exit ?_ | ((first | apply KO.val rfl rfl rfl ?kq ?_); (case kq => ((first | apply qt_ev rfl ?hi | ((first | apply qt_load1 rfl rfl ?hi rfl rfl ?hm ?hc ); (case hm => repeat (first | exact List.Mem.head _ )); (case hc => rfl)) ); (case hi => (intro h; (repeat' (first | with_reducible exact alln | with_reducible refine allc ?_ ?_ )); all_goals (first | with_reducible rfl )))))) | (refine KW.cond rfl ?_ ?_ <;> (intro hc; try simp only [kBool] at hc)) | (exfalso; omega) | fail)
    ((first | apply At.done_ret ); (focus (repeat' (first | exact ResVs.nil' | apply ResVs.cons' | exact ResV.tmp' rfl ))); dsimp only [resVal])
    refine ⟨σ, List.Sublist.cons _ (List.Sublist.refl _), ?_, rfl⟩
    rw [hj2, List.take_length] at he
    rw [he]
theorem Asked_p (β : Nat → Option Obj) : Go.K.Tr Tryd.prog 32 [] β [] (fun v s => ∃ b, v = .slice (some ⟨b, 0, none⟩) 6 6 ∧ s = [(b, cl (rowsV asked) 86)]) := by
  refine Tr.of_body Tryd.tt (args := []) (fr := []) Tryd.func32 rfl (by decide) rfl Tryd.ntmps32 rfl rfl ?_
  intro E hE
  subst hE
  repeat' (first | refine KW.seq ?_ | refine KW.region ?_ | refine KO.nil ?_ | refine At.then_normal ?_ | refine KW.ret ?_ | ((first | apply KO.val rfl rfl rfl ?kq ?_); (case kq => ((first | apply qt_ev rfl ?hi | apply qt_build rfl rfl ?hi rfl ); (case hi => (intro h; (repeat' (first | with_reducible exact alln | with_reducible refine allc ?_ ?_ )); all_goals (first | with_reducible rfl )))))) | (refine KO.buildSlice rfl rfl rfl rfl rfl rfl rfl rfl rfl rfl rfl rfl rfl rfl ?_; intro _ _) | fail)
  ((first | apply At.done_ret ); (focus (repeat' (first | exact ResVs.nil' | apply ResVs.cons' | exact ResV.tmp' rfl ))); dsimp only [resVal])
  rename_i b _
  exact ⟨b, rfl, rfl⟩
theorem nought_succ {l : List Nat} {j b : Nat} (h : l[j]? = some b) : nought (l.take (j + 1)) = (nought (l.take j) && decide (b = 0)) := by
  unfold nought
  rw [List.take_add_one, h, List.all_append]
  simp
theorem nought_p (β : Nat → Option Obj) (σ : Heap) (l : List Nat) (p : Option Addr) (n c : Nat) (hl : l.length = n) (hp : SL β σ 1 n (uv l) p) (hn : n ≤ 1000000) :
    Go.K.Tr Tryd.prog 36 [.slice p n c] β σ (fun v s => v = .bool (nought l) ∧ s = σ) := by
  refine Tr.of_body Tryd.tt (args := [.slice p n c]) (fr := [(0, true, .slice p n c)]) Tryd.func36 rfl (by decide) rfl Tryd.ntmps36 rfl rfl ?_
  intro E hE
  subst hE
  repeat' (first | refine KW.seq ?_ | refine KW.region ?_ | refine KO.nil ?_ | refine At.then_normal ?_ | refine KW.block ?_ | ((first | apply KO.val rfl rfl rfl ?kq ?_); (case kq => ((first | apply qt_ev rfl ?hi ); (case hi => (intro h; (repeat' (first | with_reducible exact alln | with_reducible refine allc ?_ ?_ )); all_goals (first | with_reducible rfl )))))) | fail)
  refine KW.loop (fun j : Nat => j ≤ n ∧ nought (l.take j) = true) (fun j => ([(3, true, .int .i64 (j : Int)), (0, true, .slice p n c)], σ)) (fun j => n - j) 0
    ⟨Nat.zero_le _, by simp [nought]⟩ (Le.sub (FLe.cons rfl rfl (FLe.cons rfl rfl (FLe.nil _))) (List.Sublist.refl _)) ?_
  rintro j ⟨hj, he⟩
  dsimp only
  by_cases hjn : j < n
  · obtain ⟨b1, o1, rfl, h1⟩ := hp.2 (by omega)
    obtain ⟨x, hx⟩ : ∃ z, l[j]? = some z := ⟨_, List.getElem?_eq_getElem (by omega)⟩
    have hss := nought_succ hx
    repeat' (first | refine KW.seq ?_ | refine KW.region ?_ | refine KO.nil ?_ | refine At.then_normal ?_ | refine KW.skip ?_ | refine KW.ret ?_ | refine At.then_ret ?_ | refine KW.block ?_ | refine KW.exit ?_ | refine At.block_ret ?_ | refine At.loop_ret ?_ | ((first | apply KO.val rfl rfl rfl ?kq ?_); (case kq => ((first | ((first | apply qt_add rfl rfl rfl ?hi ?om | apply qt_indexAddr_slice rfl rfl rfl ?hi rfl rfl ?om); (case om => (intro hg; first | omega ))) | apply qt_ev rfl ?hi ); (case hi => (intro h; (repeat' (first | with_reducible exact alln | with_reducible refine allc ?_ ?_ | with_reducible refine andi ?_ ?_)); all_goals (first | with_reducible rfl )))))) | (refine KW.cond rfl ?_ ?_ <;> (intro hc; try simp only [kBool] at hc)) | ((first | apply KO.val (g := true) rfl rfl rfl); (first | (apply qt_load1_cel rfl rfl ?hi rfl rfl ?hc; (case hc => first | exact fun _ => (cuv h1 hx)))); (case hi => (first | exact fun _ => rfl ))) | (exfalso; omega) | fail)
    · ((first | apply At.done_ret ); (focus (repeat' (first | exact ResVs.nil' | apply ResVs.cons' | exact ResV.tmp' rfl ))); dsimp only [resVal])
      refine ⟨?_, rfl⟩
      have hx0 : x ≠ 0 := by omega
      have : nought l = false := by
        unfold nought
        rw [List.all_eq_false]
        exact ⟨x, List.mem_of_getElem? hx, by simpa using hx0⟩
      rw [this]
    · refine At.loop_on (j + 1) ⟨by omega, ?_⟩ (by omega) (Le.sub (by repeat' (first | exact FLe.nil _ | refine FLe.cons rfl rfl ?_)) (List.Sublist.refl _))
      have hx0 : x = 0 := by omega
      rw [hss, he, hx0]; rfl
  · have hj2 : j = n := by omega
    repeat' (first | refine KW.seq ?_ | refine KW.region ?_ | refine KO.nil ?_ | refine At.then_normal ?_ | refine KW.skip ?_ | refine KW.ret ?_ | refine KW.block ?_ | refine KW.exit ?_ | ((first | apply KO.val rfl rfl rfl ?kq ?_); (case kq => ((first | apply qt_ev rfl ?hi ); (case hi => (intro h; (repeat' (first | with_reducible exact alln | with_reducible refine allc ?_ ?_ )); all_goals (first | with_reducible rfl )))))) | (refine KW.cond rfl ?_ ?_ <;> (intro hc; try simp only [kBool] at hc)) | (exfalso; omega) | fail)
    ((first | apply At.done_ret ); (focus (repeat' (first | exact ResVs.nil' | apply ResVs.cons' | exact ResV.tmp' rfl ))); dsimp only [resVal])
    rw [hj2, List.take_of_length_le (by omega)] at he
    exact ⟨by rw [he], rfl⟩
theorem rowsV_get : ∀ {l : List RowT} {i : Nat} {w : RowT}, l[i]? = some w → ∀ {j : Nat} {v : Value}, (rowV w)[j]? = some v → (rowsV l)[i * 4 + j]? = some v
  | [], _, _, h, _, _, _ => by simp at h
  | x :: l, 0, w, h, j, v, hj => by
    simp only [List.getElem?_cons_zero, Option.some.injEq] at h
    subst h
    show (rowV x ++ rowsV l)[0 * 4 + j]? = _
    rw [Nat.zero_mul, Nat.zero_add, List.getElem?_append_left (List.getElem?_eq_some_iff.1 hj).1]
    exact hj
  | x :: l, i + 1, w, h, j, v, hj => by
    show (rowV x ++ rowsV l)[(i + 1) * 4 + j]? = _
    rw [List.getElem?_append_right (by show 4 ≤ _; omega)]
    rw [show (i + 1) * 4 + j - (rowV x).length = i * 4 + j from by show (i + 1) * 4 + j - 4 = _; omega]
    exact rowsV_get (by simpa using h) hj
theorem celR {β : Nat → Option Obj} {σ : Heap} {b i : Nat} {t : TypeId} {l : List RowT} {w : RowT} (hm : (b, cl (rowsV l) t) ∈ σ) (hi : l[i]? = some w) :
    ∀ j v, (rowV w)[j]? = some v → Cel β σ b (0 + ((i : Nat) : Int).toNat * 4 + j) v := by
  intro j v hj
  refine .inl ⟨_, _, hm, ?_⟩
  rw [Int.toNat_natCast, Nat.zero_add]
  exact rowsV_get hi hj
theorem asked_ops : ∀ w ∈ asked, (∀ b ∈ w.ops, 48 ≤ b ∧ b ≤ 57) ∧ w.ops.length ≤ 100 ∧ w.size ≤ 8 ∧ w.many ≤ 2 := by decide
theorem drop_of {α : Type} {l : List α} {k : Nat} {w : α} (h : l[k]? = some w) : l.drop k = w :: l.drop (k + 1) := by
  obtain ⟨h1, h2⟩ := List.getElem?_eq_some_iff.1 h
  rw [List.drop_eq_getElem_cons h1, h2]
structure S21 where
  k : Nat
  v : Value
  φ : Heap
end Go.Proofs.YtnaclkdjchnbpaaDoor
