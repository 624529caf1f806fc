/- What the listed variables hold when a law's call begins; the table of the powers of ten among them. -/
import Derived.Test.YtcnebanpnnblbaaDoorSI
import Derived.Test.YtcnebanpnnblbaaDoorTie
import Derived.Test.YtcnebanpnnblbaaDoorCards
import Derived.SevenTiedAt
import Derived.LaidHandle
namespace Go.Proofs.YtcnebanpnnblbaaDoor
open Go Go.K Go.ChangeShapes Go.WideShapes Go.ChangeAt Go.RowKit

def laidL : List (String × DataW Unit) := [("math/bits.deBruijn32tab", Rows.laid_math_bits_deBruijn32tab), ("math/bits.deBruijn64tab", Rows.laid_math_bits_deBruijn64tab), ("internal/strconv.uint64pow10", Rows.laid_internal_strconv_uint64pow10), ("unicode/utf8.acceptRanges", Rows.laid_unicode_utf8_acceptRanges), ("strconv.ErrRange", Rows.laid_strconv_ErrRange), ("strconv.ErrSyntax", Rows.laid_strconv_ErrSyntax), ("unicode/utf8.first", Rows.laid_unicode_utf8_first)]
/-- A world in which all of them lie: what the program's text lays, and the pinned table. -/
noncomputable def doorW (os : Os) : World :=
  let w := World.doorLaid Tryd.prog 400 os
  { w with heap := w.heap.modify 4 fun o => match o with
    | .cells _ e fz => .cells (((Pinned.utf8FirstZ : List Nat).map fun (n : Nat) => Value.int .u8 (n : Int))).toArray e fz
    | o => o }
theorem door_met (os : Os) (args : Array Value) : laidMetH Tryd.prog laidL ((doorW os).forCall (fun _ _ => 0) ⟨#[], args, []⟩).memory :=
  laidMetH_of_parts3 (fuel := 8) (laidMet_of_run' 8 (by kernel_rfl) (by kernel_rfl)) (by kernel_rfl) (by kernel_rfl)
def TB (β : Nat → Option Obj) : Prop := TBp β
theorem tab64_of {P : Program} {W : World} {name : String} {g t e n g0 t0 f0 : Nat} {p0 : List MemPlace} {cs0 : Array Value} {l : List Nat} (hg : P.globalNamed name = some g) (hty : (P.globals[g]?).map (·.type) = some t) (hu : P.underlying t = some (.array n e)) (hue : P.underlying e = some (.int .u64)) (hc : P.cellsOf e = 1)
    (hn : l.length = n) {data : DataW Unit} (hd : data = .agg (l.map fun x : Nat => .lit (.int .u64 (x : Int))))
    (hg0 : P.globalNamed name = some g0) (ht0 : (P.globals[g0]?).map (·.type) = some t0) (hv0 : W.var? P name = some cs0) (hd0 : DataW.trod (fun _ => ()) P W 0 (fun _ => true) false f0 t0 cs0.toList = some (data, p0)) : Tab64 (fun b => W.heap[b]?) g l := by
  obtain rfl := Option.some.inj (hg.symm.trans hg0)
  obtain rfl := Option.some.inj (hty.symm.trans ht0)
  obtain ⟨xs, m1, _, hx1, hlen, hn3, hel⟩ := DataW.trod_array hu hd0
  rw [hd] at hx1
  simp only [Prod.mk.injEq, DataW.agg.injEq] at hx1
  intro j v hj
  have hjl := (List.getElem?_eq_some_iff.1 hj).1
  have h1 := hel j (by omega)
  rw [hc, Nat.mul_one] at h1
  obtain ⟨x, hx⟩ : ∃ x, xs[j]? = some x := ⟨_, List.getElem?_eq_getElem (by omega)⟩
  rw [hx] at h1
  obtain ⟨k, e1, e2, _⟩ := DataW.trod_int hue h1
  have h2 : (xs.map (·.1))[j]? = some (.lit (.int .u64 (v : Int))) := by
    rw [← hx1.1, List.getElem?_map, hj]; rfl
  rw [List.getElem?_map, hx, e2] at h2
  simp only [Option.map_some, Option.some.injEq, DataW.lit.injEq, Lit.int.injEq, true_and] at h2
  subst h2
  have h3 := World.var?_cell hg hv0 j
  have h4 : cs0[j]? = some (.int .u64 (v : Int)) := by
    have : (cs0.toList.drop j)[0]? = some (.int .u64 (v : Int)) := by
      have h5 : ((cs0.toList.drop j).take 1)[0]? = some (.int .u64 (v : Int)) := by rw [e1]; rfl
      rwa [List.getElem?_take_of_lt (by decide)] at h5
    rw [List.getElem?_drop, Nat.add_zero] at this
    simpa using this
  rw [h4] at h3
  exact rc_of_cell h3
theorem tb_of (W : World) (h : laidMetH Tryd.prog laidL W) : TB (fun b => W.heap[b]?) := by
  have h1 : laidMet Tryd.prog laidL W := by
    have := MakeChecks.laidMetH_plain Tryd.prog laidL W (by kernel_rfl)
    rw [this] at h
    exact h
  obtain ⟨ps, hL, _⟩ := h1
  obtain ⟨_, _, _, _, _, _, _, _, _, _, hL, _⟩ := hL
  obtain ⟨_, _, _, _, _, _, _, _, _, _, hL, _⟩ := hL
  obtain ⟨g0, t0, cs0, f0, p0, q0, hg0, ht0, hv0, hd0, _⟩ := hL
  exact tab64_of (P := Tryd.prog) (name := "internal/strconv.uint64pow10") (g := 1) (t := 135) (e := 115) (n := 20) (by kernel_rfl) (by kernel_rfl) Tryd.underlying135 Tryd.underlying115 (by kernel_rfl) (by decide) rfl hg0 ht0 hv0 hd0
end Go.Proofs.YtcnebanpnnblbaaDoor
