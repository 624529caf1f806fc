/- Errors: reflectlite's entries that read or write memory. -/
import Derived.Test.YtnaclkdjchnbpaaDoorE3
namespace Go.Proofs.YtnaclkdjchnbpaaDoor
open Go Go.K Go.Extern

theorem rlm (z : Sem Value) (f : TypeId → Addr → Nat → Nat → Sem Value) (v : Value) :
    ReflectliteValue.method z f #[v] = (do match ← ReflectliteValue.parts v with | none => z | some (t, a, fl) => f t a fl (fl % 32)) := rfl
theorem partsE (b : Nat) (w : World) : (ReflectliteValue.parts (rv 103 b 150)).run Tryd.prog w = .ok (some (103, ⟨b, 0, none⟩, 150)) w := by kernel_rfl
theorem partsN (b : Nat) (w : World) : (ReflectliteValue.parts (rv 32 b 130)).run Tryd.prog w = .ok (some (32, ⟨b, 0, none⟩, 130)) w := by kernel_rfl
theorem partsA (b : Nat) (w : World) : (ReflectliteValue.parts (rv 32 b 386)).run Tryd.prog w = .ok (some (32, ⟨b, 0, none⟩, 386)) w := by kernel_rfl
theorem x_isNil (b p : Nat) (w : World) (ha : w.cell? ⟨b, 0, none⟩ = some (.pointer (some ⟨p, 0, none⟩))) : (callFunc 68 #[rv 103 b 150]).run Tryd.prog w = .ok (.value (.bool false)) w := by
  rw [@run_callFunc_extern Tryd.prog 68 _ (ReflectliteValue.method (ReflectliteValue.valueError "reflectlite.Value.IsNil" 0) ReflectliteValue.isNil) Tryd.func68 (by kernel_rfl) (by kernel_rfl) (by kernel_rfl) (by kernel_rfl), rlm]
  simp only [Sem.run_bind, partsE, Result.andThen]
  simp [ReflectliteValue.isNil, loadVar, isAgg, underlying, Tryd.underlying103, ha, Result.andThen]
theorem elemOfE (w : World) : (Rtype.elem? 103).run Tryd.prog w = .ok (some 32) w := by kernel_rfl
theorem mkN (p : Nat) (w : World) : (ReflectliteValue.mk 32 ⟨p, 0, none⟩ ReflectliteValue.flagAddr).run Tryd.prog w = .ok (rv 32 p 386) w := by kernel_rfl
theorem x_elem (b p : Nat) (w : World) (ha : w.cell? ⟨b, 0, none⟩ = some (.pointer (some ⟨p, 0, none⟩))) : (callFunc 75 #[rv 103 b 150]).run Tryd.prog w = .ok (.value (rv 32 p 386)) w := by
  rw [@run_callFunc_extern Tryd.prog 75 _ (ReflectliteValue.method (ReflectliteValue.valueError "reflectlite.Value.Elem" 0) ReflectliteValue.elem) Tryd.func75 (by kernel_rfl) (by kernel_rfl) (by kernel_rfl) (by kernel_rfl), rlm]
  simp only [Sem.run_bind, partsE, Result.andThen]
  simp [ReflectliteValue.elem, loadVar, isAgg, underlying, Tryd.underlying103, ha, Result.andThen, elemOfE, mkN]
theorem rls (v x : Value) : ReflectliteValue.set #[v, x] = (do
    let (some (dst, a, fl), some (src, b, _)) := (← ReflectliteValue.parts v, ← ReflectliteValue.parts x)
      | unsupported (.noEntry "extern/(internal/reflectlite.Value).Set.zeroValue")
    if fl / ReflectliteValue.flagAddr % 2 == 0 then unsupported (.noEntry "extern/(internal/reflectlite.Value).Set.unaddressable")
    let val ← loadVar src b
    if ← Rtype.directlyAssignable dst src then storeVar dst a val
    else if ← Rtype.implements dst src then
      if (← Rtype.kind src) == 20 then
        match val with
        | .nilIface => unsupported (.noEntry "extern/reflectlite: a nil value of one interface type handed on as a value of another")
        | _ => storeVar dst a val
      else storeVar dst a (.iface src val)
    else panicString ("reflectlite.Set: value of type " ++ (← Rtype.spelt src) ++ " is not assignable to type " ++ (← Rtype.spelt dst))
    pure (.tuple #[])) := rfl
theorem directN (w : World) : (Rtype.directlyAssignable 32 32).run Tryd.prog w = .ok true w := by kernel_rfl
theorem sizeN (w : World) : (sizeOf 32).run Tryd.prog w = .ok 1 w := by kernel_rfl
theorem x_set (p b : Nat) (e : Int) (old : Value) (w : World) (hb : w.cell? ⟨b, 0, none⟩ = some (.int .i64 e)) (ht : w.cell? ⟨p, 0, none⟩ = some old) (hf : w.frozen? ⟨p, 0, none⟩ = false) :
    (callFunc 76 #[rv 32 p 386, rv 32 b 130]).run Tryd.prog w = .ok (.value (.tuple #[])) (w.setCell ⟨p, 0, none⟩ (.int .i64 e)) := by
  rw [@run_callFunc_extern Tryd.prog 76 _ ReflectliteValue.set Tryd.func76 (by kernel_rfl) (by kernel_rfl) (by kernel_rfl) (by kernel_rfl), rls]
  simp only [Sem.run_bind, partsA, partsN, Result.andThen]
  simp [ReflectliteValue.flagAddr, loadVar, isAgg, underlying, Tryd.underlying32, hb, Result.andThen, directN, storeVar, Value.cells, storeCells, Addr.add, sizeN]
  rw [run_store Tryd.prog w ⟨p, 0, none⟩ _ _ (by rfl)]
  simp [ht, hf]
end Go.Proofs.YtnaclkdjchnbpaaDoor
