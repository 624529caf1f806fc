/- Errors: what reflectlite tells of their types: facts. -/
import Derived.Test.YtpnbcegefhdmdaaDoorE1
namespace Go.Proofs.YtpnbcegefhdmdaaDoor
open Go Go.K Go.Extern

def hdl (t : Nat) : Value := .pointer (some ⟨4, t, none⟩)
def rt (t : Nat) : Value := .iface 90 (.agg #[hdl t])
/-- A Value of reflectlite: of what type, where it lies, its flags. -/
def rv (t b : Nat) (fl : Int) : Value := .agg #[hdl t, .pointer (some ⟨b, 0, none⟩), .int .u64 fl]
theorem xv_typeE (b : Nat) : XV Tryd.prog 38 [rv 63 b 150] (rt 63) := ⟨fun w => by kernel_rfl⟩
theorem xa_valE (p : Option Addr) : XA Tryd.prog 37 [.iface 63 (.pointer p)] (fun b => rv 63 b 150) [.pointer p] 63 := ⟨fun w => by kernel_rfl⟩
theorem xa_valN (e : Int) : XA Tryd.prog 37 [.iface 23 (.int .i64 e)] (fun b => rv 23 b 130) [.int .i64 e] 23 := ⟨fun w => by kernel_rfl⟩
theorem me_kind (h : Value) : Meth Tryd.prog 90 (.agg #[h]) "Kind" 61 h := ⟨fun w => by kernel_rfl⟩
theorem me_elem (h : Value) : Meth Tryd.prog 90 (.agg #[h]) "Elem" 86 (.agg #[h]) := ⟨fun w => by kernel_rfl⟩
theorem me_impl (h : Value) : Meth Tryd.prog 90 (.agg #[h]) "Implements" 87 (.agg #[h]) := ⟨fun w => by kernel_rfl⟩
theorem me_assn (h : Value) : Meth Tryd.prog 90 (.agg #[h]) "AssignableTo" 84 (.agg #[h]) := ⟨fun w => by kernel_rfl⟩
theorem xv_kindP : XV Tryd.prog 61 [hdl 63] (.int .u8 22) := ⟨fun w => by kernel_rfl⟩
theorem xv_kindN : XV Tryd.prog 61 [hdl 23] (.int .u8 2) := ⟨fun w => by kernel_rfl⟩
theorem xv_elem : XV Tryd.prog 86 [.agg #[hdl 63]] (rt 23) := ⟨fun w => by kernel_rfl⟩
theorem xv_impl : XV Tryd.prog 87 [.agg #[hdl 23], rt 26] (.bool true) := ⟨fun w => by kernel_rfl⟩
theorem xv_toN (v : Value) : XV Tryd.prog 42 [.iface 23 v] (rt 23) := ⟨fun w => by kernel_rfl⟩
theorem xv_toF (v : Value) : XV Tryd.prog 42 [.iface 41 v] (rt 41) := ⟨fun w => by kernel_rfl⟩
theorem xv_toP (v : Value) : XV Tryd.prog 42 [.iface 44 v] (rt 44) := ⟨fun w => by kernel_rfl⟩
theorem xv_toO (v : Value) : XV Tryd.prog 42 [.iface 86 v] (rt 86) := ⟨fun w => by kernel_rfl⟩
theorem xv_asN : XV Tryd.prog 84 [.agg #[hdl 23], rt 23] (.bool true) := ⟨fun w => by kernel_rfl⟩
theorem xv_asF : XV Tryd.prog 84 [.agg #[hdl 41], rt 23] (.bool false) := ⟨fun w => by kernel_rfl⟩
theorem xv_asP : XV Tryd.prog 84 [.agg #[hdl 44], rt 23] (.bool false) := ⟨fun w => by kernel_rfl⟩
theorem xv_asO : XV Tryd.prog 84 [.agg #[hdl 86], rt 23] (.bool false) := ⟨fun w => by kernel_rfl⟩
theorem me_unF (p : Option Addr) : Meth Tryd.prog 41 (.pointer p) "Unwrap" 20 (.pointer p) := ⟨fun w => by kernel_rfl⟩
theorem me_unP (p : Option Addr) : Meth Tryd.prog 44 (.pointer p) "Unwrap" 21 (.pointer p) := ⟨fun w => by kernel_rfl⟩
/-! An interface asked for. -/
theorem ti0 {A T : TypeId} {ms : Array (String × TypeId)} (hu : Tryd.prog.underlying A = some (.interface ms)) (h : (Tryd.prog.info? T).map (fun i => (lacking ms i.methods).isEmpty) = some false) (hz : (Tryd.prog.info? A).map (·.zero) = some (some .nilIface)) (xt : TypeId) (v : Value) :
    TAs Tryd.prog (.iface T v) xt A (.tuple [.nilIface, .bool false].toArray) := ⟨fun w => run_typeAssert_lacksB hu h hz v xt w⟩
theorem ti1 {A T : TypeId} {ms : Array (String × TypeId)} (hu : Tryd.prog.underlying A = some (.interface ms)) (h : (Tryd.prog.info? T).map (fun i => (lacking ms i.methods).isEmpty) = some true) (xt : TypeId) (v : Value) :
    TAs Tryd.prog (.iface T v) xt A (.tuple [.iface T v, .bool true].toArray) := ⟨fun w => run_typeAssert_hasB hu h v xt w⟩
theorem tiAs_N (xt : TypeId) (v : Value) : TAs Tryd.prog (.iface 23 v) xt 94 (.tuple [.nilIface, .bool false].toArray) := ti0 Tryd.underlying94 (by kernel_rfl) (by kernel_rfl) xt v
theorem tiAs_F (xt : TypeId) (v : Value) : TAs Tryd.prog (.iface 41 v) xt 94 (.tuple [.nilIface, .bool false].toArray) := ti0 Tryd.underlying94 (by kernel_rfl) (by kernel_rfl) xt v
theorem tiAs_P (xt : TypeId) (v : Value) : TAs Tryd.prog (.iface 44 v) xt 94 (.tuple [.nilIface, .bool false].toArray) := ti0 Tryd.underlying94 (by kernel_rfl) (by kernel_rfl) xt v
theorem tiAs_O (xt : TypeId) (v : Value) : TAs Tryd.prog (.iface 86 v) xt 94 (.tuple [.nilIface, .bool false].toArray) := ti0 Tryd.underlying94 (by kernel_rfl) (by kernel_rfl) xt v
theorem tiIs_N (xt : TypeId) (v : Value) : TAs Tryd.prog (.iface 23 v) xt 100 (.tuple [.nilIface, .bool false].toArray) := ti0 Tryd.underlying100 (by kernel_rfl) (by kernel_rfl) xt v
theorem tiIs_F (xt : TypeId) (v : Value) : TAs Tryd.prog (.iface 41 v) xt 100 (.tuple [.nilIface, .bool false].toArray) := ti0 Tryd.underlying100 (by kernel_rfl) (by kernel_rfl) xt v
theorem tiIs_P (xt : TypeId) (v : Value) : TAs Tryd.prog (.iface 44 v) xt 100 (.tuple [.nilIface, .bool false].toArray) := ti0 Tryd.underlying100 (by kernel_rfl) (by kernel_rfl) xt v
theorem tiIs_O (xt : TypeId) (v : Value) : TAs Tryd.prog (.iface 86 v) xt 100 (.tuple [.nilIface, .bool false].toArray) := ti0 Tryd.underlying100 (by kernel_rfl) (by kernel_rfl) xt v
theorem tiUn_N (xt : TypeId) (v : Value) : TAs Tryd.prog (.iface 23 v) xt 97 (.tuple [.nilIface, .bool false].toArray) := ti0 Tryd.underlying97 (by kernel_rfl) (by kernel_rfl) xt v
theorem tiUn_F (xt : TypeId) (v : Value) : TAs Tryd.prog (.iface 41 v) xt 97 (.tuple [.iface 41 v, .bool true].toArray) := ti1 Tryd.underlying97 (by kernel_rfl) xt v
theorem tiUn_P (xt : TypeId) (v : Value) : TAs Tryd.prog (.iface 44 v) xt 97 (.tuple [.nilIface, .bool false].toArray) := ti0 Tryd.underlying97 (by kernel_rfl) (by kernel_rfl) xt v
theorem tiUn_O (xt : TypeId) (v : Value) : TAs Tryd.prog (.iface 86 v) xt 97 (.tuple [.nilIface, .bool false].toArray) := ti0 Tryd.underlying97 (by kernel_rfl) (by kernel_rfl) xt v
theorem tiUs_N (xt : TypeId) (v : Value) : TAs Tryd.prog (.iface 23 v) xt 98 (.tuple [.nilIface, .bool false].toArray) := ti0 Tryd.underlying98 (by kernel_rfl) (by kernel_rfl) xt v
theorem tiUs_F (xt : TypeId) (v : Value) : TAs Tryd.prog (.iface 41 v) xt 98 (.tuple [.nilIface, .bool false].toArray) := ti0 Tryd.underlying98 (by kernel_rfl) (by kernel_rfl) xt v
theorem tiUs_P (xt : TypeId) (v : Value) : TAs Tryd.prog (.iface 44 v) xt 98 (.tuple [.iface 44 v, .bool true].toArray) := ti1 Tryd.underlying98 (by kernel_rfl) xt v
theorem tiUs_O (xt : TypeId) (v : Value) : TAs Tryd.prog (.iface 86 v) xt 98 (.tuple [.nilIface, .bool false].toArray) := ti0 Tryd.underlying98 (by kernel_rfl) (by kernel_rfl) xt v
theorem me_cmp (h : Value) : Meth Tryd.prog 90 (.agg #[h]) "Comparable" 85 (.agg #[h]) := ⟨fun w => by kernel_rfl⟩
theorem xv_cmpN : XV Tryd.prog 85 [.agg #[hdl 23]] (.bool true) := ⟨fun w => by kernel_rfl⟩
end Go.Proofs.YtpnbcegefhdmdaaDoor
