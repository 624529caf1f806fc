/- Errors: what reflectlite tells of their types: facts. -/
import Derived.Test.YtnaclkdjchnbpaaDoorE1
namespace Go.Proofs.YtnaclkdjchnbpaaDoor
open Go Go.K Go.Extern

def hdl (t : Nat) : Value := .pointer (some ⟨1, t, none⟩)
def rt (t : Nat) : Value := .iface 151 (.agg #[hdl t])
/-- A Value of reflectlite: of what type, where it lies, its flags. -/
def rv (t b : Nat) (fl : Int) : Value := .agg #[hdl t, .pointer (some ⟨b, 0, none⟩), .int .u64 fl]
theorem xv_typeE (b : Nat) : XV Tryd.prog 67 [rv 103 b 150] (rt 103) := ⟨fun w => by kernel_rfl⟩
theorem xa_valE (p : Option Addr) : XA Tryd.prog 66 [.iface 103 (.pointer p)] (fun b => rv 103 b 150) [.pointer p] 103 := ⟨fun w => by kernel_rfl⟩
theorem xa_valN (e : Int) : XA Tryd.prog 66 [.iface 32 (.int .i64 e)] (fun b => rv 32 b 130) [.int .i64 e] 32 := ⟨fun w => by kernel_rfl⟩
theorem me_kind (h : Value) : Meth Tryd.prog 151 (.agg #[h]) "Kind" 92 h := ⟨fun w => by kernel_rfl⟩
theorem me_elem (h : Value) : Meth Tryd.prog 151 (.agg #[h]) "Elem" 106 (.agg #[h]) := ⟨fun w => by kernel_rfl⟩
theorem me_impl (h : Value) : Meth Tryd.prog 151 (.agg #[h]) "Implements" 107 (.agg #[h]) := ⟨fun w => by kernel_rfl⟩
theorem me_assn (h : Value) : Meth Tryd.prog 151 (.agg #[h]) "AssignableTo" 104 (.agg #[h]) := ⟨fun w => by kernel_rfl⟩
theorem xv_kindP : XV Tryd.prog 92 [hdl 103] (.int .u8 22) := ⟨fun w => by kernel_rfl⟩
theorem xv_kindN : XV Tryd.prog 92 [hdl 32] (.int .u8 2) := ⟨fun w => by kernel_rfl⟩
theorem xv_elem : XV Tryd.prog 106 [.agg #[hdl 103]] (rt 32) := ⟨fun w => by kernel_rfl⟩
theorem xv_impl : XV Tryd.prog 107 [.agg #[hdl 32], rt 29] (.bool true) := ⟨fun w => by kernel_rfl⟩
theorem xv_toN (v : Value) : XV Tryd.prog 74 [.iface 32 v] (rt 32) := ⟨fun w => by kernel_rfl⟩
theorem xv_toF (v : Value) : XV Tryd.prog 74 [.iface 100 v] (rt 100) := ⟨fun w => by kernel_rfl⟩
theorem xv_toP (v : Value) : XV Tryd.prog 74 [.iface 141 v] (rt 141) := ⟨fun w => by kernel_rfl⟩
theorem xv_asN : XV Tryd.prog 104 [.agg #[hdl 32], rt 32] (.bool true) := ⟨fun w => by kernel_rfl⟩
theorem xv_asF : XV Tryd.prog 104 [.agg #[hdl 100], rt 32] (.bool false) := ⟨fun w => by kernel_rfl⟩
theorem xv_asP : XV Tryd.prog 104 [.agg #[hdl 141], rt 32] (.bool false) := ⟨fun w => by kernel_rfl⟩
theorem me_unF (p : Option Addr) : Meth Tryd.prog 100 (.pointer p) "Unwrap" 97 (.pointer p) := ⟨fun w => by kernel_rfl⟩
theorem me_unP (p : Option Addr) : Meth Tryd.prog 141 (.pointer p) "Unwrap" 102 (.pointer p) := ⟨fun w => by kernel_rfl⟩
/-! An interface asked for. -/
theorem ti0 {A T : TypeId} {ms : Array (String × TypeId)} (hu : Tryd.prog.underlying A = some (.interface ms)) (h : (Tryd.prog.info? T).map (fun i => (lacking ms i.methods).isEmpty) = some false) (hz : (Tryd.prog.info? A).map (·.zero) = some (some .nilIface)) (xt : TypeId) (v : Value) :
    TAs Tryd.prog (.iface T v) xt A (.tuple [.nilIface, .bool false].toArray) := ⟨fun w => run_typeAssert_lacksB hu h hz v xt w⟩
theorem ti1 {A T : TypeId} {ms : Array (String × TypeId)} (hu : Tryd.prog.underlying A = some (.interface ms)) (h : (Tryd.prog.info? T).map (fun i => (lacking ms i.methods).isEmpty) = some true) (xt : TypeId) (v : Value) :
    TAs Tryd.prog (.iface T v) xt A (.tuple [.iface T v, .bool true].toArray) := ⟨fun w => run_typeAssert_hasB hu h v xt w⟩
theorem tiAs_N (xt : TypeId) (v : Value) : TAs Tryd.prog (.iface 32 v) xt 156 (.tuple [.nilIface, .bool false].toArray) := ti0 Tryd.underlying156 (by kernel_rfl) (by kernel_rfl) xt v
theorem tiAs_F (xt : TypeId) (v : Value) : TAs Tryd.prog (.iface 100 v) xt 156 (.tuple [.nilIface, .bool false].toArray) := ti0 Tryd.underlying156 (by kernel_rfl) (by kernel_rfl) xt v
theorem tiAs_P (xt : TypeId) (v : Value) : TAs Tryd.prog (.iface 141 v) xt 156 (.tuple [.nilIface, .bool false].toArray) := ti0 Tryd.underlying156 (by kernel_rfl) (by kernel_rfl) xt v
theorem tiUn_N (xt : TypeId) (v : Value) : TAs Tryd.prog (.iface 32 v) xt 159 (.tuple [.nilIface, .bool false].toArray) := ti0 Tryd.underlying159 (by kernel_rfl) (by kernel_rfl) xt v
theorem tiUn_F (xt : TypeId) (v : Value) : TAs Tryd.prog (.iface 100 v) xt 159 (.tuple [.iface 100 v, .bool true].toArray) := ti1 Tryd.underlying159 (by kernel_rfl) xt v
theorem tiUn_P (xt : TypeId) (v : Value) : TAs Tryd.prog (.iface 141 v) xt 159 (.tuple [.nilIface, .bool false].toArray) := ti0 Tryd.underlying159 (by kernel_rfl) (by kernel_rfl) xt v
theorem tiUs_N (xt : TypeId) (v : Value) : TAs Tryd.prog (.iface 32 v) xt 161 (.tuple [.nilIface, .bool false].toArray) := ti0 Tryd.underlying161 (by kernel_rfl) (by kernel_rfl) xt v
theorem tiUs_F (xt : TypeId) (v : Value) : TAs Tryd.prog (.iface 100 v) xt 161 (.tuple [.nilIface, .bool false].toArray) := ti0 Tryd.underlying161 (by kernel_rfl) (by kernel_rfl) xt v
theorem tiUs_P (xt : TypeId) (v : Value) : TAs Tryd.prog (.iface 141 v) xt 161 (.tuple [.iface 141 v, .bool true].toArray) := ti1 Tryd.underlying161 (by kernel_rfl) xt v
theorem me_cmp (h : Value) : Meth Tryd.prog 151 (.agg #[h]) "Comparable" 105 (.agg #[h]) := ⟨fun w => by kernel_rfl⟩
theorem xv_cmpN : XV Tryd.prog 105 [.agg #[hdl 32]] (.bool true) := ⟨fun w => by kernel_rfl⟩
end Go.Proofs.YtnaclkdjchnbpaaDoor
