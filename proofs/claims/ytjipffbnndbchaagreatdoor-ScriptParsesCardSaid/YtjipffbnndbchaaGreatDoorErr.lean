/- The walks of errors.Is and of the statements' Code. -/
import Derived.Test.YtjipffbnndbchaaGreatDoorScrD
import Derived.Stop.Asserts
import Derived.RowKitTokens
import Derived.LaidEql
import Derived.Lib.IfaceEq
namespace Go.Proofs.YtjipffbnndbchaaGreatDoor
open Go.RowKit Go.Extern.Stop Go.Stop Go.Extern
set_option maxRecDepth 100000

abbrev codeV (k : Int) : Value := .iface 91 (.int .i64 k)
theorem isTypeOf (v : Value) (w : World) : (Extern.ReflectliteType.typeOf #[.iface 91 v]).run Tryz.prog w = .ok (.iface 147 (.agg #[.pointer (some ⟨8, 91, none⟩)])) w := by kernel_rfl
def isCmp : Array Value → Sem Value := Extern.ReflectliteType.method fun t => do Extern.Rtype.noPackHeld "Comparable" t; pure (.bool (← typeInfo t).comparable)
theorem isComparable (w : World) : (isCmp #[.agg #[.pointer (some ⟨8, 91, none⟩)]]).run Tryz.prog w = .ok (.bool true) w := by kernel_rfl
theorem isMethodComparable (v : Value) (w : World) : (Go.method 326 147 v "Comparable").run Tryz.prog w = .ok (142, v) w := by kernel_rfl
theorem isComp : (Tryz.prog.info? 91).map (·.comparable) = some true := by kernel_rfl
theorem noIsE (v : Value) (xT : TypeId) (w : World) : (Instr.typeAssert (.iface 91 v) xT 149 true).run Tryz.prog w = .ok (.tuple #[.nilIface, .bool false]) w := run_typeAssert_lacksB Tryz.underlying149 (by kernel_rfl) (by kernel_rfl) v xT w
theorem noUnwrapE (v : Value) (xT : TypeId) (w : World) : (Instr.typeAssert (.iface 91 v) xT 152 true).run Tryz.prog w = .ok (.tuple #[.nilIface, .bool false]) w := run_typeAssert_lacksB Tryz.underlying152 (by kernel_rfl) (by kernel_rfl) v xT w
theorem noUnwrapsE (v : Value) (xT : TypeId) (w : World) : (Instr.typeAssert (.iface 91 v) xT 154 true).run Tryz.prog w = .ok (.tuple #[.nilIface, .bool false]) w := run_typeAssert_lacksB Tryz.underlying154 (by kernel_rfl) (by kernel_rfl) v xT w

set_option maxHeartbeats 1000000 in
theorem errIs_calls (k c : Int) (w : World) : Calls Tryz.prog 35 #[codeV k, codeV c] w fun e w' => e = .returned (.bool (k == c)) ∧ w' = w := by
  have hT := @run_callFunc_extern Tryz.prog 56 _ Extern.ReflectliteType.typeOf Tryz.func56 (by kernel_rfl) (by kernel_rfl) (by kernel_rfl) (by kernel_rfl)
  have hC : ∀ args w0, (callFunc 142 args).run Tryz.prog w0 = _ := fun args w0 => @run_callFunc_extern Tryz.prog 142 _ isCmp Tryz.func142 (by kernel_rfl) (by kernel_rfl) (by kernel_rfl) (by kernel_rfl) args w0
  have tT := isTypeOf
  have cT := isComparable
  have mR := isMethodComparable
  have nE := noIsE
  have uE := noUnwrapE
  have vE := noUnwrapsE
  obtain ⟨z, hz⟩ : ∃ z, (k == c) = z := ⟨_, rfl⟩
  rw [hz]
  have heq : ∀ w0, (Go.binOp .eql 60 (codeV k) (codeV c)).run Tryz.prog w0 = .ok (.bool z) w0 := fun w0 => by
    rw [← hz]
    exact Lib.run_eql_iface_int w0 k c Tryz.underlying60 isComp Tryz.underlying91
  cases z
  · go_enter Tryz.func35, Tryz.ntmps35
    go_wp2
    refine wp_loop_rounds 1 ?_
    rw [rounds_succ]
    go_wp2
    go_ret
    exact ⟨rfl, rfl⟩
  · go_enter Tryz.func35, Tryz.ntmps35
    go_wp2
    refine wp_loop_rounds 1 ?_
    rw [rounds_succ]
    go_wp2
    go_ret
    exact ⟨rfl, rfl⟩
end Go.Proofs.YtjipffbnndbchaaGreatDoor
