/-
  The closed part of the law is reckoned. No conditions beyond those that stand in the theorems.
-/
import Derived.Test.YtfgpklidnkdahaaGreatDoorShC1
set_option linter.all false
set_option maxHeartbeats 20000000
set_option maxRecDepth 10000
namespace Go.Sh
section
theorem ago:(xT.map fun n=>(0,n)).all (fun t=>vW (nL (gm 95 [.str (eN t)])) t)=true:=by kernel_rfl
theorem agp:(xT.map fun n=>(1,n)).all (fun t=>vW (nL (gm 95 [.str (eN t)])) t)=true:=by kernel_rfl
theorem agq:(xT.map fun n=>(2,n)).all (fun t=>vW (nL (gm 95 [.str (eN t)])) t)=true:=by kernel_rfl
end
section
theorem agr:(xT.map fun n=>(3,n)).all (fun t=>vW (nL (gm 95 [.str (eN t)])) t)=true:=by kernel_rfl
theorem ags:(xT.map fun n=>(4,n)).all (fun t=>vW (nL (gm 95 [.str (eN t)])) t)=true:=by kernel_rfl
theorem agt:(xT.map fun n=>(5,n)).all (fun t=>vW (nL (gm 95 [.str (eN t)])) t)=true:=by kernel_rfl
end
section
theorem agv:px (gm 16 []) (.bool true)=true:=by kernel_rfl
end
end Go.Sh
