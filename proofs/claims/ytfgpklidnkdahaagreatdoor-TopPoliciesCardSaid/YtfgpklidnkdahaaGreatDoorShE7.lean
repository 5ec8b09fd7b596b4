/-
  The lines of a policy are read, first part. No conditions beyond those that stand in the theorems.
-/
import Derived.Test.YtfgpklidnkdahaaGreatDoorShC4
set_option linter.all false
set_option maxHeartbeats 20000000
set_option maxRecDepth 10000
namespace Go.Sh
section
theorem af9:((dC.drop 0).take 1).all (fun a=>dC.all fun b=>dC.all fun c=>me [a,b,c])=true:=by kernel_rfl
theorem aga:((dC.drop 1).take 1).all (fun a=>dC.all fun b=>dC.all fun c=>me [a,b,c])=true:=by kernel_rfl
theorem agb:((dC.drop 2).take 1).all (fun a=>dC.all fun b=>dC.all fun c=>me [a,b,c])=true:=by kernel_rfl
end
end Go.Sh
