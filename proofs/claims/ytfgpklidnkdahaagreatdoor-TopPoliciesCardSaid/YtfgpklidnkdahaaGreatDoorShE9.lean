/-
  The lines of a policy are read, third part. No conditions beyond those that stand in the theorems.
-/
import Derived.Test.YtfgpklidnkdahaaGreatDoorShC4
set_option linter.all false
set_option maxHeartbeats 20000000
set_option maxRecDepth 10000
namespace Go.Sh
section
theorem agf:((dC.drop 6).take 1).all (fun a=>dC.all fun b=>dC.all fun c=>me [a,b,c])=true:=by kernel_rfl
theorem agh:((dC.drop 7).take 1).all (fun a=>dC.all fun b=>dC.all fun c=>me [a,b,c])=true:=by kernel_rfl
theorem agi:((dC.drop 8).take 1).all (fun a=>dC.all fun b=>dC.all fun c=>me [a,b,c])=true:=by kernel_rfl
end
end Go.Sh
