/-
  The lines of a policy are read, second part. No conditions beyond those that stand in the theorems.
-/
import Derived.Test.YtfgpklidnkdahaaGreatDoorShC4
set_option linter.all false
set_option maxHeartbeats 20000000
set_option maxRecDepth 10000
namespace Go.Sh
section
theorem agc:((dC.drop 3).take 1).all (fun a=>dC.all fun b=>dC.all fun c=>me [a,b,c])=true:=by kernel_rfl
theorem agd:((dC.drop 4).take 1).all (fun a=>dC.all fun b=>dC.all fun c=>me [a,b,c])=true:=by kernel_rfl
theorem age:((dC.drop 5).take 1).all (fun a=>dC.all fun b=>dC.all fun c=>me [a,b,c])=true:=by kernel_rfl
end
end Go.Sh
