/-
  Closed facts of the tables. No conditions beyond those that stand in the theorems.
-/
import Derived.Test.YtfgpklidnkdahaaGreatDoorShC0
import Derived.Test.YtfgpklidnkdahaaGreatDoorShA5
import Derived.KernelRfl
set_option linter.all false
set_option maxHeartbeats 20000000
set_option maxRecDepth 10000
namespace Go.Sh
section
def px (r:Option (SV×ag)) (v:SV):Bool:=match nL r with
 |some u=>bD u v
 |none=>false
noncomputable def gm (f:FuncId) (args:List SV):Option (SV×ag):=Ev Ds 1000 30 f args h0
theorem oB {f:FuncId} {args:List SV} {v:SV} (ht:ak f=some (.native (gk ei h0 f))) (ha:args.all SV.pN=true) (h:px (gm f args) v=true) {lf n:Nat} (hn:1<=n) (H:ag):aj ak lf n f args H=some (v,H):=by
 obtain⟨n,rfl⟩:=aN (n:=n);have hr:nL (ei f args h0)=some v:=by
  unfold px gm at h;rw[yN]at h;unfold ei;split at h
  ·rename_i u hu;rw[hu,Ru h]
  ·cases h
 simp only[aj,ht];exact NP ha hr H
theorem ak0:ak 16=some (.native (gk ei h0 16)):=by kernel_rfl
theorem ak1:ak 23=some (.native (gk ei h0 23)):=by kernel_rfl
theorem ak2:ak 24=some (.native (gk ei h0 24)):=by kernel_rfl
theorem Dr:ak 29=some (.native (gk ei h0 29)):=by kernel_rfl
theorem ak4:ak 35=some (.native (gk ei h0 35)):=by kernel_rfl
theorem ak7:ak 38=some (.native (gk ei h0 38)):=by kernel_rfl
theorem ala:ak 61=some (.native (gk ei h0 61)):=by kernel_rfl
theorem alc:ak 81=some (.native (gk ei h0 81)):=by kernel_rfl
theorem ald:ak 84=some (.native (gk ei h0 84)):=by kernel_rfl
theorem ale:ak 86=some (.native (gk ei h0 86)):=by kernel_rfl
theorem alh:ak 95=some (.native (gk ei h0 95)):=by kernel_rfl
def sW:List Nat:=[97,108,108]
def rO:List Nat:=[117,115,101,114,115]
def Ho:List Nat:=[115,116,97,102,102]
def Hm:List Nat:=[109,111,100,115]
def OA:List Nat:=[103,111,108,100]
def fY:List (List Nat):=[Ho,Hm,OA]
def zY:List (List Nat):=[sW,rO,Ho,Hm,OA]
def dC:List (List Nat):=[[97,110,110],[98,111,98],Ho,Hm,[122,111,101],64::Ho,64::Hm,64::OA,64::rO]
def pz:List (List Nat):=[[],[115],[116],[97,32,98]]
abbrev Tt:=Nat×List Nat
def tC (t:Tt):SV:=.agg [.int .i64 (t.1:Int),.str t.2]
def xT:List (List Nat):=[[65],[66],[65,47,66],[67],[84],[85,47,120],[65,47,66,47,99],[76,111,110,103,32,110,97,109,101],[49],[88]]
def gn:List Tt:=[0,1,2,3,4,5].flatMap fun s=>xT.map fun n=>(s,n)
theorem fe {α:Type} {l:List α} {f:α->Bool} (h:l.all f=true) {a:α} (ha:a∈l):f a=true:=List.all_eq_true.1 h a ha
def Dk:Nat->List Nat
 |1=>[84,97,108,107]
 |2=>[85,115,101,114]
 |3=>[84,101,109,112,108,97,116,101]
 |4=>[67,97,116,101,103,111,114,121]
 |5=>[80,114,111,106,101,99,116]
 |_=>[77,97,105,110]
def eN (t:Tt):List Nat:=match t.1 with
 |0=>t.2
 |k=>Dk k++58::t.2
def Df:List (Nat×Tt):=(1,(0,[]))::([0,1,2,3,4,5].map fun s=>(2,(s,[])))++gn.map fun t=>(3,t)
def mL (x:Nat×Tt):List Nat:=match x.1 with
 |1=>[60,97,108,108,62]
 |2=>60::(Dk x.2.1++[62])
 |_=>eN x.2
def OC (x:Nat×Tt):SV:=.agg [.int .i64 (x.1:Int),.int .i64 (x.2.1:Int),.str x.2.2]
theorem Gq:(zY++[[97,110,110],[98,111,98],[122,111,101]]).all (fun s=>px (gm 29 [.str s]) (.bool true))=true:=by kernel_rfl
theorem agn:px (gm 29 [.str []]) (.bool false)=true:=by kernel_rfl
theorem agz:gn.all (fun t=>px (gm 35 [tC t]) (.bool true))=true:=by kernel_rfl
theorem agw:gn.all (fun t=>px (gm 38 [tC t]) (.bool true))=true:=by kernel_rfl
theorem agj:gn.all (fun t=>px (gm 24 [tC t]) (.str (eN t)))=true:=by kernel_rfl
def vW (r:Option SV) (t:Tt):Bool:=match r with
 |some (.aJ [.agg cs,.int .i64 (.ofNat 0)])=>eg cs [.int .i64 (t.1:Int),.str t.2]
 |_=>false
theorem agx:Df.all (fun x=>px (gm 23 [OC x]) (.str (mL x)))=true:=by kernel_rfl
theorem af3:zY.all (fun s=>px (gm 81 [.str s]) (.bool (decide (s=sW\/s=rO))))=true:=by kernel_rfl
theorem agl:[0,1,2,3,4,5,6].all (fun n=>match nL (gm 61 [.int .u64 (.ofNat n)])with|some (.int .i64 _)=>true|_=>false)=true:=by kernel_rfl
theorem af2:pz.all (fun s=>px (gm 86 [.str s,.str [10,124]]) (.bool false))=true:=by kernel_rfl
def Bi (s:List Nat):SV:=match s with
 |64::r=>.aJ [.str r,.bool true]
 |s=>.aJ [.str s,.bool false]
theorem af4:dC.all (fun s=>px (gm 84 [.str s,.str [64]]) (Bi s))=true:=by kernel_rfl
end
end Go.Sh
