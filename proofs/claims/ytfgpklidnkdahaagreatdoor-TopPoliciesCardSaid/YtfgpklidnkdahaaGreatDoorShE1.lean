/-
  Levels and covers of both programs. No conditions beyond those that stand in the theorems.
-/
import Derived.Test.YtfgpklidnkdahaaGreatDoorShC4
import Derived.Test.YtfgpklidnkdahaaGreatDoorShE0
set_option linter.all false
set_option maxHeartbeats 20000000
set_option maxRecDepth 10000
namespace Go.Sh
section
def aaA (s:List Nat):List (List Nat):=(List.range s.length).reverse.filterMap fun i=>if s[i]? =some 47 then some (s.take i)else none
def qm (t:Tt):List (Nat×Tt):=(3,t)::((aaA t.2).map (fun s=>(3,(t.1,s)))++[(2,(t.1,[])),(1,(0,[]))])
def mK (x:Nat×Tt):List SV:=[.int .i64 (x.1:Int),.int .i64 (x.2.1:Int),.str x.2.2]
def Gm (r:Option (SV×ag)) (z:Nat) (L:List (List SV)):Bool:=match r with
 |some (.slice b 0 n c z',H1)=>Nat.ble h0.next b&&Nat.blt b H1.next&&Nat.ble h0.next H1.next&&Nat.beq n L.length&&Nat.beq z z'&&(match c with
  |none=>true
  |some q=>Nat.beq q n)&&L.flatten.all SV.flat&&(match H1.get b with
  |some (.row cs _ _ false _)=>eg cs L.flatten
  |_=>false)
 |_=>false
theorem We (N M:Nat):∀{cs:List SV},cs.all SV.flat=true->cj (nG N M) cs=some cs
 |[],_=>rfl
 |x::cs,h=>by
  simp only[List.all_cons,Bool.and_eq_true]at h;have hx:nG N M x=some x:=by cases x<;>first|rfl|(simp[SV.flat]at h;done)|(simp only[nG,h.1])
  simp only[cj,hx,We N M h.2]
theorem R5 {f:FuncId} {args:List SV} {z:Nat} {L:List (List SV)} (ht:ak f=some (.native (pq ei h0 f))) (ha:args.all SV.pN=true) (hz:dq z L) (h:Gm (gm f args) z L=true) {lf n:Nat} (hn:1<=n) (H:ag):
 ∃v H',aj ak lf n f args H=some (v,H')/\Ext H H'/\br H' v z L:=by
 obtain⟨n,rfl⟩:=aN (n:=n);unfold gm at h;rw[yN]at h;have hB:aj Ds 1000 30 f args h0=ei f args h0:=rfl;rw[hB]at h;unfold Gm at h;split at h
 ·rename_i b k c z' H1 hc;simp only[Bool.and_eq_true]at h;obtain⟨⟨⟨⟨⟨⟨⟨h1,h2⟩,h3⟩,h4⟩,h5⟩,h6⟩,h7⟩,h8⟩:=h;split at h8
  ·rename_i cs e ex frz hg;have h8:=wu h8;subst h8;have h1:=Nat.le_of_ble_eq_true h1;have h3:=Nat.le_of_ble_eq_true h3;have h4:=Nat.eq_of_beq_eq_true h4;have h5:=Nat.eq_of_beq_eq_true h5;have h2:b<H1.next:=by simpa[Nat.blt_eq]using h2
   subst h4;subst h5;have hsh:uC h0.next H.next (.slice b 0 L.length c z)=some (.slice (b-h0.next+H.next) 0 L.length c z):=by
    simp only[uC,vS,nG,Nat.ble_eq_true_of_le h1]
   have key:=Wx ha hc h3 (H:=H) hsh;refine⟨_,H.mv H1 h0.next H.next (H1.next-h0.next),?_,⟨by rw[uu];omega,fun q hq=>Af _ _ _ _ hq _⟩,hz,.inr ⟨b-h0.next+H.next,c,e,ex,false,frz,rfl,fun q hq=>?_,by rw[uu];omega,?_⟩⟩
   ·simp only[aj,ht];exact key
   ·subst hq;exact Nat.eq_of_beq_eq_true h6
   ·have:=GF H H1 h0.next H.next (H1.next-h0.next) (b-h0.next) om;rw[show b-h0.next+H.next=H.next+(b-h0.next)by omega,this,show h0.next+(b-h0.next)=b by omega,hg];simp only[uB,We h0.next H.next h7]
  ·cases h8
 ·cases h
theorem ak5:ak 36=some (.native (pq ei h0 36)):=by kernel_rfl
theorem ak8:ak 39=some (.native (pq ei h0 39)):=by kernel_rfl
theorem agm:gn.all (fun t=>Gm (gm 36 [tC t]) 3 ((qm t).map mK))=true:=by kernel_rfl
theorem agu:gn.all (fun t=>Gm (gm 39 [tC t]) 3 ((qm t).map mK))=true:=by kernel_rfl
theorem XT (S:List (Nat×Tt)):dq 3 (S.map mK):=by
 intro x hx;obtain⟨s,_,rfl⟩:=List.mem_map.1 hx;rfl
def mS (s l:Nat×Tt):Bool:=if s.1=l.1 then(if s.1=3 then decide (s.2=l.2)else if s.1=2 then decide (s.2.1=l.2.1)else true)else false
theorem ak6:ak 37=some (.code yB.1):=by kernel_rfl
theorem ak9:ak 41=some (.code yB.1):=by kernel_rfl
section
variable {lf n:Nat} {H:ag}
theorem V5 {f:FuncId} (hf:f=36\/f=39) {t:Tt} (h:t∈gn) (hn:1<=n):∃v H',aj ak lf n f [tC t] H=some (v,H')/\Ext H H'/\br H' v 3 ((qm t).map mK):=by
 rcases hf with rfl|rfl
 ·exact R5 ak5 rfl (XT _) (fe agm h) hn H
 ·exact R5 ak8 rfl (XT _) (fe agu h) hn H
theorem Sp {f:FuncId} (hf:ak f=some (.code yB.1)) {s l:Nat×Tt} (hn:1<=n):∃H',aj ak lf n f [.agg (mK s),.agg (mK l)] H=some (.bool (mS s l),H')/\Ext H H':=by
 obtain⟨n,rfl⟩:=aN (n:=n);obtain⟨s1,s2,s3⟩:=s;obtain⟨l1,l2,l3⟩:=l;have e1:mK (s1,s2,s3)=[.int .i64 (s1:Int),.int .i64 (s2:Int),.str s3]:=rfl;have e2:mK (l1,l2,l3)=[.int .i64 (l1:Int),.int .i64 (l2:Int),.str l3]:=rfl;rw[e1,e2];obtain⟨H1,ay⟩:∃H1,H.push (.row [.int .i64 (s1:Int),.int .i64 (s2:Int),.str s3] 53 true false 0)=H1:=⟨_,rfl⟩;obtain⟨H2,aY⟩:∃H2,H1.push (.row [.int .i64 (l1:Int),.int .i64 (l2:Int),.str l3] 53 true false 0)=H2:=⟨_,rfl⟩;have ca:H1.next=H.next+1:=by rw[<-ay];rfl
 have aF:Ext H H2:=by rw[<-aY,<-ay];exact((Ext.refl H).push _).push _
 have bP:H2.get H.next=some (.row [.int .i64 (s1:Int),.int .i64 (s2:Int),.str s3] 53 true false 0):=by rw[<-aY,cU om,<-ay];exact bd _
 have bB:H2.get H1.next=some (.row [.int .i64 (l1:Int),.int .i64 (l2:Int),.str l3] 53 true false 0):=by rw[<-aY];exact bd _
 have a0:aq (H2.get H.next) 0 1=some [.int .i64 (s1:Int)]:=by rw[bP];rfl
 have a1:aq (H2.get H.next) 1 1=some [.int .i64 (s2:Int)]:=by rw[bP];rfl
 have a2:aq (H2.get H.next) 1 2=some [.int .i64 (s2:Int),.str s3]:=by rw[bP];rfl
 have b0:aq (H2.get H1.next) 0 1=some [.int .i64 (l1:Int)]:=by rw[bB];rfl
 have b1:aq (H2.get H1.next) 1 1=some [.int .i64 (l2:Int)]:=by rw[bB];rfl
 have b2:aq (H2.get H1.next) 1 2=some [.int .i64 (l2:Int),.str l3]:=by rw[bB];rfl
 have key:∃v H',aj ak lf (n+1) f [.agg [.int .i64 (s1:Int),.int .i64 (s2:Int),.str s3],.agg [.int .i64 (l1:Int),.int .i64 (l2:Int),.str l3]] H=some (v,H')/\v=.bool (mS (s1,s2,s3) (l1,l2,l3))/\H'=H2:=by
  refine Ew hf (by simp only[yB,az,go_sem,List.reduceReplicate,Nat.reduceAdd,Nat.reduceSub];exact rfl) ?_;simp only[yB,az];by_cases h1:s1=l1
  ·subst h1;have d0:decide (((s1:Nat):Int)≠((s1:Nat):Int))=false:=by simp
   by_cases h3:s1=3
   ·have d3:decide (((s1:Nat):Int)=((3:Nat):Int))=true:=by rw[h3];decide
    have heq:hY true [(0,1),(1,2)] (.agg [.int .i64 (s2:Int),.str s3]) (.agg [.int .i64 (l2:Int),.str l3])=some (decide ((s2,s3)=(l2,l3))):=EL (s2,s3) (l2,l3);have hc:mS (s1,s2,s3) (s1,l2,l3)=decide ((s2,s3)=(l2,l3)):=by simp[mS,h3]
    rw[hc];refine af (An @ay (An @aY (An @a0 (An @b0 @d0)))) ?_;refine ah ae ?_;refine af (An @a0 @d3) ?_;refine ar ae ?_;refine af (An @a2 (An @b2 @heq)) ?_;refine aO ae ?_;exact(⟨rfl,rfl⟩)
   ·have d3:decide (((s1:Nat):Int)=((3:Nat):Int))=false:=df;by_cases h2:s1=2
    ·have d2:decide (((s1:Nat):Int)=((2:Nat):Int))=true:=by rw[h2];decide
     have dd:decide (((s2:Nat):Int)=((l2:Nat):Int))=decide (s2=l2):=by congr 1;exact propext ⟨fun h=>by omega,fun h=>by omega⟩
     have hc:mS (s1,s2,s3) (s1,l2,l3)=decide (s2=l2):=by simp[mS,h2]
     rw[hc];refine af (An @ay (An @aY (An @a0 (An @b0 @d0)))) ?_;refine ah ae ?_;refine af (An @a0 @d3) ?_;refine ah ae ?_;refine af @d2 ?_;refine ar ae ?_;refine af (An @a1 (An @b1 @dd)) ?_;refine aO ae ?_;exact(⟨rfl,rfl⟩)
    ·have d2:decide (((s1:Nat):Int)=((2:Nat):Int))=false:=df;have hc:mS (s1,s2,s3) (s1,l2,l3)=true:=by simp[mS,h2,h3]
     rw[hc];refine af (An @ay (An @aY (An @a0 (An @b0 @d0)))) ?_;refine ah ae ?_;refine af (An @a0 @d3) ?_;refine ah ae ?_;refine af @d2 ?_;refine ah ae ?_;refine af ae ?_;refine aO ae ?_;exact(⟨rfl,rfl⟩)
  ·have d0:decide (((s1:Nat):Int)≠((l1:Nat):Int))=true:=dt;have hc:mS (s1,s2,s3) (l1,l2,l3)=false:=by simp[mS,h1]
   rw[hc];refine af (An @ay (An @aY (An @a0 (An @b0 @d0)))) ?_;refine ar ae ?_;refine af ae ?_;refine aO ae ?_;exact(⟨rfl,rfl⟩)
 obtain⟨v,H',h,rfl,rfl⟩:=key;exact⟨_,h,aF⟩
theorem akc {t:Tt} (h:t∈gn) (hn:1<=n):aj ak lf n 38 [tC t] H=some (.bool true,H):=oB ak7 rfl (fe agw h) hn H
end
def iJ (gl:List (List Nat)) (right:Nat) (l:Nat×Tt) (x:Rl):Bool:=decide (x.r=right)&&(decide (x.g∈gl)&&mS (x.k,x.t) l)
def kU (gl:List (List Nat)) (right:Nat) (l:Nat×Tt) (x:Rl):Bool:=!iJ gl right l x||x.al
def nA (R:List Rl) (gl:List (List Nat)) (right:Nat):List (Nat×Tt)->Bool
 |[]=>false
 |l::S=>if R.any (iJ gl right l)then R.all (kU gl right l)else nA R gl right S
theorem Wj {R:List Rl} {gl:List (List Nat)} {right:Nat} {S:List (Nat×Tt)} {i:Nat} {l:Nat×Tt} (h:S[i]? =some l):nA R gl right (S.drop i)=if R.any (iJ gl right l)then R.all (kU gl right l)else nA R gl right (S.drop (i+1)):=by
 obtain⟨hi,e⟩:=List.getElem?_eq_some_iff.1 h;rw[List.drop_eq_getElem_cons hi,e,nA]
theorem Em {α:Type} {p:α->Bool} {L:List α} {i:Nat} {x:α} (h:L[i]? =some x):(L.take (i+1)).any p=((L.take i).any p||p x)/\(L.take (i+1)).all p=((L.take i).all p&&p x):=by
 rw[List.take_succ,h];simp
end
end Go.Sh
