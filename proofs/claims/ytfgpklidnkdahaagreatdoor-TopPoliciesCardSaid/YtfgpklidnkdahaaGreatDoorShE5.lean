/-
  The text of a policy, first part. No conditions beyond those that stand in the theorems.
-/
import Derived.Test.YtfgpklidnkdahaaGreatDoorShD6
import Derived.Test.YtfgpklidnkdahaaGreatDoorShC8
import Derived.Test.YtfgpklidnkdahaaGreatDoorShE4
set_option linter.all false
set_option maxHeartbeats 20000000
set_option maxRecDepth 10000
namespace Go.Sh
section
def iY:List (List Nat):=[[114,101,97,100],[101,100,105,116],[109,111,118,101],[100,101,108,101,116,101],[114,101,118,105,101,119]]
def Az:List (List Nat):=[[60,77,97,105,110,62],[60,84,97,108,107,62],[60,85,115,101,114,62],[60,84,101,109,112,108,97,116,101,62],[60,67,97,116,101,103,111,114,121,62],[60,80,114,111,106,101,99,116,62]]
def eZ (g:Gr):List Nat:=[103,114,111,117,112,32]++g.1++(g.2.2.map (32:: ·)).flatten
def AQ (b:Bool):List Nat:=match b with
 |true=>[97,108,108,111,119,32]
 |false=>[100,101,110,121,32]
def v8 (b:Bool):List Nat:=match b with
 |true=>[115,116,114,105,99,116,32]
 |false=>[103,117,97,114,100,32]
def fK (x:Rl):List Nat:=AQ x.al++iY.getD (x.r-1) []++[32]++x.g++[32]++mL (x.k,x.t)
def iK (s:List Nat):List Nat:=if s=[]then[]else[32,124,32]++s
def fJ (x:Gd):List Nat:=v8 x.st++x.g++[32]++eN x.t++iK x.s
def cE (l:List (List Nat)):List Nat:=(l.map (· ++[10])).flatten
theorem O5 (l:List (List Nat)) (x:List Nat):cE (l++[x])=cE l++x++[10]:=by simp[cE]
theorem Dz:∀{l:List (List Nat)} {k:Nat},(∀x∈l,x.length<=k)->(cE l).length<=(k+1)*l.length
 |[],k,_=>by simp[cE]
 |x::l,k,h=>by
  have h1:=Dz (l:=l) (k:=k) fun y hy=>h y (List.mem_cons_of_mem _ hy)
  have h2:=h x (List.mem_cons_self ..);simp only[cE,List.map_cons,List.flatten_cons,List.length_append,List.length_cons,List.length_nil]at h1 ⊢;rw[Nat.mul_succ];omega
theorem OD {n:Nat} {x:Rl} (h:pE n x):(x.k,x.t)∈Df:=by
 obtain⟨al,r,g,k,t⟩:=x;rcases h.sc with⟨rfl,rfl⟩|⟨rfl,h1,h2⟩|⟨rfl,h⟩
 ·exact List.mem_cons_self ..
 ·obtain⟨s,y⟩:=t;have h2:y=[]:=h2;subst h2;refine List.mem_append_left _ (List.mem_cons_of_mem _ (List.mem_map.2 ⟨s,CY h1,rfl⟩))
 ·exact List.mem_append_right _ (List.mem_map.2 ⟨t,h,rfl⟩)
theorem XU:∀x∈Df,(mL x).length<=20/\∀c∈mL x,c<128/\c≠10:=by decide+kernel
theorem S5:∀t∈gn,(eN t).length<=20/\∀c∈eN t,c<128/\c≠10:=by decide+kernel
theorem C0:∀n∈[0,1,2,3],∀s∈lN n,s.length<=5/\∀c∈s,c<128/\c≠10:=by decide+kernel
theorem NM:∀n∈[0,1,2,3],∀s∈rI n,s.length<=6/\∀c∈s,c<128/\c≠10:=by decide+kernel
theorem Xq:∀r∈[1,2,3,4,5],∃s,iY[r-1]? =some s/\iY.getD (r-1) []=s/\s.length<=6/\∀c∈s,c<128/\c≠10:=by
 intro r hr;simp only[List.mem_cons,List.not_mem_nil,or_false]at hr;rcases hr with rfl|rfl|rfl|rfl|rfl<;>exact⟨_,rfl,rfl,by decide,by decide⟩
theorem XX:∀s∈pz,s.length<=3/\∀c∈s,c<128/\c≠10:=by decide+kernel
theorem F0.ext {B bb:Nat} {H0 H1 H2:ag} (h:F0 B bb H1 H2) (hE:Ext H0 H1) (h0:H0.next<=B) (h1:B<=bb):Ext H0 H2:=
 ⟨Nat.le_trans hE.1 h.1,fun b hb=>(h.2 b (Nat.lt_of_lt_of_le hb hE.1) om (.inl om)).trans (hE.2 b hb)⟩
section
variable {lf n:Nat} {H:ag}
theorem Xr (hn:1<=n):∃v H',aj ak lf n 22 [] H=some (v,H')/\Ext H H'/\br H' v 1 (bZ iY)/\H'.next=H.next+1:=by
 obtain⟨n,rfl⟩:=aN (n:=n);obtain⟨H1,ay⟩:∃H1,H.push (.row (bZ iY).flatten 9 true false 0)=H1:=⟨_,rfl⟩;have aB:Ext H H1:=by rw[<-ay];exact(Ext.refl H).push _
 have ca:H1.next=H.next+1:=by rw[<-ay];rfl
 have bP:H1.get H.next=some (.row (bZ iY).flatten 9 true false 0):=by rw[<-ay];exact bd _
 have key:∃w H',aj ak lf (n+1) 22 [] H=some (w,H')/\w=.slice H.next 0 5 (some 5) 1/\H'=H1:=by
  simp only[bZ,iY,List.map_cons,List.map_nil,List.flatten_cons,List.flatten_nil,List.cons_append,List.nil_append]at ay;refine cx DI.1 ?_;refine af @ay ?_;refine aO ae ?_;exact(⟨rfl,rfl⟩)
 obtain⟨w,H',h,rfl,rfl⟩:=key;exact⟨_,_,h,aB,⟨sZ _,.inr ⟨H.next,some 5,9,true,false,0,rfl,(fun k h=>by cases h;rfl),by omega,bP⟩⟩,ca⟩
theorem Yi (hn:1<=n):∃v H',aj ak lf n 51 [] H=some (v,H')/\Ext H H'/\br H' v 1 (bZ Az):=by
 obtain⟨n,rfl⟩:=aN (n:=n);obtain⟨H1,ay⟩:∃H1,H.push (.row (bZ Az).flatten 9 true false 0)=H1:=⟨_,rfl⟩;have aB:Ext H H1:=by rw[<-ay];exact(Ext.refl H).push _
 have ca:H1.next=H.next+1:=by rw[<-ay];rfl
 have bP:H1.get H.next=some (.row (bZ Az).flatten 9 true false 0):=by rw[<-ay];exact bd _
 have key:∃w H',aj ak lf (n+1) 51 [] H=some (w,H')/\w=.slice H.next 0 6 (some 6) 1/\H'=H1:=by
  simp only[bZ,Az,List.map_cons,List.map_nil,List.flatten_cons,List.flatten_nil,List.cons_append,List.nil_append]at ay;refine cx IV.1 ?_;refine af @ay ?_;refine aO ae ?_;exact(⟨rfl,rfl⟩)
 obtain⟨w,H',h,rfl,rfl⟩:=key;exact⟨_,_,h,aB,⟨sZ _,.inr ⟨H.next,some 6,9,true,false,0,rfl,(fun k h=>by cases h;rfl),by omega,bP⟩⟩⟩
theorem aa5 {B bb:Nat} {acc:List Nat} (h:Bd B H bb acc) (hn:1<=n):aj ak lf n 25 [.ptr bb 0] H=some (.int .i64 (acc.length:Int),H):=by
 obtain⟨n,rfl⟩:=aN (n:=n);obtain⟨w,r1,hl⟩:∃w,aq (H.get bb) 1 1=some [w]/\kn w=some (.int .i64 (acc.length:Int)):=by
  rcases h with⟨rfl,h|h⟩|⟨h0,sb,h1,h2,h3,h,h4⟩
  ·exact⟨_,by rw[h];rfl,rfl⟩
  ·exact⟨_,by rw[h];rfl,rfl⟩
  ·exact⟨_,by rw[h];rfl,rfl⟩
 have key:∃w H',aj ak lf (n+1) 25 [.ptr bb 0] H=some (w,H')/\w=.int .i64 (acc.length:Int)/\H'=H:=by
  refine cx PQ.1 ?_;refine af (An @r1 @hl) ?_;refine aO ae ?_;exact(⟨rfl,rfl⟩)
 obtain⟨w,H',h,rfl,rfl⟩:=key;exact h
theorem akh {x:Nat×Tt} (h:x∈Df) (hn:1<=n):aj ak lf n 23 [OC x] H=some (.str (mL x),H):=oB ak1 rfl (fe agx h) hn H
theorem acY {t:Tt} (h:t∈gn) (hn:1<=n):aj ak lf n 24 [tC t] H=some (.str (eN t),H):=oB ak2 rfl (fe agj h) hn H
end
end
section
theorem jq (a b:List Nat) (h:a.length+b.length<=100000):∃x,x=a++b/\x.length=a.length+b.length/\bX .add (.str a) (.str b)=some (.str x):=⟨_,rfl,List.length_append,eT om⟩
theorem vV {α:Type} {L:List α} {i:Nat} {x:α} (h:L[i]? =some x):L.take (i+1)=L.take i++[x]:=by rw[List.take_succ,h];rfl
def dQ (G:List Gr) (R:List Rl) (E:List Gd):List (List Nat):=G.map eZ++(R.map fK++E.map fJ)
theorem V7 {n:Nat} {RS:SV->Nat->List (List SV)->Prop} {gv rv dv:SV} {G:List Gr} {R:List Rl} {E:List Gd} (hp:g' RS n gv rv dv G R E) {g:Gr} (hg:g∈G):(eZ g).length<=60/\∀c∈eZ g,c<128/\c≠10:=by
 have h3:=hp.tD g hg;have hm:=hp.tE g hg;have hn:g.1∈lN n:=List.mem_cons_of_mem _ (List.mem_cons_of_mem _ (by rw[<-hp.pO];exact List.mem_map_of_mem hg));obtain⟨n1,n2⟩:=C0 n (mH hp.n3) _ hn;have key:∀l:List (List Nat),(∀m∈l,m∈rI n)->(l.map (32:: ·)).flatten.length<=7*l.length/\∀c∈(l.map (32:: ·)).flatten,c<128/\c≠10:=by
  intro l
  induction l with
  |nil=>intro _;exact⟨Nat.le_refl _,fun c hc=>by cases hc⟩
  |cons m l ih=>
   intro h;obtain⟨k1,k2⟩:=ih fun x hx=>h x (List.mem_cons_of_mem _ hx)
   obtain⟨m1,m2⟩:=NM n (mH hp.n3) m (h m (List.mem_cons_self ..));refine⟨?_,fun c hc=>?_⟩
   ·simp only[List.map_cons,List.flatten_cons,List.length_append,List.length_cons];omega
   ·simp only[List.map_cons,List.flatten_cons,List.cons_append,List.mem_cons,List.mem_append]at hc;rcases hc with rfl|hc|hc
    ·exact⟨by decide,by decide⟩
    ·exact m2 c hc
    ·exact k2 c hc
 obtain⟨k1,k2⟩:=key _ hm;refine⟨?_,fun c hc=>?_⟩
 ·simp only[eZ,List.length_append,List.length_cons,List.length_nil];omega
 ·simp only[eZ,List.mem_append]at hc;rcases hc with(hc|hc)|hc
  ·exact(by decide:∀c∈[103,114,111,117,112,32],c<128/\c≠10) c hc
  ·exact n2 c hc
  ·exact k2 c hc
theorem V8 {n:Nat} (h3:n<=3) {x:Rl} (h:pE n x):(fK x).length<=60/\∀c∈fK x,c<128/\c≠10:=by
 obtain⟨n1,n2⟩:=C0 n (mH h3) _ h.g;obtain⟨s1,s2⟩:=XU _ (OD h);have hr:x.r∈[1,2,3,4,5]:=by
  have:=h.r1;have:=h.r5;have:x.r=1\/x.r=2\/x.r=3\/x.r=4\/x.r=5:=om;simpa using this
 obtain⟨s,_,e,r1,r2⟩:=Xq _ hr;have hw:(AQ x.al).length<=6/\∀c∈AQ x.al,c<128/\c≠10:=by cases x.al<;>exact⟨by decide,by decide⟩
 refine⟨?_,fun c hc=>?_⟩
 ·simp only[fK,e,List.length_append,List.length_cons,List.length_nil];have:=hw.1;omega
 ·simp only[fK,e,List.mem_append,List.mem_singleton]at hc;rcases hc with((((hc|hc)|rfl)|hc)|rfl)|hc
  ·exact hw.2 c hc
  ·exact r2 c hc
  ·exact⟨by decide,by decide⟩
  ·exact n2 c hc
  ·exact⟨by decide,by decide⟩
  ·exact s2 c hc
theorem agK {n:Nat} (h3:n<=3) {x:Gd} (h:qy n x):(fJ x).length<=60/\∀c∈fJ x,c<128/\c≠10:=by
 obtain⟨n1,n2⟩:=C0 n (mH h3) _ h.g;obtain⟨s1,s2⟩:=S5 _ h.t;obtain⟨q1,q2⟩:=XX _ h.s;have hw:(v8 x.st).length<=7/\∀c∈v8 x.st,c<128/\c≠10:=by cases x.st<;>exact⟨by decide,by decide⟩
 have hs:(iK x.s).length<=6/\∀c∈iK x.s,c<128/\c≠10:=by
  unfold iK;split
  ·exact⟨Nat.zero_le _,fun c hc=>by cases hc⟩
  ·refine⟨by simp only[List.length_append,List.length_cons,List.length_nil];omega,fun c hc=>?_⟩;rcases List.mem_append.1 hc with hc|hc
   ·exact(by decide:∀c∈[32,124,32],c<128/\c≠10) c hc
   ·exact q2 c hc
 refine⟨?_,fun c hc=>?_⟩
 ·simp only[fJ,List.length_append,List.length_cons,List.length_nil];have:=hw.1;have:=hs.1;omega
 ·simp only[fJ,List.mem_append,List.mem_singleton]at hc;rcases hc with(((hc|hc)|rfl)|hc)|hc
  ·exact hw.2 c hc
  ·exact n2 c hc
  ·exact⟨by decide,by decide⟩
  ·exact s2 c hc
  ·exact hs.2 c hc
theorem W3 {n:Nat} {RS:SV->Nat->List (List SV)->Prop} {gv rv dv:SV} {G:List Gr} {R:List Rl} {E:List Gd} (hp:g' RS n gv rv dv G R E):(dQ G R E).length<=13/\∀l∈dQ G R E,l.length<=60/\∀c∈l,c<128/\c≠10:=by
 have hg:G.length<=3:=by
  have:=congrArg List.length hp.pO;rw[List.length_map,List.length_take]at this;have:=hp.n3;omega
 have:=hp.sU;have:=hp.se;refine⟨by simp only[dQ,List.length_append,List.length_map];omega,fun l hl=>?_⟩;rcases List.mem_append.1 hl with hl|hl
 ·obtain⟨g,hg,rfl⟩:=List.mem_map.1 hl;exact V7 hp hg
 ·rcases List.mem_append.1 hl with hl|hl
  ·obtain⟨x,hx,rfl⟩:=List.mem_map.1 hl;exact V8 hp.n3 (hp.uy x hx)
  ·obtain⟨x,hx,rfl⟩:=List.mem_map.1 hl;exact agK hp.n3 (hp.qG x hx)
section
variable {lf n:Nat} {H:ag}
theorem ac4 {k:Nat} {gv rv dv:SV} {G:List Gr} {R:List Rl} {E:List Gd} (hp:g' (br H) k gv rv dv G R E) (hn:8<=n) (aC:1000<lf):
 ∃H',aj ak lf n 6 [.agg [gv,rv,dv]] H=some (.aJ [.str (cE (dQ G R E)),iN 0],H')/\Ext H H':=by
 obtain⟨n,rfl⟩:=aN (n:=n);have key:∃w H',aj ak lf (n+1) 6 [.agg [gv,rv,dv]] H=some (w,H')/\w=.aJ [.str (cE (dQ G R E)),iN 0]/\Ext H H':=by
  have qY:=hp.Bu.len;have MH:=hp.sU;have sE:=hp.se;have fo:=hp.n3;have l1:=hp.gs.cA;have l2:=hp.rs.cA;have l3:=hp.ds.cA;rw[List.length_map]at l1 l2 l3;obtain⟨H1,ay⟩:∃H1,H.push (.row [gv,rv,dv] 29 true false 0)=H1:=⟨_,rfl⟩;have aB:Ext H H1:=by rw[<-ay];exact(Ext.refl H).push _
  have ca:H1.next=H.next+1:=by rw[<-ay];rfl
  have jQ:H1.get H.next=some (.row [gv,rv,dv] 29 true false 0):=by rw[<-ay];exact bd _
  obtain⟨H2,tV,cG⟩:=W4 (lf:=lf) (n:=n) (hp.imp fun v z L h=>h.ax aB) om aC;have aF:=aB.trans cG;obtain⟨bb,dz⟩:∃bb,H2.next=bb:=⟨_,rfl⟩;obtain⟨H3,ch⟩:∃H3,H2.push (.row [.cM,.ao] 63 true false 0)=H3:=⟨_,rfl⟩;have dJ:Ext H2 H3:=by rw[<-ch];exact(Ext.refl H2).push _
  have Mi:H3.next=bb+1:=by rw[<-ch,<-dz];rfl
  have iS:H3.get bb=some (.row [.cM,.ao] 63 true false 0):=by rw[<-ch,<-dz];exact bd _
  have adD:Bd bb H3 bb []:=.inl ⟨rfl,.inl iS⟩;have rk:H.next<H2.next:=by have:=cG.1;omega
  have gp:∀{Q:ag},Ext H2 Q->Q.get H.next=some (.row [gv,rv,dv] 29 true false 0):=fun hE=>by rw[hE.2 _ rk,cG.2 _ om];exact jQ
  have hr3:aq (H1.get H.next) 0 3=some [gv,rv,dv]:=by rw[jQ];rfl
  have hT:=W3 hp;have small:∀{l:List (List Nat)},(∀x∈l,x∈dQ G R E)->l.length<=13->(cE l).length<=793:=fun h h2=>by
   have:=Dz (l:=_) (k:=60) fun x hx=>(hT.2 x (h x hx)).1
   have h3:=Nat.mul_le_mul_left 61 h2;omega
  have mG:∀i,∀x∈(G.take i).map eZ,x∈dQ G R E:=fun i x hx=>by
   obtain⟨g,hg,rfl⟩:=List.mem_map.1 hx;exact List.mem_append_left _ (List.mem_map_of_mem (List.mem_of_mem_take hg))
  have mR:∀i,∀x∈G.map eZ++(R.take i).map fK,x∈dQ G R E:=fun i x hx=>by
   rcases List.mem_append.1 hx with hx|hx
   ·exact List.mem_append_left _ hx
   ·obtain⟨g,hg,rfl⟩:=List.mem_map.1 hx;exact List.mem_append_right _ (List.mem_append_left _ (List.mem_map_of_mem (List.mem_of_mem_take hg)))
  have mD:∀i,∀x∈G.map eZ++(R.map fK++(E.take i).map fJ),x∈dQ G R E:=fun i x hx=>by
   rcases List.mem_append.1 hx with hx|hx
   ·exact List.mem_append_left _ hx
   ·rcases List.mem_append.1 hx with hx|hx
    ·exact List.mem_append_right _ (List.mem_append_left _ hx)
    ·obtain⟨g,hg,rfl⟩:=List.mem_map.1 hx;exact List.mem_append_right _ (List.mem_append_right _ (List.mem_map_of_mem (List.mem_of_mem_take hg)))
  have r3a:aq (H3.get H.next) 0 1=some [gv]:=by rw[gp dJ];rfl
  refine cx x6.1 ?_;refine af (An @ay @hr3) ?_;refine ai ae tV ?_;refine af @vK ?_;refine ah ae ?_;refine af (An @dz (An @ch (An @r3a @l1))) ?_;refine bH (I:=fun m ts D Q=>D=[]/\∃i:Nat,m=G.length-i/\i<=G.length/\Bd bb Q bb (cE ((G.take i).map eZ))/\bb<Q.next/\Ext H2 Q/\∃z:Nat->SV,ts=(z 0::(.ptr H.next 0)::zz z 2 3 ((.ptr bb 0)::zz z 6 16 ((gv)::(.int .i64 (G.length:Int))::(.int .i64 (i:Int))::zz z 25 80 [])):T)/\(True)) ?_ G.length ?_ om
  ·rintro m ts D Q ⟨rfl,i,rfl,hi,hB,bU,dO,⟨z,rfl, -⟩⟩;have BA:=aF.trans dO;have fH:=small (mG i) (by rw[List.length_map,List.length_take];omega);by_cases bw:i<G.length
   ·have d1:decide (((i:Nat):Int)<((G.length:Nat):Int))=true:=dt;obtain⟨g,hg⟩:∃g,G[i]? =some g:=⟨_,List.getElem?_eq_getElem bw⟩;have kE:=List.mem_of_getElem? hg;have sF:(G.map iQ)[i]? =some (iQ g):=by simp[hg]
    have fT:=vV hg;have pd:=V7 hp kE;obtain⟨nm,mv,ms⟩:=g;obtain⟨b,o,j1,_,j2,_⟩:=(hp.gs.ax BA).at_ sF;have nr:=hp.zd _ kE;have p8:=nr.cA;rw[kt]at p8;have bV:SV.one mv=true:=nr.one;have vm:=hp.tD _ kE;have vm:ms.length<=3:=vm;have zp:iQ (nm,mv,ms)=[.str nm,mv]:=rfl;rw[zp]at j2;obtain⟨Q1,ey,ia,Mj,my⟩:=iw (H:=Q) (zs:=[.str [],.ao]) (ty:=51) (z:=2) rfl (cs:=[.str nm,mv]) rfl (by simp only[List.all_cons,bV,List.all_nil];rfl);have nz:aq ((Q.push (.row [.str [],.ao] 51 true false 0)).get b) o 2=some [.str nm,mv]:=by rw[cU (by assumption)];exact j2
    simp only[eZ,List.length_append]at pd;obtain⟨x1,e1,y1,a1⟩:=jq [103,114,111,117,112,32] nm (by simp only[List.length_cons,List.length_nil];omega);simp only[List.length_cons,List.length_nil]at y1;obtain⟨w1,Q2,ka,hB2,ib,eo⟩:=ku (lf:=lf) (n:=n) (s:=x1) (hB.ax ia bU) (Nat.le_refl _) om om om;have Fe:=ib.ext (dO.trans ia) om (Nat.le_refl _);have r0:aq (Q1.get Q.next) 0 1=some [.str nm]:=by rw[my];rfl
    have r1:aq (Q2.get Q.next) 1 1=some [mv]:=by rw[ib.row om om my (by decide)];rfl
    refine af @d1 ?_;refine ar ae ?_;refine af (An @j1 (An @j2 (An @nz (An @ey (An @r0 @a1))))) ?_;refine ai ae ka ?_;refine af (An @r1 @p8) ?_;refine bH (I:=fun m ts D P=>D=[]/\∃j:Nat,m=ms.length-j/\j<=ms.length/\Bd bb P bb (cE ((G.take i).map eZ)++x1++((ms.take j).map (32:: ·)).flatten)/\bb<P.next/\Ext H2 P/\∃z:Nat->SV,ts=(z 0::(.ptr H.next 0)::zz z 2 3 ((.ptr bb 0)::zz z 6 16 ((gv)::(.int .i64 (G.length:Int))::(.int .i64 (i:Int))::zz z 25 8 ((mv)::(.int .i64 (ms.length:Int))::(.int .i64 (j:Int))::zz z 36 69 []))):T)/\(True)) ?_ ms.length ?_ om
    ·rintro m ts D P ⟨rfl,j,rfl,hj,KX,TY,iR,⟨z,rfl, -⟩⟩;by_cases kI:j<ms.length
     ·have d2:decide (((j:Nat):Int)<((ms.length:Nat):Int))=true:=dt;obtain⟨s,hs⟩:∃s,ms[j]? =some s:=⟨_,List.getElem?_eq_getElem kI⟩;have afx:=vV hs;obtain⟨b',o',k1,_,k2,_⟩:=(nr.ax (aF.trans iR)).at_ (yn hs);have bE:=(NM k (mH fo) s (hp.tE _ kE s (List.mem_of_getElem? hs))).1;have qW:((ms.take j).map (32:: ·)).flatten.length<=(List.map (32:: ·) ms).flatten.length:=by
       conv=>rhs;rw[<-List.take_append_drop j ms]
       rw[List.map_append,List.flatten_append,List.length_append];omega
      obtain⟨x2,e2,y2,a2⟩:=jq [32] s (by simp only[List.length_cons,List.length_nil];omega);simp only[List.length_cons,List.length_nil]at y2;obtain⟨w2,P2,nj,mW,je,iS⟩:=ku (lf:=lf) (n:=n) (s:=x2) KX (Nat.le_refl _) TY (by simp only[List.length_append];omega) om;have gx:cE ((G.take i).map eZ)++x1++((ms.take (j+1)).map (32:: ·)).flatten=cE ((G.take i).map eZ)++x1++((ms.take j).map (32:: ·)).flatten++x2:=by rw[afx,e2];simp
      refine af @d2 ?_;refine ar ae ?_;refine af (An @k1 (An @k2 @a2)) ?_;refine ai ae nj ?_;refine af (c8 (k:=j) om) ?_;refine aT (ms.length-(j+1)) om ⟨rfl,j+1,rfl,by omega,by rw[gx];exact mW,iS,je.ext iR om (Nat.le_refl _),aw⟩
     ·obtain rfl:j=ms.length:=om;have d2:decide (((ms.length:Nat):Int)<((ms.length:Nat):Int))=false:=by simp
      rw[List.take_length]at KX;obtain⟨w2,P2,nj,mW,je,iS⟩:=ku (lf:=lf) (n:=n) (s:=[10]) KX (Nat.le_refl _) TY (by simp only[List.length_append,List.length_cons,List.length_nil];omega) om;have gx:cE ((G.take (i+1)).map eZ)=cE ((G.take i).map eZ)++x1++(ms.map (32:: ·)).flatten++[10]:=by
       rw[fT,List.map_append,List.map_cons,List.map_nil,O5,e1];simp only[eZ,List.append_assoc]
      refine af @d2 ?_;refine ah ae ?_;refine af ae ?_;refine ai ae nj ?_;refine af (c8 (k:=i) om) ?_;refine aT (G.length-(i+1)) om ⟨rfl,i+1,rfl,by omega,by rw[gx];exact mW,iS,je.ext iR om (Nat.le_refl _),aw⟩
    ·refine⟨rfl,0,rfl,Nat.zero_le _,by simpa using hB2,eo,Fe,aw⟩
   ·obtain rfl:i=G.length:=om;have d1:decide (((G.length:Nat):Int)<((G.length:Nat):Int))=false:=by simp
    rw[List.take_length]at hB;have r1:aq (Q.get H.next) 1 1=some [rv]:=by rw[gp dO];rfl
    refine af @d1 ?_;refine ah ae ?_;refine af (An @r1 @l2) ?_;refine bH (I:=fun m ts D Q=>D=[]/\∃i:Nat,m=R.length-i/\i<=R.length/\Bd bb Q bb (cE (G.map eZ++(R.take i).map fK))/\bb<Q.next/\Ext H2 Q/\∃z:Nat->SV,ts=(z 0::(.ptr H.next 0)::zz z 2 3 ((.ptr bb 0)::zz z 6 40 ((rv)::(.int .i64 (R.length:Int))::(.int .i64 (i:Int))::zz z 49 56 [])):T)/\(True)) ?_ R.length ?_ om
    ·rintro m ts D Q ⟨rfl,i,rfl,hi,hB,bU,dO,⟨z,rfl, -⟩⟩;have BA:=aF.trans dO;have fH:=small (mR i) (by rw[List.length_append,List.length_map,List.length_map,List.length_take];omega);by_cases bw:i<R.length
     ·have d1:decide (((i:Nat):Int)<((R.length:Nat):Int))=true:=dt;obtain⟨x,hx⟩:∃x,R[i]? =some x:=⟨_,List.getElem?_eq_getElem bw⟩;have lL:=hp.uy x (List.mem_of_getElem? hx);have jU:(R.map gD)[i]? =some (gD x):=by simp[hx]
      have fT:=vV hx;have pd:=(V8 fo lL).1;have pg:=OD lL;have Cu:x.r∈[1,2,3,4,5]:=by
       have:=lL.r1;have:=lL.r5;have:x.r=1\/x.r=2\/x.r=3\/x.r=4\/x.r=5:=om;simpa using this
      have fc:=lL.r1;obtain⟨rs,f1,f2,f3,_⟩:=Xq _ Cu;obtain⟨b,o,j1,jb,j2,_⟩:=(hp.rs.ax BA).at_ jU;have gx:cE (G.map eZ++(R.take (i+1)).map fK)=cE (G.map eZ++(R.take i).map fK)++(fK x++[10]):=by
       rw[fT,List.map_append,<-List.append_assoc,List.map_cons,List.map_nil,O5,List.append_assoc]
      obtain⟨al,r,g,sk,⟨t1,t2⟩⟩:=x;have zM:gD ⟨al,r,g,sk,(t1,t2)⟩=[.bool al,.int .i64 (r:Int),.str g,.int .i64 (sk:Int),.int .i64 (t1:Int),.str t2]:=rfl;rw[zM]at j2;have fc:1<=r:=fc;have f1:iY[r-1]? =some rs:=f1;have f2:iY.getD (r-1) []=rs:=f2;obtain⟨Q1,ey,ia,Mj,my⟩:=iw (H:=Q) (zs:=[.bool false,.int .i64 ((0:Nat):Int),.str [],.int .i64 ((0:Nat):Int),.int .i64 ((0:Nat):Int),.str []]) (ty:=55) (z:=6) rfl (cs:=[.bool al,.int .i64 (r:Int),.str g,.int .i64 (sk:Int),.int .i64 (t1:Int),.str t2]) rfl rfl;have nz:aq ((Q.push (.row [.bool false,.int .i64 ((0:Nat):Int),.str [],.int .i64 ((0:Nat):Int),.int .i64 ((0:Nat):Int),.str []] 55 true false 0)).get b) o 6=some [.bool al,.int .i64 (r:Int),.str g,.int .i64 (sk:Int),.int .i64 (t1:Int),.str t2]:=by rw[cU jb];exact j2
      obtain⟨gE,Q2,ka,Bz,hRS,aod⟩:=Xr (lf:=lf) (n:=n) (H:=Q1) om;have zL:((r:Nat):Int)-((1:Nat):Int)=((r-1:Nat):Int):=om;have MF:r<1000:=by have:=lL.r5;have:r<=5:=this;omega
      obtain⟨b',o',k1,_,k2,_⟩:=hRS.at_ (yn f1);have nj:=akh (lf:=lf) (n:=n) (H:=Q2) pg om;have hsC:OC (sk,(t1,t2))=.agg [.int .i64 (sk:Int),.int .i64 (t1:Int),.str t2]:=rfl;rw[hsC]at nj;obtain⟨st,aD⟩:∃st,mL (sk,(t1,t2))=st:=⟨_,rfl⟩;rw[aD]at nj;have LR:=(Bz.2 Q.next om).trans my;have u0:aq (Q1.get Q.next) 0 1=some [.bool al]:=by rw[my];rfl
      have u1:aq (Q1.get Q.next) 1 1=some [.int .i64 (r:Int)]:=by rw[my];rfl
      have u2:aq (Q1.get Q.next) 2 1=some [.str g]:=by rw[my];rfl
      have u3:aq (Q1.get Q.next) 3 3=some [.int .i64 (sk:Int),.int .i64 (t1:Int),.str t2]:=by rw[my];rfl
      have v1:aq (Q2.get Q.next) 1 1=some [.int .i64 (r:Int)]:=by rw[LR];rfl
      have v2:aq (Q2.get Q.next) 2 1=some [.str g]:=by rw[LR];rfl
      have v3:aq (Q2.get Q.next) 3 3=some [.int .i64 (sk:Int),.int .i64 (t1:Int),.str t2]:=by rw[LR];rfl
      have o8:=(C0 k (mH fo) _ lL.g).1;have o8:g.length<=5:=o8;have MR:=(XU _ pg).1;have MR:(mL (sk,(t1,t2))).length<=20:=MR;rw[aD]at MR;have TV:bD (.agg [.int .i64 (sk:Int),.int .i64 (t1:Int),.str t2]) (.agg [.int .i64 (sk:Int),.int .i64 (t1:Int),.str t2])=true:=by simp[bD,eF,eg,gG]
      cases al with
      |false=>
       obtain⟨x1,e1,y1,a1⟩:=jq [100,101,110,121,32] rs (by simp only[List.length_cons,List.length_nil];omega);simp only[List.length_cons,List.length_nil]at y1;obtain⟨x2,e2,y2,a2⟩:=jq x1 [32] (by simp only[List.length_cons,List.length_nil];omega);simp only[List.length_cons,List.length_nil]at y2;obtain⟨x3,e3,y3,a3⟩:=jq x2 g om;obtain⟨x4,e4,y4,a4⟩:=jq x3 [32] (by simp only[List.length_cons,List.length_nil];omega);simp only[List.length_cons,List.length_nil]at y4;obtain⟨x5,e5,y5,a5⟩:=jq x4 st om;obtain⟨x6,e6,y6,a6⟩:=jq x5 [10] (by simp only[List.length_cons,List.length_nil];omega);simp only[List.length_cons,List.length_nil]at y6;have gX:x6=fK ⟨false,r,g,sk,(t1,t2)⟩++[10]:=by
        rw[e6,e5,e4,e3,e2,e1];simp only[fK,f2,aD,AQ]
       obtain⟨w2,Q3,jN,mW,je,iS⟩:=ku (lf:=lf) (n:=n) (s:=x6) ((hB.ax ia bU).ax Bz om) (Nat.le_refl _) om om om;have pP:=je.ext ((dO.trans ia).trans Bz) om (Nat.le_refl _);refine af @d1 ?_;refine ar ae ?_;refine af (An @j1 (An @j2 (An @nz (An @ey @u0)))) ?_;refine ah ae ?_;refine af ae ?_;refine dG rfl ?_;refine af ae ?_;refine dH (by exact aZ trivial) ka bW ?_;refine af (An @v1 (An @zL (An @k1 (An @k2 (An @a1 (An @a2 (An @v2 (An @a3 (An @a4 @v3))))))))) ?_;refine dH (by exact aZ trivial) nj bW ?_;refine af (An @a5 @a6) ?_;refine dH (by exact aZ trivial) jN bW ?_;refine af ae ?_;refine dB ?_ ?_
       ·exact dh (An @u0 (An @u1 (An @u2 (An @u3 (An @v1 (An @v2 (An @v3 (An @zL (An @k1 (An @k2 @TV))))))))))
       ·refine af (c8 (k:=i) om) ?_;refine aT (R.length-(i+1)) om ⟨rfl,i+1,rfl,by omega,by rw[gx,<-gX];exact mW,iS,pP,aw⟩
      |true=>
       obtain⟨x1,e1,y1,a1⟩:=jq [97,108,108,111,119,32] rs (by simp only[List.length_cons,List.length_nil];omega);simp only[List.length_cons,List.length_nil]at y1;obtain⟨x2,e2,y2,a2⟩:=jq x1 [32] (by simp only[List.length_cons,List.length_nil];omega);simp only[List.length_cons,List.length_nil]at y2;obtain⟨x3,e3,y3,a3⟩:=jq x2 g om;obtain⟨x4,e4,y4,a4⟩:=jq x3 [32] (by simp only[List.length_cons,List.length_nil];omega);simp only[List.length_cons,List.length_nil]at y4;obtain⟨x5,e5,y5,a5⟩:=jq x4 st om;obtain⟨x6,e6,y6,a6⟩:=jq x5 [10] (by simp only[List.length_cons,List.length_nil];omega);simp only[List.length_cons,List.length_nil]at y6;have gX:x6=fK ⟨true,r,g,sk,(t1,t2)⟩++[10]:=by
        rw[e6,e5,e4,e3,e2,e1];simp only[fK,f2,aD,AQ]
       obtain⟨w2,Q3,jN,mW,je,iS⟩:=ku (lf:=lf) (n:=n) (s:=x6) ((hB.ax ia bU).ax Bz om) (Nat.le_refl _) om om om;have pP:=je.ext ((dO.trans ia).trans Bz) om (Nat.le_refl _);refine af @d1 ?_;refine ar ae ?_;refine af (An @j1 (An @j2 (An @nz (An @ey @u0)))) ?_;refine ar ae ?_;refine af ae ?_;refine dG rfl ?_;refine af ae ?_;refine dH (by exact aZ trivial) ka bW ?_;refine af (An @v1 (An @zL (An @k1 (An @k2 (An @a1 (An @a2 (An @v2 (An @a3 (An @a4 @v3))))))))) ?_;refine dH (by exact aZ trivial) nj bW ?_;refine af (An @a5 @a6) ?_;refine dH (by exact aZ trivial) jN bW ?_;refine af ae ?_;refine dB ?_ ?_
       ·exact dh (An @u0 (An @u1 (An @u2 (An @u3 (An @v1 (An @v2 (An @v3 (An @zL (An @k1 (An @k2 @TV))))))))))
       ·refine af (c8 (k:=i) om) ?_;refine aT (R.length-(i+1)) om ⟨rfl,i+1,rfl,by omega,by rw[gx,<-gX];exact mW,iS,pP,aw⟩
     ·obtain rfl:i=R.length:=om;have d1:decide (((R.length:Nat):Int)<((R.length:Nat):Int))=false:=by simp
      rw[List.take_length]at hB;have r1:aq (Q.get H.next) 2 1=some [dv]:=by rw[gp dO];rfl
      refine af @d1 ?_;refine ah ae ?_;refine af (An @r1 @l3) ?_;refine bH (I:=fun m ts D Q=>D=[]/\∃i:Nat,m=E.length-i/\i<=E.length/\Bd bb Q bb (cE (G.map eZ++(R.map fK++(E.take i).map fJ)))/\bb<Q.next/\Ext H2 Q/\∃z:Nat->SV,ts=(z 0::(.ptr H.next 0)::zz z 2 3 ((.ptr bb 0)::zz z 6 69 ((dv)::(.int .i64 (E.length:Int))::(.int .i64 (i:Int))::zz z 78 27 [])):T)/\(True)) ?_ E.length ?_ om
      ·rintro m ts D Q ⟨rfl,i,rfl,hi,hB,bU,dO,⟨z,rfl, -⟩⟩;have BA:=aF.trans dO;have fH:=small (mD i) (by rw[List.length_append,List.length_append,List.length_map,List.length_map,List.length_map,List.length_take];omega);by_cases bw:i<E.length
       ·have d1:decide (((i:Nat):Int)<((E.length:Nat):Int))=true:=dt;obtain⟨x,hx⟩:∃x,E[i]? =some x:=⟨_,List.getElem?_eq_getElem bw⟩;have lL:=hp.qG x (List.mem_of_getElem? hx);have jU:(E.map iA)[i]? =some (iA x):=by simp[hx]
        have fT:=vV hx;obtain⟨b,o,j1,jb,j2,_⟩:=(hp.ds.ax BA).at_ jU;have gx:cE (G.map eZ++(R.map fK++(E.take (i+1)).map fJ))=cE (G.map eZ++(R.map fK++(E.take i).map fJ))++(fJ x++[10]):=by
         rw[fT,List.map_append,<-List.append_assoc,<-List.append_assoc,List.map_cons,List.map_nil,O5,List.append_assoc,List.append_assoc]
        obtain⟨st,g,⟨t1,t2⟩,s⟩:=x;have hdC:iA ⟨st,g,(t1,t2),s⟩=[.bool st,.str g,.int .i64 (t1:Int),.str t2,.str s]:=rfl;rw[hdC]at j2;have FB:=lL.t;have FB:(t1,t2)∈gn:=FB;have bE:=(XX _ lL.s).1;have bE:s.length<=3:=bE;obtain⟨Q1,ey,ia,Mj,my⟩:=iw (H:=Q) (zs:=[.bool false,.str [],.int .i64 ((0:Nat):Int),.str [],.str []]) (ty:=58) (z:=5) rfl (cs:=[.bool st,.str g,.int .i64 (t1:Int),.str t2,.str s]) rfl rfl;have nz:aq ((Q.push (.row [.bool false,.str [],.int .i64 ((0:Nat):Int),.str [],.str []] 58 true false 0)).get b) o 5=some [.bool st,.str g,.int .i64 (t1:Int),.str t2,.str s]:=by rw[cU jb];exact j2
        have ka:=acY (lf:=lf) (n:=n) (H:=Q1) FB om;have ph:tC (t1,t2)=.agg [.int .i64 (t1:Int),.str t2]:=rfl;rw[ph]at ka;obtain⟨ft,B6⟩:∃ft,eN (t1,t2)=ft:=⟨_,rfl⟩;have qW:=(S5 _ FB).1;rw[B6]at ka qW;have u0:aq (Q1.get Q.next) 0 1=some [.bool st]:=by rw[my];rfl
        have u1:aq (Q1.get Q.next) 1 1=some [.str g]:=by rw[my];rfl
        have u2:aq (Q1.get Q.next) 2 2=some [.int .i64 (t1:Int),.str t2]:=by rw[my];rfl
        have o8:=(C0 k (mH fo) _ lL.g).1;have o8:g.length<=5:=o8;have Ft:bD (.agg [.int .i64 (t1:Int),.str t2]) (.agg [.int .i64 (t1:Int),.str t2])=true:=by simp[bD,eF,eg,gG]
        cases st with
        |false=>
         obtain⟨x1,e1,y1,a1⟩:=jq [103,117,97,114,100,32] g (by simp only[List.length_cons,List.length_nil];omega);simp only[List.length_cons,List.length_nil]at y1;obtain⟨x2,e2,y2,a2⟩:=jq x1 [32] (by simp only[List.length_cons,List.length_nil];omega);simp only[List.length_cons,List.length_nil]at y2;obtain⟨x3,e3,y3,a3⟩:=jq x2 ft om;obtain⟨w2,Q3,jN,mW,je,iS⟩:=ku (lf:=lf) (n:=n) (s:=x3) (hB.ax ia bU) (Nat.le_refl _) om om om;have pP:=je.ext (dO.trans ia) om (Nat.le_refl _);have u4:aq (Q3.get Q.next) 4 1=some [.str s]:=by rw[je.row om om my (by decide)];rfl
         by_cases hs:s=[]
         ·have d2:decide (s≠[])=false:=by simp[hs]
          obtain⟨w4,Q4,kH,wQ,pQ,k8⟩:=ku (lf:=lf) (n:=n) (s:=[10]) mW (Nat.le_refl _) iS (by simp only[List.length_append,List.length_cons,List.length_nil];omega) om;have gX:cE (G.map eZ++(R.map fK++(E.take i).map fJ))++x3++[10]=cE (G.map eZ++(R.map fK++(E.take i).map fJ))++(fJ ⟨false,g,(t1,t2),s⟩++[10]):=by
           rw[e3,e2,e1];simp only[fJ,B6,v8,iK,hs,if_pos,List.append_nil,List.append_assoc]
          refine af @d1 ?_;refine ar ae ?_;refine af (An @j1 (An @j2 (An @nz (An @ey @u0)))) ?_;refine ah ae ?_;refine af ae ?_;refine dG rfl ?_;refine af (An @u1 (An @a1 (An @a2 @u2))) ?_;refine dH (by exact aZ trivial) ka bW ?_;refine af @a3 ?_;refine dH (by exact aZ trivial) jN bW ?_;refine af ae ?_;refine dB ?_ ?_
          ·exact dh (An @u1 (An @u2 (An @a1 (An @a2 (An @a3 @Ft)))))
          ·refine af (An @u4 @d2) ?_;refine ah ae ?_;refine af ae ?_;refine ai ae kH ?_;refine af (c8 (k:=i) om) ?_;refine aT (E.length-(i+1)) om ⟨rfl,i+1,rfl,by omega,by rw[gx,<-gX];exact wQ,k8,pQ.ext pP om (Nat.le_refl _),aw⟩
         ·have d2:decide (s≠[])=true:=by simp[hs]
          obtain⟨x5,e5,y5,a5⟩:=jq [32,124,32] s (by simp only[List.length_cons,List.length_nil];omega);simp only[List.length_cons,List.length_nil]at y5;obtain⟨w4,Q4,kH,wQ,pQ,k8⟩:=ku (lf:=lf) (n:=n) (s:=x5) mW (Nat.le_refl _) iS (by simp only[List.length_append];omega) om;obtain⟨w5,Q5,q9,KW,jf,fw⟩:=ku (lf:=lf) (n:=n) (s:=[10]) wQ (Nat.le_refl _) k8 (by simp only[List.length_append,List.length_cons,List.length_nil];omega) om;have gX:cE (G.map eZ++(R.map fK++(E.take i).map fJ))++x3++x5++[10]=cE (G.map eZ++(R.map fK++(E.take i).map fJ))++(fJ ⟨false,g,(t1,t2),s⟩++[10]):=by
           rw[e5,e3,e2,e1];simp only[fJ,B6,v8,iK,if_neg hs,List.append_assoc]
          refine af @d1 ?_;refine ar ae ?_;refine af (An @j1 (An @j2 (An @nz (An @ey @u0)))) ?_;refine ah ae ?_;refine af ae ?_;refine dG rfl ?_;refine af (An @u1 (An @a1 (An @a2 @u2))) ?_;refine dH (by exact aZ trivial) ka bW ?_;refine af @a3 ?_;refine dH (by exact aZ trivial) jN bW ?_;refine af ae ?_;refine dB ?_ ?_
          ·exact dh (An @u1 (An @u2 (An @a1 (An @a2 (An @a3 @Ft)))))
          ·refine af (An @u4 @d2) ?_;refine ar ae ?_;refine af (An @u4 @a5) ?_;refine ai ae kH ?_;refine af ae ?_;refine ai ae q9 ?_;refine af (c8 (k:=i) om) ?_;refine aT (E.length-(i+1)) om ⟨rfl,i+1,rfl,by omega,by rw[gx,<-gX];exact KW,fw,jf.ext (pQ.ext pP om (Nat.le_refl _)) om (Nat.le_refl _),aw⟩
        |true=>
         obtain⟨x1,e1,y1,a1⟩:=jq [115,116,114,105,99,116,32] g (by simp only[List.length_cons,List.length_nil];omega);simp only[List.length_cons,List.length_nil]at y1;obtain⟨x2,e2,y2,a2⟩:=jq x1 [32] (by simp only[List.length_cons,List.length_nil];omega);simp only[List.length_cons,List.length_nil]at y2;obtain⟨x3,e3,y3,a3⟩:=jq x2 ft om;obtain⟨w2,Q3,jN,mW,je,iS⟩:=ku (lf:=lf) (n:=n) (s:=x3) (hB.ax ia bU) (Nat.le_refl _) om om om;have pP:=je.ext (dO.trans ia) om (Nat.le_refl _);have u4:aq (Q3.get Q.next) 4 1=some [.str s]:=by rw[je.row om om my (by decide)];rfl
         by_cases hs:s=[]
         ·have d2:decide (s≠[])=false:=by simp[hs]
          obtain⟨w4,Q4,kH,wQ,pQ,k8⟩:=ku (lf:=lf) (n:=n) (s:=[10]) mW (Nat.le_refl _) iS (by simp only[List.length_append,List.length_cons,List.length_nil];omega) om;have gX:cE (G.map eZ++(R.map fK++(E.take i).map fJ))++x3++[10]=cE (G.map eZ++(R.map fK++(E.take i).map fJ))++(fJ ⟨true,g,(t1,t2),s⟩++[10]):=by
           rw[e3,e2,e1];simp only[fJ,B6,v8,iK,hs,if_pos,List.append_nil,List.append_assoc]
          refine af @d1 ?_;refine ar ae ?_;refine af (An @j1 (An @j2 (An @nz (An @ey @u0)))) ?_;refine ar ae ?_;refine af ae ?_;refine dG rfl ?_;refine af (An @u1 (An @a1 (An @a2 @u2))) ?_;refine dH (by exact aZ trivial) ka bW ?_;refine af @a3 ?_;refine dH (by exact aZ trivial) jN bW ?_;refine af ae ?_;refine dB ?_ ?_
          ·exact dh (An @u1 (An @u2 (An @a1 (An @a2 (An @a3 @Ft)))))
          ·refine af (An @u4 @d2) ?_;refine ah ae ?_;refine af ae ?_;refine ai ae kH ?_;refine af (c8 (k:=i) om) ?_;refine aT (E.length-(i+1)) om ⟨rfl,i+1,rfl,by omega,by rw[gx,<-gX];exact wQ,k8,pQ.ext pP om (Nat.le_refl _),aw⟩
         ·have d2:decide (s≠[])=true:=by simp[hs]
          obtain⟨x5,e5,y5,a5⟩:=jq [32,124,32] s (by simp only[List.length_cons,List.length_nil];omega);simp only[List.length_cons,List.length_nil]at y5;obtain⟨w4,Q4,kH,wQ,pQ,k8⟩:=ku (lf:=lf) (n:=n) (s:=x5) mW (Nat.le_refl _) iS (by simp only[List.length_append];omega) om;obtain⟨w5,Q5,q9,KW,jf,fw⟩:=ku (lf:=lf) (n:=n) (s:=[10]) wQ (Nat.le_refl _) k8 (by simp only[List.length_append,List.length_cons,List.length_nil];omega) om;have gX:cE (G.map eZ++(R.map fK++(E.take i).map fJ))++x3++x5++[10]=cE (G.map eZ++(R.map fK++(E.take i).map fJ))++(fJ ⟨true,g,(t1,t2),s⟩++[10]):=by
           rw[e5,e3,e2,e1];simp only[fJ,B6,v8,iK,if_neg hs,List.append_assoc]
          refine af @d1 ?_;refine ar ae ?_;refine af (An @j1 (An @j2 (An @nz (An @ey @u0)))) ?_;refine ar ae ?_;refine af ae ?_;refine dG rfl ?_;refine af (An @u1 (An @a1 (An @a2 @u2))) ?_;refine dH (by exact aZ trivial) ka bW ?_;refine af @a3 ?_;refine dH (by exact aZ trivial) jN bW ?_;refine af ae ?_;refine dB ?_ ?_
          ·exact dh (An @u1 (An @u2 (An @a1 (An @a2 (An @a3 @Ft)))))
          ·refine af (An @u4 @d2) ?_;refine ar ae ?_;refine af (An @u4 @a5) ?_;refine ai ae kH ?_;refine af ae ?_;refine ai ae q9 ?_;refine af (c8 (k:=i) om) ?_;refine aT (E.length-(i+1)) om ⟨rfl,i+1,rfl,by omega,by rw[gx,<-gX];exact KW,fw,jf.ext (pQ.ext pP om (Nat.le_refl _)) om (Nat.le_refl _),aw⟩
       ·obtain rfl:i=E.length:=om;have d1:decide (((E.length:Nat):Int)<((E.length:Nat):Int))=false:=by simp
        rw[List.take_length]at hB;have hB:Bd bb Q bb (cE (dQ G R E)):=hB;have hl9:=small (l:=dQ G R E) (fun x hx=>hx) hT.1;have kH:=aa5 (lf:=lf) (n:=n) hB om;have ad7:eE (cE (dQ G R E)):=fun c hc=>by
         obtain⟨y,hy,hcy⟩:=List.mem_flatten.1 hc;obtain⟨l,hl,rfl⟩:=List.mem_map.1 hy;rcases List.mem_append.1 hcy with h|h
         ·have:=((hT.2 l hl).2 c h).1;omega
         ·rw[List.mem_singleton.1 h];decide
        obtain⟨Q2,q9,iG,L9⟩:=Yy (lf:=lf) (n:=n) hB ad7 bU om om;have d2:decide ((((cE (dQ G R E)).length:Nat):Int)>((8192:Nat):Int))=false:=df;generalize cE (dQ G R E)=tx at*;have qP:Ext H Q2:=⟨by rw[iG];exact(aF.trans dO).1,fun b hb=>(L9 b (by have:=aF.1;omega)).trans ((aF.trans dO).2 b hb)⟩;refine af @d1 ?_;refine ah ae ?_;refine af ae ?_;refine ai ae kH ?_;refine af @d2 ?_;refine ah ae ?_;refine af ae ?_;refine ai ae q9 ?_;refine af ae ?_;refine cD ae ?_;exact(⟨rfl,qP⟩)
      ·refine⟨rfl,0,rfl,Nat.zero_le _,?_,bU,dO,aw⟩;simpa using hB
    ·refine⟨rfl,0,rfl,Nat.zero_le _,?_,bU,dO,aw⟩;simpa using hB
  ·exact⟨rfl,0,rfl,Nat.zero_le _,adD,by omega,dJ,aw⟩
 obtain⟨w,H',h,rfl,hE⟩:=key;exact⟨H',h,hE⟩
end
end
end Go.Sh
