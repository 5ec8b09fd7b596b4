/-
  The sections of the program are those of the plain law. No conditions beyond those that stand in the theorems.
-/
import Derived.Test.YtfgpklidnkdahaaGreatDoorShC8
import Derived.Test.YtfgpklidnkdahaaGreatDoorShD2
set_option linter.all false
set_option maxHeartbeats 20000000
set_option maxRecDepth 10000
namespace Go.Sh
section
section
variable {ts:T} {H:ag}
def CZ (elem:TypeId) (z bytes:Nat) (zero:List SV) (l c:SV) (H:ag):Option (SV×ag):=evalOp (.vH elem z bytes zero (.t 0) (.t 1)) [l,c] H
theorem WT (elem:TypeId) (z bytes:Nat) (zero:List SV) (l c:X):evalOp (.vH elem z bytes zero l c) ts H=CZ elem z bytes zero (l.ev ts) (c.ev ts) H:=by
 simp only[evalOp,CZ];rfl
theorem Wm {elem:TypeId} {z bytes:Nat} {zero:List SV} {k k':IntKind} {l c:Nat} (h1:l<=c) (h2:c*bytes<=35184372088832) (h3:c<=35184372088832):
 CZ elem z bytes zero (.int k (l:Int)) (.int k' (c:Int)) H=some (.slice H.next 0 l (some c) z,H.push (.row ((List.replicate c zero).flatten) elem true false 0)):=by
 show(match Nat.ble l c&&Nat.ble (c*bytes) dR&&Nat.ble c dR with
  |true=>some (SV.slice H.next 0 l (some c) z,H.push (.row ((List.replicate c zero).flatten) elem true false 0))
  |false=>none)=_
 rw[dN h1,dN (show c*bytes<=dR from h2),dN (show c<=dR from h3)];rfl
theorem aaI {e z bytes b len cp:Nat} {cs x:List SV} {b':Nat} {e' e2:TypeId} {ex ex2 ro2:Bool} {ac6:Nat} {c:Option Nat} (hx:x.length=z) (bV:x.all SV.one=true) (dP:H.get b'=some (.row x e' ex2 ro2 ac6))
 (hb:H.get b=some (.row cs e2 ex false 0)) (hlen:cp*z<=cs.length) (hl:len<cp) (h1:(len+1)*bytes<=35184372088832) (h2:len+1<=35184372088832):
 fu H false e z bytes (.slice b 0 len (some cp) z) (.slice b' 0 1 c z)=some (.slice b 0 (len+1) (some cp) z,H.put b (.row (cs.take (len*z)++(x++cs.drop (len*z+z))) e2 ex false 0)):=by
 have ew:=HM (c:=c) hx dP;have hle:(len+1)*z<=cp*z:=Nat.mul_le_mul_right z hl;rw[Nat.add_mul,Nat.one_mul]at hle;have kJ:∃old,eK H b 0 (len*z)=some old:=by
  rw[ot,hb,jl om];exact⟨_,rfl⟩
 obtain⟨old,kJ⟩:=kJ;have aD:gN H b (0+len*z) x=some (H.put b (.row (cs.take (len*z)++(x++cs.drop (len*z+z))) e2 ex false 0)):=by
  rw[iq,hb,Nat.zero_add,im om (Nat.zero_le _) bV,hx]
 unfold fu;simp only[gP,ew,dR,l0,dN h1,dN h2,kJ,Bool.and_self];rw[dN om,aD]
end
theorem acR (c:Nat):(List.replicate c [SV.bool false]).flatten=List.replicate c (SV.bool false):=by
 induction c with
 |zero=>rfl
 |succ c ih=>rw[List.replicate_succ,List.flatten_cons,ih,List.replicate_succ];rfl
def mQ (n:Nat) (bs:List Bool):List SV:=bs.map SV.bool++List.replicate (n-bs.length) (SV.bool false)
theorem aaN {n:Nat} {bs:List Bool} (h:bs.length<=n):(mQ n bs).length=n:=by simp[mQ];omega
theorem aaM {n:Nat} {bs:List Bool} {t:Bool} (h:bs.length<n):(mQ n bs).take bs.length++([SV.bool t]++(mQ n bs).drop (bs.length+1))=mQ n (bs++[t]):=by
 have e1:(mQ n bs).take bs.length=bs.map SV.bool:=by
  unfold mQ;rw[List.take_append_of_le_length (by simp),List.take_of_length_le (by simp)]
 have e2:(mQ n bs).drop (bs.length+1)=List.replicate (n-(bs.length+1)) (SV.bool false):=by
  unfold mQ;rw[show n-bs.length=(n-(bs.length+1))+1 by omega,List.replicate_succ,List.drop_append,List.drop_of_length_le (by simp),List.length_map,show bs.length+1-bs.length=1 by omega];rfl
 rw[e1,e2,mQ,List.map_append,List.append_assoc,List.length_append];rfl
def AZ (H:ag) (v:SV) (l:List Bool):Prop:=∃b,v=.slice b 0 l.length (some l.length) 1/\b<H.next/\H.get b=some (.row (l.map SV.bool) 4 true false 0)
theorem AZ.ax {H H':ag} {v:SV} {l:List Bool} (h:AZ H v l) (hE:Ext H H'):AZ H' v l:=by
 obtain⟨b,h1,h2,h3⟩:=h;exact⟨b,h1,Nat.lt_of_lt_of_le h2 hE.1,(hE.2 b h2).trans h3⟩
theorem WA {ok:Nat->Prop} {H:ag} {c:List SV} {n:AN} (h:Nd ok H c n):∃k,c.take 1=[iN k]/\decide (((k:Nat):Int)=((1:Nat):Int))=n.t:=by
 rcases h.inv with⟨s,rfl,rfl⟩|⟨s,rfl,rfl⟩|⟨s,rfl,rfl⟩|⟨k,kv,av,K,A,hk,rfl,rfl,_⟩|⟨g,kv,K,hg,rfl,rfl,_⟩
 ·exact⟨1,rfl,rfl⟩
 ·exact⟨2,rfl,rfl⟩
 ·exact⟨3,rfl,rfl⟩
 ·rcases hk with rfl|rfl
  ·exact⟨4,rfl,rfl⟩
  ·exact⟨5,rfl,rfl⟩
 ·exact⟨6,rfl,rfl⟩
def kP (K:List AN):List Bool:=(K.map fun n=>List.replicate n.s.length n.t).flatten
theorem WZ (K:List AN):(kP K).length=(aL K).length:=by
 induction K with
 |nil=>rfl
 |cons n l ih=>unfold kP at*;simp only[List.map_cons,List.flatten_cons,List.length_append,List.length_replicate,ih,aL]
theorem W0 {K:List AN} {i:Nat} {a:AN} (h:K[i]? =some a):kP (K.take (i+1))=kP (K.take i)++List.replicate a.s.length a.t:=by
 have fT:K.take (i+1)=K.take i++[a]:=by rw[List.take_succ,h];rfl
 rw[fT];simp[kP]
theorem NL.NY {H:ag} {b:Nat} {c:List SV} {nd:AN} {e:TypeId} {ex ro:Bool} {frz:Nat} (h:Nd (fun _=>True) H c nd) (hb:b<H.next) (hg:H.get b=some (.row c e ex ro frz)):NL (fun _=>True) H (.slice b 0 1 (some 1) 5) [nd]:=
 ⟨[c],⟨fun y hy=>by rw[List.mem_singleton.1 hy];exact h.len,.inr ⟨b,some 1,e,ex,ro,frz,[],[],rfl,trivial,hb,by simpa using hg⟩⟩,h,trivial⟩
section
variable {lf n:Nat} {H:ag}
theorem akB {v:SV} {K:List AN} (h:NL (fun _=>True) H v K) (hb:eE (aL K)) (hl:(aL K).length<500000) (hn:3*(aL K).length+12<=n) (aC:600000<lf):
 ∃H',aj ak lf n 253 [v] H=some (.str (aL K),H')/\Ext H H':=by
 obtain⟨n,rfl⟩:=aN (n:=n);obtain⟨H1,ay⟩:∃H1,H.push (.row [.cM,.ao] 63 true false 0)=H1:=⟨_,rfl⟩;have aB:Ext H H1:=by rw[<-ay];exact(Ext.refl H).push _
 have ca:H1.next=H.next+1:=by rw[<-ay];rfl
 have bP:H1.get H.next=some (.row [.cM,.ao] 63 true false 0):=by rw[<-ay];exact bd _
 obtain⟨C,hC,hA⟩:=h.lower.ax (ok':=(· <H.next)) aB.1 fun b hb dP=>⟨hb,aB.2 b dP⟩
 have hle:=h.le;obtain⟨w,H2,aH,nN,ib⟩:=DG (lf:=lf) (B:=H.next) (bb:=H.next) (H0:=H1) (v:=v) (Nat.le_refl _) hC hA.len (fun c hc=>by
  obtain⟨m,_,hm⟩:=hA.vD c hc;exact hm.one) hle (fun i c nd h1 h2=>amc (Nat.le_refl _) (hA.get h1 h2) aC) aC n H1 [] (F0.refl _ _ _) (.inl ⟨rfl,.inl bP⟩) om (by simpa using hl) om
 obtain⟨H3,bf,fo,gg⟩:=Yy (lf:=lf) (n:=n) nN (by simpa using hb) (by have:=ib.1;omega) (by simp;omega) om;rw[List.nil_append]at bf;have key:∃w H',aj ak lf (n+1) 253 [v] H=some (w,H')/\w=.str (aL K)/\Ext H H':=by
  refine cx PR.1 ?_;refine af @ay ?_;refine ai ae aH ?_;refine af ae ?_;refine ai ae bf ?_;refine af ae ?_;refine aO ae ?_;exact(⟨rfl,by have:=ib.1;omega,fun b hb=>(gg b hb).trans ((ib.2 b om om (.inl hb)).trans (aB.2 b hb))⟩)
 obtain⟨_,H',h,rfl,h1⟩:=key;exact⟨H',h,h1⟩
@[reducible] def ZD (s:List Nat) (H1:ag) (v:SV) (K:List AN) (m:Nat) (ts:T) (D:DS) (H':ag):Prop:=
  D=[]/\Ext H1 H'/\H1.next<H'.next/\∃(i q:Nat),m=K.length-i/\i<=K.length/\q=(kP (K.take i)).length/\q<=s.length/\H'.get H1.next=some (.row (mQ s.length (kP (K.take i))) 4 true false 0)/\
   ∃z:Nat->SV,ts=((.str s)::zz z 1 3 ((v)::z 5::(.slice H1.next 0 q (some s.length) 1)::zz z 7 13 ((v)::(.int .i64 (K.length:Int))::(.int .i64 (i:Int))::zz z 23 18 [])):T)/\(True)
@[reducible] def Z7 (s:List Nat) (H1:ag) (v:SV) (K:List AN) (i nb:Nat) (nd:AN) (c:List SV) (m:Nat) (ts:T) (D:DS) (H':ag):Prop:=
  D=[]/\Ext H1 H'/\∃(k q:Nat),m=nd.s.length-k/\k<=nd.s.length/\q=(kP (K.take i)).length+k/\H1.next<nb/\nb<H'.next/\H'.get nb=some (.row c 301 true false 0)/\
   H'.get H1.next=some (.row (mQ s.length (kP (K.take i)++List.replicate k nd.t)) 4 true false 0)/\
   ∃z:Nat->SV,ts=((.str s)::zz z 1 3 ((v)::z 5::(.slice H1.next 0 q (some s.length) 1)::z 7::(.ptr nb 0)::zz z 9 11 ((v)::(.int .i64 (K.length:Int))::(.int .i64 (i:Int))::zz z 23 6 ((.int .i64 (nd.s.length:Int))::(.int .i64 (k:Int))::zz z 31 10 []))):T)/\(True)
theorem ai4 {s:List Nat} (hs:eE s) (hlen:s.length<=8192) (hn:3*s.length+14<=n) (aC:600000<lf):
 ∃(v:SV) (H':ag),aj ak lf n 184 [.str s] H=some (.aJ [v,iN 0],H')/\Ext H H'/\AZ H' v (fD s):=by
 obtain⟨n,rfl⟩:=aN (n:=n);have key:∃v H',aj ak lf (n+1) 184 [.str s] H=some (v,H')/\∃w,v=.aJ [w,iN 0]/\Ext H H'/\AZ H' w (fD s):=by
  refine cx PE.1 ?_;refine af ae ?_;obtain⟨v,H1,UY,hE,hN⟩:=aiV (lf:=lf) (n:=n) (H:=H) hlen om om;have ew:=N2 s;have fG:=N4 s;have hpd:fD s=kP (oD s):=rfl;rw[hpd]at fG ⊢;generalize oD s=K at UY hN ew fG ⊢;refine ai ae UY ?_;have d0:decide (((0:Nat):Int)≠((0:Nat):Int))=false:=by decide
  refine af @d0 ?_;refine ah ae ?_;have kK:CZ 4 1 1 [SV.bool false] (.int .i64 ((0:Nat):Int)) (.int .i64 (s.length:Int)) H1=some (.slice H1.next 0 0 (some s.length) 1,H1.push (.row (mQ s.length []) 4 true false 0)):=by
   rw[Wm (Nat.zero_le _) om om,acR];rfl
  have hle:=hN.le;rw[ew]at hle;obtain⟨C,hC,hA⟩:=id hN;have aW:=hC.cA;rw[hA.len]at aW;refine af (An @WT (An @kK @aW)) ?_;refine bH (I:=ZD s H1 v K) ?_ K.length ?_ om
  ·rintro m ts D H' ⟨rfl,aB,jw,i,q,rfl,hi,hq,U8,bj,⟨z,rfl, -⟩⟩;by_cases bw:i<K.length
   ·have d1:decide (((i:Nat):Int)<((K.length:Nat):Int))=true:=dt;have jI:K[i]? =some K[i]:=List.getElem?_eq_getElem bw;have oV:i<C.length:=by rw[hA.len];exact bw
    have ja:C[i]? =some C[i]:=List.getElem?_eq_getElem oV;obtain⟨b,o,x1,_,bU,x2,bO⟩:=(hC.ax (ok':=fun _=>True) aB.1 fun b _ hb=>⟨trivial,aB.2 b hb⟩).at_ ja;have jj:=(hA.get ja jI).ax (ok':=fun _=>True) aB.1 fun b _ hb=>⟨trivial,aB.2 b hb⟩
    obtain⟨y1,y2⟩:=GJ jI;have y3:=W0 jI;have aeS:K[i]∈K:=List.getElem_mem bw;have o5:eE K[i].s:=fun x hx=>hs x (by rw[<-ew];exact List.mem_flatten.2 ⟨_,List.mem_map.2 ⟨_,aeS,rfl⟩,hx⟩)
    have F4:q+K[i].s.length<=s.length:=by rw[hq,WZ,<-ew];exact y1
    generalize K[i]=nd at jI y1 y2 y3 jj o5 F4;generalize C[i]=c at ja x2 bO jj;have bV:=jj.one;obtain⟨k0,re,eW⟩:=WA jj;obtain⟨H5,bg⟩:∃H5,(H'.push (.row [iN 0,iN 0,.str [],.ao,.ao] 301 true false 0)).put H'.next (.row c 301 true false 0)=H5:=⟨_,rfl⟩;have bm:Ext H' H5:=by rw[<-bg];exact((Ext.refl H').push _).put (Nat.le_refl _) _
    have iG:H5.next=H'.next+1:=by rw[<-bg];rfl
    have fw:H5.get H'.next=some (.row c 301 true false 0):=by rw[<-bg];exact bT _ _
    have iH:c7 5 (.ptr H'.next 0) c (H'.push (.row [iN 0,iN 0,.str [],.ao,.ao] 301 true false 0))=some H5:=by
     rw[iL bO,iq,bd,im (by rw[bO];exact Nat.le_refl _) (Nat.le_refl _) bV,<-bg,bO];simp
    have r5:aq (H5.get H'.next) 0 5=some c:=by rw[fw,jl om,List.drop_zero,<-bO,List.take_length]
    have bn:(SV.agg c).cells=c:=rfl;obtain⟨H6,fZ⟩:∃H6,H5.push (.row c 301 true false 0)=H6:=⟨_,rfl⟩;have cL:Ext H5 H6:=by rw[<-fZ];exact(Ext.refl H5).push _
    have ie:H6.get H5.next=some (.row c 301 true false 0):=by rw[<-fZ];exact bd _
    have xB:H6.next=H5.next+1:=by rw[<-fZ];rfl
    have hN6:NL (fun _=>True) H6 (.slice H5.next 0 1 (some 1) 5) [nd]:=NL.NY (jj.ax (ok':=fun _=>True) (bm.trans cL).1 fun b _ hb=>⟨trivial,(bm.trans cL).2 b hb⟩) om ie;have fH:aL [nd]=nd.s:=uE nd;obtain⟨H7,iD,dV⟩:=akB (lf:=lf) (n:=n) hN6 (by rw[fH];exact o5) (by rw[fH];omega) (by rw[fH];omega) aC;rw[fH]at iD;have hdc:c++List.drop c.length [iN 0,iN 0,SV.str [],SV.ao,SV.ao]=c:=by rw[bO];exact List.append_nil c
    refine af @d1 ?_;refine ar ae ?_;refine af (An @x1 (An @x2 (An @bn (An @iH (An @r5 (An @hdc @fZ)))))) ?_;refine ai ae iD ?_;refine af ae ?_;have Fb:=cL.trans dV;have adH:=(aB.trans bm).trans Fb;refine bH (I:=Z7 s H1 v K i H'.next nd c) ?_ nd.s.length ?_ om
    ·rintro m ts D H3 ⟨rfl,hF,k,q',rfl,hk,ui,fo,nY,UL,od,⟨z,rfl, -⟩⟩;by_cases p0:k<nd.s.length
     ·have d2:decide (((k:Nat):Int)<((nd.s.length:Nat):Int))=true:=dt;have r0:aq (H3.get H'.next) 0 1=some [iN k0]:=by rw[UL,jl om,List.drop_zero,re]
      obtain⟨bs,LA⟩:∃bs,kP (K.take i)++List.replicate k nd.t=bs:=⟨_,rfl⟩;have eI:bs.length=q':=by rw[<-LA,List.length_append,List.length_replicate,ui]
      rw[LA]at od;have ju:=aaI (H:=H3.push (.row [SV.bool nd.t] 4 true false 0)) (e:=4) (z:=1) (bytes:=1) (b:=H1.next) (len:=q') (cp:=s.length) (x:=[SV.bool nd.t]) (b':=H3.next) (c:=some 1) rfl rfl (bd _) (by rw[cU om];exact od) (by rw[aaN om];omega) om om om;rw[Nat.mul_one,<-eI,aaM om,eI]at ju;refine af @d2 ?_;refine ar ae ?_;refine af (An @r0 (An @eW @ju)) ?_;refine aT (nd.s.length-(k+1)) om ⟨rfl,?_,k+1,q'+1,rfl,by omega,by omega,fo,?_,?_,?_,?_⟩
      ·exact((hF.push _).put (Nat.le_refl _) _)
      ·rw[ea,dZ];omega
      ·rw[cI om,cU om];exact UL
      ·rw[bT,List.replicate_succ',<-List.append_assoc,LA]
      ·exact aw
     ·have eJ:k=nd.s.length:=om;subst eJ;have d2:decide (((nd.s.length:Nat):Int)<((nd.s.length:Nat):Int))=false:=by simp
      refine af @d2 ?_;refine ah ae ?_;refine af ae ?_;refine aT (K.length-(i+1)) om ⟨rfl,hF,by omega,i+1,q',rfl,by omega,by rw[y3,List.length_append,List.length_replicate];exact ui,by omega,by rw[y3];exact od,?_⟩;exact aw
    ·refine⟨rfl,adH,0,q,by omega,Nat.zero_le _,by omega,jw,by have:=Fb.1;omega,?_,?_,?_⟩
     ·rw[Fb.2 _ om];exact fw
     ·rw[(bm.trans Fb).2 _ jw,bj];simp
     ·exact aw
   ·have bw:i=K.length:=om;subst bw;have d1:decide (((K.length:Nat):Int)<((K.length:Nat):Int))=false:=by simp
    rw[List.take_length]at hq bj;have gT:mQ s.length (kP K)=(kP K).map SV.bool:=by unfold mQ;rw[fG,Nat.sub_self];simp
    rw[gT]at bj;refine af @d1 ?_;refine ah ae ?_;refine af ae ?_;refine cD ae ?_;exact(⟨_,rfl,hE.trans aB,⟨H1.next,by rw[hq,fG],jw,bj⟩⟩)
  ·refine⟨rfl,(Ext.refl _).push _,by rw[dZ];omega,0,0,rfl,Nat.zero_le _,rfl,Nat.zero_le _,bd _,?_⟩;exact aw
 obtain⟨v,H',h,w,rfl,h1,h2⟩:=key;exact⟨w,H',h,h1,h2⟩
end
end
section
def fh (l:List Nat):List SV:=(List.range 256).map fun c=>.bool (l.contains c)
theorem uS (l:List Nat):(fh l).length=256:=by simp[fh]
theorem Ep (l:List Nat) {c:Nat} (h:c<256):(fh l)[c]? =some (.bool (l.contains c)):=by
 simp[fh,List.getElem?_map,List.getElem?_range h]
theorem aaJ:fh []=List.replicate 256 (.bool false):=by
 unfold fh;apply List.ext_getElem
 ·simp
 ·intro i h1 h2;rw[List.getElem_map,List.getElem_replicate];rfl
theorem aaK (l:List Nat) {k:Nat} (h:k<256):(fh l).take k++([SV.bool true]++(fh l).drop (k+1))=fh (l++[k]):=by
 apply List.ext_getElem?;intro i;have hlen:=uS l;by_cases hi:i<256
 ·rw[Ep _ hi];rw[List.getElem?_append];by_cases h1:i<k
  ·rw[if_pos (by simp[hlen];omega),List.getElem?_take,if_pos h1,Ep _ hi];have:¬i=k:=om;simp[this]
  ·rw[if_neg (by simp[hlen];omega)];rw[List.length_take,hlen,Nat.min_eq_left om];by_cases h2:i=k
   ·subst h2;simp
   ·obtain⟨j,rfl⟩:∃j,i=k+1+j:=⟨i-(k+1),by omega⟩;rw[show k+1+j-k=j+1 by omega];rw[List.singleton_append,List.getElem?_cons_succ,List.getElem?_drop,Ep _ hi];have:¬k+1+j=k:=om;simp[this]
 ·rw[List.getElem?_eq_none (by simp[uS];omega),List.getElem?_eq_none (by rw[uS];omega)]
theorem Er (l:List Nat):(fh l).all SV.one=true:=by
 rw[List.all_eq_true];intro x hx;obtain⟨c,_,rfl⟩:=List.mem_map.1 hx;rfl
section
variable {lf n:Nat} {H:ag}
theorem JV {l:List Nat} {b:Nat} {e:TypeId} {ex ro:Bool} {frz:Nat} (hb:H.get b=some (.row (fh l) e ex ro frz)) {k:Nat} (hk:k<256) (hn:1<=n):
 aj ak lf n 168 [.ptr b 0,.int .u8 (k:Int)] H=some (.bool (l.contains k),H):=by
 obtain⟨n,rfl⟩:=aN (n:=n);have hl:aq (some (.row (fh l) e ex ro frz)) k 1=some [.bool (l.contains k)]:=nE (Ep l hk);have key:∃v H',aj ak lf (n+1) 168 [.ptr b 0,.int .u8 (k:Int)] H=some (v,H')/\(v=.bool (l.contains k)/\H'=H):=by
  refine cx Iu.1 ?_;refine af (An @hb @hl) ?_;exact gQ (Ol _ _ (by simp only[go_sem])) ⟨rfl,rfl⟩
 obtain⟨v,H',h,rfl,rfl⟩:=key;exact h
theorem NH {l:List Nat} (hl:∀x∈l,x<128) (hn:1<=n) (aC:l.length<lf) (hlen:l.length<1000000):
 ∃H',aj ak lf n 157 [.str l] H=some (.aJ [.agg (fh l),.bool true],H')/\Ext H H':=by
 obtain⟨n,rfl⟩:=aN (n:=n);have key:∃v H',aj ak lf (n+1) 157 [.str l] H=some (v,H')/\(v=.aJ [.agg (fh l),.bool true]/\Ext H H'):=by
  refine cx Ip.1 ?_;refine af ae ?_;refine bH (I:=fun m ts D H'=>∃i,i<=l.length/\m=l.length-i/\D=[]/\Ext H H'/\H'.get H.next=some (.row (fh (l.take i)) 241 true false 0)/\∃z:Nat->SV,ts=((.str l)::z 1::(.ptr H.next 0)::z 3::(.int .i64 (i:Int))::zz z 5 16 []:T)/\(True)) ?_ (l.length-0) ?_ om
  ·rintro m ts D H' ⟨i,hi,rfl,rfl,hE,bj,⟨z,rfl, -⟩⟩;refine af ae ?_;refine cst ae (fun hc=>?_) (fun hc=>?_)<;>try simp only[decide_eq_true_eq,decide_eq_false_iff_not,not_true_eq_false,not_false_eq_true,Int.not_lt,Int.not_le,ge_iff_le,gt_iff_lt]at hc
   ·obtain⟨x,hx⟩:∃x,l[i]? =some x:=⟨l[i],List.getElem?_eq_getElem om⟩;have aok:x<128:=hl x (List.mem_of_getElem? hx);have fP:=uS (l.take i);refine af @hx ?_;refine cst ae (fun hc=>?_) (fun hc=>?_)<;>try simp only[decide_eq_true_eq,decide_eq_false_iff_not,not_true_eq_false,not_false_eq_true,Int.not_lt,Int.not_le,ge_iff_le,gt_iff_lt]at hc
    ·omega
    ·refine af (An @bj @fP) ?_;refine aT (l.length-(i+1)) om ⟨i+1,by omega,rfl,rfl,?_,?_,?_⟩
     ·exact hE.put (Nat.le_refl _) _
     ·rw[bT];congr 2;rw[List.take_succ,hx];exact aaK (l.take i) om
     ·exact aw
   ·have cu:i=l.length:=om;subst cu;rw[List.take_length]at bj;have fP:=uS l;have F2:H'.get H.next=some (.row (fh l) 241 true false 0):=bj;have fT:List.take 256 (fh l)=fh l:=List.take_of_length_le om;have jK:List.drop 256 (fh l)=[]:=List.drop_eq_nil_of_le om;have bV:(fh l).all SV.one=true:=Er l;refine af (An @bj (An @fP (An @fT (An @jK (An @bV @List.append_nil.{0}))))) ?_
    refine cD (An @bj (An @fP @fT)) ?_;exact(⟨rfl,hE.put (Nat.le_refl _) _⟩)
  ·refine⟨0,Nat.zero_le _,rfl,rfl,(Ext.refl H).push _,?_,?_⟩
   ·rw[bd,List.take_zero,aaJ]
   ·exact aw
 obtain⟨v,H',h,rfl,hE⟩:=key;exact⟨H',h,hE⟩
end
def b9 (p:Nat->Bool) (s:List Nat):List Nat:=(s.reverse.dropWhile p).reverse
theorem Dw {p:Nat->Bool} {x:Nat} (s:List Nat) (h:p x=true):b9 p (s++[x])=b9 p s:=by
 simp[b9,h]
theorem vY {p:Nat->Bool} {x:Nat} (s:List Nat) (h:p x=false):b9 p (s++[x])=s++[x]:=by
 simp[b9,h]
section
variable {lf n:Nat} {H:ag}
theorem alH {l:List Nat} {b:Nat} {e:TypeId} {ex ro:Bool} {frz:Nat} (hb:H.get b=some (.row (fh l) e ex ro frz)) {s:List Nat} (hs:eE s) (hlen:s.length<1000000) (hn:2<=n) (aC:s.length<lf):
 aj ak lf n 158 [.str s,.ptr b 0] H=some (.str (s.dropWhile fun c=>l.contains c),H):=by
 obtain⟨n,rfl⟩:=aN (n:=n);have key:∃v H',aj ak lf (n+1) 158 [.str s,.ptr b 0] H=some (v,H')/\(v=.str (s.dropWhile fun c=>l.contains c)/\H'=H):=by
  refine cx Iq.1 ?_;refine af ae ?_;refine bH (I:=fun m ts D H'=>∃s':List Nat,m=s'.length/\s'.length<=s.length/\eE s'/\(s'.dropWhile fun c=>l.contains c)=(s.dropWhile fun c=>l.contains c)/\D=[]/\H'=H/\∃z:Nat->SV,ts=((.str s')::(.ptr b 0)::zz z 2 14 []:T)/\(True)) ?_ s.length ?_ om
  ·rintro m ts D H' ⟨s',rfl,hle,o5,gy,rfl,rfl,⟨z,rfl, -⟩⟩;refine af ae ?_;refine cst ae (fun hc=>?_) (fun hc=>?_)<;>try simp only[decide_eq_true_eq,decide_eq_false_iff_not,not_true_eq_false,not_false_eq_true,Int.not_lt,Int.not_le,ge_iff_le,gt_iff_lt]at hc
   ·cases s' with
    |nil=>simp at hc
    |cons x r=>
     have hx:x<256:=o5 x (List.mem_cons_self ..);refine af ae ?_;have cK:=JV (lf:=lf) (n:=n) hb hx om;refine ai ae cK ?_;refine af ae ?_;have hd:((x::r).dropWhile fun c=>l.contains c)=if l.contains x then r.dropWhile (fun c=>l.contains c)else x::r:=List.dropWhile_cons
     refine cst ae (fun hc=>?_) (fun hc=>?_)<;>try simp only[decide_eq_true_eq,decide_eq_false_iff_not,not_true_eq_false,not_false_eq_true,Int.not_lt,Int.not_le,ge_iff_le,gt_iff_lt]at hc
     ·have fk:l.contains x=false:=by simpa using hc
      refine af ae ?_;rw[fk,if_neg (by simp)]at hd;refine aO ae ?_;exact(⟨by rw[<-gy,hd],rfl⟩)
     ·have fk:l.contains x=true:=by simpa using hc
      rw[fk,if_pos rfl]at hd;refine af (An @Nat.add_sub_cancel @List.take_length.{0}) ?_
      refine aT r.length (by simp) ⟨r,rfl,by simp at hle;omega,fun y hy=>o5 y (List.mem_cons_of_mem _ hy),by rw[<-gy,hd],rfl,rfl,?_⟩;exact aw
   ·have:s'=[]:=by
     cases s' with
     |nil=>rfl
     |cons x r=>simp at hc;omega
    subst this;refine af ae ?_;refine aO ae ?_;exact(⟨by rw[<-gy];rfl,rfl⟩)
  ·exact⟨s,rfl,Nat.le_refl _,hs,rfl,rfl,rfl,aw⟩
 obtain⟨v,H',h,rfl,rfl⟩:=key;exact h
theorem YS {l:List Nat} {b:Nat} {e:TypeId} {ex ro:Bool} {frz:Nat} (hb:H.get b=some (.row (fh l) e ex ro frz)) {s:List Nat} (hs:eE s) (hlen:s.length<1000000) (hn:2<=n) (aC:s.length<lf):
 aj ak lf n 159 [.str s,.ptr b 0] H=some (.str (b9 (fun c=>l.contains c) s),H):=by
 obtain⟨n,rfl⟩:=aN (n:=n);have key:∃v H',aj ak lf (n+1) 159 [.str s,.ptr b 0] H=some (v,H')/\(v=.str (b9 (fun c=>l.contains c) s)/\H'=H):=by
  refine cx Ir.1 ?_;refine af ae ?_;refine bH (I:=fun m ts D H'=>∃s':List Nat,m=s'.length/\s'.length<=s.length/\eE s'/\b9 (fun c=>l.contains c) s'=b9 (fun c=>l.contains c) s/\D=[]/\H'=H/\∃z:Nat->SV,ts=((.str s')::(.ptr b 0)::zz z 2 20 []:T)/\(True)) ?_ s.length ?_ om
  ·rintro m ts D H' ⟨s',rfl,hle,o5,gy,rfl,rfl,⟨z,rfl, -⟩⟩;refine af ae ?_;refine cst ae (fun hc=>?_) (fun hc=>?_)<;>try simp only[decide_eq_true_eq,decide_eq_false_iff_not,not_true_eq_false,not_false_eq_true,Int.not_lt,Int.not_le,ge_iff_le,gt_iff_lt]at hc
   ·rcases List.eq_nil_or_concat s' with rfl|⟨r,x,rfl⟩
    ·simp at hc
    ·rw[List.concat_eq_append]at*;have hx:x<256:=o5 x (by simp);have fB:(r++[x]).length=r.length+1:=by simp
     rw[fB]at hle;have j9:(r++[x])[r.length]? =some x:=by simp
     have og:((r.length:Int)+1-1).toNat=r.length:=om;refine af (An @fB (An @j9 (An @Int.natCast_add (An @Int.natCast_one @og)))) ?_;have cK:=JV (lf:=lf) (n:=n) hb hx om;refine ai ae cK ?_;refine af ae ?_;refine cst ae (fun hc=>?_) (fun hc=>?_)<;>try simp only[decide_eq_true_eq,decide_eq_false_iff_not,not_true_eq_false,not_false_eq_true,Int.not_lt,Int.not_le,ge_iff_le,gt_iff_lt]at hc
     ·have fk:l.contains x=false:=by simpa using hc
      refine af ae ?_;refine aO ae ?_;exact(⟨by rw[<-gy,vY r fk],rfl⟩)
     ·have fk:l.contains x=true:=by simpa using hc
      refine af (An @fB (An @j9 (An @Int.natCast_add (An @Int.natCast_one (An @og (An @Nat.sub_zero @List.take_left.{0})))))) ?_
      refine aT r.length om ⟨r,rfl,by omega,fun y hy=>o5 y (by simp[hy]),by rw[<-gy,Dw r fk],rfl,rfl,?_⟩;exact aw
   ·have:s'=[]:=by
     cases s' with
     |nil=>rfl
     |cons x r=>simp at hc;omega
    subst this;refine af ae ?_;refine aO ae ?_;exact(⟨by rw[<-gy];rfl,rfl⟩)
  ·exact⟨s,rfl,Nat.le_refl _,hs,rfl,rfl,rfl,aw⟩
 obtain⟨v,H',h,rfl,rfl⟩:=key;exact h
theorem alI {c:Nat} (lE:c<256) {s:List Nat} (hs:eE s) (hlen:s.length<1000000) (hn:1<=n) (aC:s.length<lf):
 aj ak lf n 155 [.str s,.int .u8 (c:Int)] H=some (.str (s.dropWhile fun x=>decide (x=c)),H):=by
 obtain⟨n,rfl⟩:=aN (n:=n);have key:∃v H',aj ak lf (n+1) 155 [.str s,.int .u8 (c:Int)] H=some (v,H')/\(v=.str (s.dropWhile fun x=>decide (x=c))/\H'=H):=by
  refine cx Im.1 ?_;refine af ae ?_;refine bH (I:=fun m ts D H'=>∃s':List Nat,m=s'.length/\s'.length<=s.length/\(s'.dropWhile fun x=>decide (x=c))=(s.dropWhile fun x=>decide (x=c))/\D=[]/\H'=H/\∃z:Nat->SV,ts=((.str s')::(.int .u8 (c:Int))::zz z 2 15 []:T)/\(True)) ?_ s.length ?_ om
  ·rintro m ts D H' ⟨s',rfl,hle,gy,rfl,rfl,⟨z,rfl, -⟩⟩;cases s' with
   |nil=>
    have hd:decide (((0:Nat):Int)>((0:Nat):Int))=false:=by simp
    refine af @hd ?_;refine cst ae (fun hc=>?_) (fun hc=>?_)<;>try simp only[decide_eq_true_eq,decide_eq_false_iff_not,not_true_eq_false,not_false_eq_true,Int.not_lt,Int.not_le,ge_iff_le,gt_iff_lt]at hc
    ·simp at hc
    ·refine af ae ?_;refine aO ae ?_;exact(⟨by rw[<-gy];rfl,rfl⟩)
   |cons x r=>
    have hd:decide (((r.length+1:Nat):Int)>((0:Nat):Int))=true:=by simp
    have FA:((x::r).dropWhile fun y=>decide (y=c))=if decide (x=c)then r.dropWhile (fun y=>decide (y=c))else x::r:=List.dropWhile_cons
    refine af @hd ?_;refine cst ae (fun hc=>?_) (fun hc=>?_)<;>try simp only[decide_eq_true_eq,decide_eq_false_iff_not,not_true_eq_false,not_false_eq_true,Int.not_lt,Int.not_le,ge_iff_le,gt_iff_lt]at hc
    ·have fk:x=c:=om;rw[if_pos (by simpa using fk)]at FA;refine af (An @Nat.add_sub_cancel @List.take_length.{0}) ?_
     refine aT r.length (by simp) ⟨r,rfl,by simp at hle;omega,by rw[<-gy,FA],rfl,rfl,?_⟩;exact aw
    ·have fk:¬x=c:=om;rw[if_neg (by simpa using fk)]at FA;refine af ae ?_;refine aO ae ?_;exact(⟨by rw[<-gy,FA],rfl⟩)
  ·exact⟨s,rfl,Nat.le_refl _,rfl,rfl,rfl,aw⟩
 obtain⟨v,H',h,rfl,rfl⟩:=key;exact h
end
def isSp (c:Nat):Bool:=[32,9].contains c
def isEq (c:Nat):Bool:=decide (c=61)
theorem Bm:decide (([]:List Nat)=[])=true:=rfl
theorem yY (x:Nat) (l:List Nat):decide (x::l=[])=false:=by simp
theorem J1:decide ((([32,9]:List Nat).length:Int)=((1:Nat):Int))=false:=by decide
theorem J2:decide (((0+1+1:Nat):Int)=((1:Nat):Int))=false:=by decide
theorem J3:decide (((2:Nat):Int)=((1:Nat):Int))=false:=by decide
theorem Su:decide (((0+1:Nat):Int)=((1:Nat):Int))=true:=by decide
theorem J0:decide (((1:Nat):Int)=((1:Nat):Int))=true:=by decide
theorem St:decide (((61:Nat):Int)<((128:Nat):Int))=true:=by decide
section
variable {lf n:Nat} {H:ag}
theorem alK {c:Nat} (lE:c<256) {s:List Nat} (hs:eE s) (hlen:s.length<1000000) (hn:1<=n) (aC:s.length<lf):
 aj ak lf n 156 [.str s,.int .u8 (c:Int)] H=some (.str (b9 (fun x=>decide (x=c)) s),H):=by
 obtain⟨n,rfl⟩:=aN (n:=n);have key:∃v H',aj ak lf (n+1) 156 [.str s,.int .u8 (c:Int)] H=some (v,H')/\(v=.str (b9 (fun x=>decide (x=c)) s)/\H'=H):=by
  refine cx Io.1 ?_;refine af ae ?_;refine bH (I:=fun m ts D H'=>∃s':List Nat,m=s'.length/\s'.length<=s.length/\b9 (fun x=>decide (x=c)) s'=b9 (fun x=>decide (x=c)) s/\D=[]/\H'=H/\∃z:Nat->SV,ts=((.str s')::(.int .u8 (c:Int))::zz z 2 21 []:T)/\(True)) ?_ s.length ?_ om
  ·rintro m ts D H' ⟨s',rfl,hle,gy,rfl,rfl,⟨z,rfl, -⟩⟩;rcases List.eq_nil_or_concat s' with rfl|⟨r,x,rfl⟩
   ·have hd:decide (((0:Nat):Int)>((0:Nat):Int))=false:=by simp
    refine af @hd ?_;refine cst ae (fun hc=>?_) (fun hc=>?_)<;>try simp only[decide_eq_true_eq,decide_eq_false_iff_not,not_true_eq_false,not_false_eq_true,Int.not_lt,Int.not_le,ge_iff_le,gt_iff_lt]at hc
    ·simp at hc
    ·refine af ae ?_;refine aO ae ?_;exact(⟨by rw[<-gy];rfl,rfl⟩)
   ·rw[List.concat_eq_append]at*;have fB:(r++[x]).length=r.length+1:=List.length_append;rw[fB]at hle;have j9:(r++[x])[r.length]? =some x:=by simp
    have og:((r.length:Int)+1-1).toNat=r.length:=om;have hd:decide ((r.length:Int)+1>((0:Nat):Int))=true:=dt;refine af (An @fB (An @j9 (An @Int.natCast_add (An @Int.natCast_one (An @og @hd))))) ?_;refine cst ae (fun hc=>?_) (fun hc=>?_)<;>try simp only[decide_eq_true_eq,decide_eq_false_iff_not,not_true_eq_false,not_false_eq_true,Int.not_lt,Int.not_le,ge_iff_le,gt_iff_lt]at hc
    ·have fk:x=c:=om;refine af (An @fB (An @j9 (An @Int.natCast_add (An @Int.natCast_one (An @og (An @Nat.sub_zero @List.take_left.{0})))))) ?_
     refine aT r.length om ⟨r,rfl,by omega,by rw[<-gy,Dw r (by simpa using fk)],rfl,rfl,?_⟩;exact aw
    ·have fk:¬x=c:=om;refine af ae ?_;refine aO ae ?_;exact(⟨by rw[<-gy,vY r (by simpa using fk)],rfl⟩)
  ·exact⟨s,rfl,Nat.le_refl _,rfl,rfl,rfl,aw⟩
 obtain⟨v,H',h,rfl,rfl⟩:=key;exact h
theorem alL {s:List Nat} (hs:eE s) (hlen:s.length<1000000) (hn:2<=n) (aC:s.length<lf):
 aj ak lf n 249 [.str s,.str [61]] H=some (.str (b9 isEq s),H):=by
 obtain⟨n,rfl⟩:=aN (n:=n);have key:∃v H',aj ak lf (n+1) 249 [.str s,.str [61]] H=some (v,H')/\(v=.str (b9 isEq s)/\H'=H):=by
  refine cx DL.1 ?_;cases s with
  |nil=>
   refine af @Bm ?_;refine ar ae ?_;refine af ae ?_;refine aO ae ?_;exact(⟨rfl,rfl⟩)
  |cons x r=>
   refine af @yY ?_;refine ah ae ?_
   ·refine af (An @Su (An @J0 @St)) ?_;refine ar ae ?_
    ·refine af ae ?_;have cK:=alK (lf:=lf) (n:=n) (H:=H) (c:=61) om hs hlen om aC;refine ai ae cK ?_;refine af ae ?_;refine aO ae ?_;exact(⟨rfl,rfl⟩)
 obtain⟨v,H',h,rfl,rfl⟩:=key;exact h
theorem alJ {s:List Nat} (hs:eE s) (hlen:s.length<1000000) (hn:2<=n) (aC:s.length<lf):
 aj ak lf n 232 [.str s,.str [61]] H=some (.str (s.dropWhile isEq),H):=by
 obtain⟨n,rfl⟩:=aN (n:=n);have key:∃v H',aj ak lf (n+1) 232 [.str s,.str [61]] H=some (v,H')/\(v=.str (s.dropWhile isEq)/\H'=H):=by
  refine cx IB.1 ?_;cases s with
  |nil=>
   refine af @Bm ?_;refine ar ae ?_;refine af ae ?_;refine aO ae ?_;exact(⟨rfl,rfl⟩)
  |cons x r=>
   refine af @yY ?_;refine ah ae ?_
   ·refine af (An @Su (An @J0 @St)) ?_;refine ar ae ?_
    ·refine af ae ?_;have cK:=alI (lf:=lf) (n:=n) (H:=H) (c:=61) om hs hlen om aC;refine ai ae cK ?_;refine af ae ?_;refine aO ae ?_;exact(⟨rfl,rfl⟩)
 obtain⟨v,H',h,rfl,rfl⟩:=key;exact h
theorem alM {s:List Nat} (hs:eE s) (hlen:s.length<1000000) (hn:3<=n) (aC:s.length<lf) (Mb:2<lf):
 ∃H',aj ak lf n 249 [.str s,.str [32,9]] H=some (.str (b9 isSp s),H')/\Ext H H':=by
 obtain⟨n,rfl⟩:=aN (n:=n);have key:∃v H',aj ak lf (n+1) 249 [.str s,.str [32,9]] H=some (v,H')/\(v=.str (b9 isSp s)/\Ext H H'):=by
  refine cx DL.1 ?_;cases s with
  |nil=>
   refine af @Bm ?_;refine ar ae ?_;refine af ae ?_;refine aO ae ?_;exact(⟨rfl,Ext.refl _⟩)
  |cons x r=>
   refine af @yY ?_;refine ah ae ?_
   ·refine af (An @J1 (An @J2 @J3)) ?_;refine ah ae ?_
    ·refine af ae ?_;obtain⟨H1,cK,hE⟩:=NH (lf:=lf) (n:=n) (H:=H) (l:=[32,9]) (by simp) om (by simpa using Mb) (by simp);refine ai ae cK ?_;have fP:=uS [32,9];have bV:(fh [32,9]).all SV.one=true:=Er _;have jK:List.drop 256 (List.replicate 256 (SV.bool false))=[]:=by simp
     refine af (An @fP (An @bV (An @jK @List.append_nil.{0}))) ?_
     refine ar ae ?_;refine af ae ?_;have LC:=YS (lf:=lf) (n:=n) (H:=(H1.push (cz.row (List.replicate 256 (SV.bool false)) 241 true false 0)).put H1.next (cz.row (fh [32,9]) 241 true false 0)) (bT _ _) hs hlen om aC;refine ai ae LC ?_;refine af ae ?_;refine aO ae ?_;exact(⟨rfl,(hE.push _).put hE.1 _⟩)
 obtain⟨v,H',h,rfl,hE⟩:=key;exact⟨H',h,hE⟩
end
theorem YQ {p:Nat->Bool} {s:List Nat} (h:eE s):eE (b9 p s):=fun x hx=>h x (by
 unfold b9 at hx;have h1:=List.mem_reverse.1 hx;exact List.mem_reverse.1 ((List.dropWhile_sublist p).subset h1))
theorem AM (p:Nat->Bool) (s:List Nat):(b9 p s).length<=s.length:=by
 unfold b9;rw[List.length_reverse];have:=(List.dropWhile_sublist p (l:=s.reverse)).length_le;rwa[List.length_reverse]at this
section
variable {lf n:Nat} {H:ag}
theorem yu {s:List Nat} (hs:eE s) (hlen:s.length<1000000) (hn:3<=n) (aC:s.length<lf) (Mb:2<lf):
 ∃H',aj ak lf n 87 [.str s,.str [32,9]] H=some (.str ((b9 isSp s).dropWhile isSp),H')/\Ext H H':=by
 obtain⟨n,rfl⟩:=aN (n:=n);have key:∃v H',aj ak lf (n+1) 87 [.str s,.str [32,9]] H=some (v,H')/\(v=.str ((b9 isSp s).dropWhile isSp)/\Ext H H'):=by
  refine cx I2.1 ?_;cases s with
  |nil=>
   refine af @Bm ?_;refine ar ae ?_;refine af ae ?_;refine aO ae ?_;exact(⟨rfl,Ext.refl _⟩)
  |cons x r=>
   refine af @yY ?_;refine ah ae ?_;refine af (An @J1 (An @J2 @J3)) ?_;refine ah ae ?_;refine af ae ?_;obtain⟨H1,cK,hE⟩:=NH (lf:=lf) (n:=n) (H:=H) (l:=[32,9]) (by simp) om (by simpa using Mb) (by simp);refine ai ae cK ?_;have fP:=uS [32,9];have bV:(fh [32,9]).all SV.one=true:=Er _;have jK:List.drop 256 (List.replicate 256 (SV.bool false))=[]:=by simp
   refine af (An @fP (An @bV (An @jK @List.append_nil.{0}))) ?_
   refine ar ae ?_;refine af ae ?_;have LC:=YS (lf:=lf) (n:=n) (H:=(H1.push (cz.row (List.replicate 256 (SV.bool false)) 241 true false 0)).put H1.next (cz.row (fh [32,9]) 241 true false 0)) (bT _ _) hs hlen om aC;refine ai ae LC ?_;have hle:=AM (fun c=>[32,9].contains c) (x::r);have aeb:=alH (lf:=lf) (n:=n) (H:=(H1.push (cz.row (List.replicate 256 (SV.bool false)) 241 true false 0)).put H1.next (cz.row (fh [32,9]) 241 true false 0)) (bT _ _) (YQ (p:=fun c=>[32,9].contains c) hs) om om om;refine ai ae aeb ?_;refine af ae ?_;refine aO ae ?_;exact(⟨rfl,(hE.push _).put hE.1 _⟩)
 obtain⟨v,H',h,rfl,hE⟩:=key;exact⟨H',h,hE⟩
theorem afM {s:List Nat} {c:Nat} (hc:c<256) (hn:2<=n):aj ak lf n 109 [.str s,.int .u8 (c:Int)] H=some (.int .i64 (pk s c 0),H):=by
 obtain⟨n,rfl⟩:∃m,n=m+2:=⟨n-2,by omega⟩;have hm:c%256=c:=Nat.mod_eq_of_lt hc;have k1:∃v H',aj ak lf (n+1) 181 [.str s,.int .u8 (c:Int)] H=some (v,H')/\(v=.int .i64 (pk s c 0)/\H'=H):=by
  refine cx Iw.1 ?_;refine af @hm ?_;refine aO ae ?_;exact(⟨rfl,rfl⟩)
 obtain⟨v,H',h1,rfl,rfl⟩:=k1;have key:∃v jB,aj ak lf (n+1+1) 109 [.str s,.int .u8 (c:Int)] H'=some (v,jB)/\(v=.int .i64 (pk s c 0)/\jB=H'):=by
  refine cx Ik.1 ?_;refine af ae ?_;refine ai ae h1 ?_;refine af ae ?_;refine aO ae ?_;exact(⟨rfl,rfl⟩)
 obtain⟨v,jB,h,rfl,rfl⟩:=key;exact h
end
def fm (line:List Nat):Nat×List Nat×Bool:=
 let l:=b9 isSp line
 let f:=l.length-(l.dropWhile isEq).length
 let b:=l.length-(b9 isEq l).length
 if f=0\/b=0\/f=l.length then(0,[],false)
 else
  let v:=min (min 6 f) b
  let name:=(b9 isSp ((l.drop v).take (l.length-v-v))).dropWhile isSp
  (v,name,decide (name≠[]))
theorem dropWhile_nil {p:Nat->Bool}:∀{l:List Nat},l.dropWhile p=[]->∀x∈l,p x=true
 |[],_,x,hx=>by simp at hx
 |y::l,h,x,hx=>by
  rw[List.dropWhile_cons]at h;split at h
  ·rcases List.mem_cons.1 hx with rfl|hx
   ·assumption
   ·exact dropWhile_nil h x hx
  ·cases h
theorem vR {ts:T} {H:ag} (r q o:hJ) (v w u:SV) (h:iI ts H r=some v) (h2:iI ts H q=some w) (h3:iI ts H o=some u):lQ [r,q,o] ts H=some (.aJ [v,w,u]):=by simp only[lQ,cj,h,h2,h3]
theorem YR {p:Nat->Bool} {l:List Nat} (h:l.dropWhile p≠[]):(l.length-(l.dropWhile p).length)+1<=(b9 p l).length:=by
 obtain⟨A,B,hl,hA,hB⟩:∃A B,l=A++B/\A.length=l.length-(l.dropWhile p).length/\B=l.dropWhile p:=by
  refine⟨l.takeWhile p,l.dropWhile p,(List.takeWhile_append_dropWhile ..).symm,?_,rfl⟩;have:=congrArg List.length (List.takeWhile_append_dropWhile (p:=p) (l:=l));rw[List.length_append]at this;omega
 rw[<-hA];have aP:B≠[]:=by rw[hB];exact h
 obtain⟨x,r,VC⟩:∃x r,B=x::r:=by
  cases B with
  |nil=>exact absurd rfl aP
  |cons x r=>exact⟨x,r,rfl⟩
 have hx:p x=false:=by
  have:=List.head_dropWhile_not p (l:=l) h;simp only[<-hB,VC,List.head_cons]at this;simpa using this
 unfold b9;rw[List.length_reverse,hl,List.reverse_append,List.dropWhile_append];have hd:B.reverse.dropWhile p≠[]:=by
  intro e;have gS:=dropWhile_nil e;have:=gS x (by rw[VC];simp);rw[hx]at this;cases this
 have gV:(B.reverse.dropWhile p).isEmpty=false:=by
  cases hq:B.reverse.dropWhile p with
  |nil=>exact absurd hq hd
  |cons a b=>rfl
 rw[gV];simp only[Bool.false_eq_true,if_false,List.length_append,List.length_reverse];have:(B.reverse.dropWhile p).length≠0:=by
  intro e;exact hd (List.eq_nil_of_length_eq_zero e)
 omega
section
variable {ts:T} {H:ag}
def Ad (isMax:Bool) (vs:List SV):Option SV:=match vs with
 |[]=>none
 |v::rest=>vE isMax v rest
theorem aiE (isMax:Bool) (xs:List X):evalOp (.vI isMax xs) ts H=fp (Ad isMax (fi ts xs)) H:=by
 simp only[evalOp,Ad];cases fi ts xs with
 |nil=>rfl
 |cons v rest=>rfl
theorem agV (a b c:Nat):Ad false [.int .i64 (a:Int),.int .i64 (b:Int),.int .i64 (c:Int)]=some (.int .i64 ((min (min a b) c:Nat):Int)):=by
 simp only[Ad,vE,if_true,Bool.false_eq_true,if_false];congr 2;have h1:(if(b:Int)<(a:Int)then(b:Int)else(a:Int))=((min a b:Nat):Int):=by
  split<;>omega
 rw[h1];split<;>omega
end
attribute [go_sem] aiE agV
section
variable {lf n:Nat} {H:ag}
theorem aek {line:List Nat} (hs:eE line) (hlen:line.length<100000) (hn:4<=n) (aC:line.length+2<lf):
 ∃H',aj ak lf n 185 [.str line] H=some (.aJ [.int .i64 ((fm line).1:Int),.str (fm line).2.1,.bool (fm line).2.2],H')/\Ext H H':=by
 obtain⟨n,rfl⟩:=aN (n:=n);have key:∃v H',aj ak lf (n+1) 185 [.str line] H=some (v,H')/\(v=.aJ [.int .i64 ((fm line).1:Int),.str (fm line).2.1,.bool (fm line).2.2]/\Ext H H'):=by
  refine cx PF.1 ?_;refine af ae ?_;obtain⟨H1,h1,aB⟩:=alM (lf:=lf) (n:=n) (H:=H) hs om om om om;refine ai ae h1 ?_;refine af ae ?_;have eI:eE (b9 isSp line):=YQ hs;have dE:=AM isSp line;have iF:fm line=(let l:=b9 isSp line
   let f:=l.length-(l.dropWhile isEq).length
   let b:=l.length-(b9 isEq l).length
   if f=0\/b=0\/f=l.length then(0,[],false)
   else
    let v:=min (min 6 f) b
    let name:=(b9 isSp ((l.drop v).take (l.length-v-v))).dropWhile isSp
    (v,name,decide (name≠[]))):=rfl
  generalize b9 isSp line=l at eI dE iF ⊢;have sE:(l.dropWhile isEq).length<=l.length:=(List.dropWhile_sublist _).length_le;have fU:=AM isEq l;have h2:=alJ (lf:=lf) (n:=n) (H:=H1) eI om om om;have h3:=alL (lf:=lf) (n:=n) (H:=H1) eI om om om;obtain⟨f,vi⟩:∃f,l.length-(l.dropWhile isEq).length=f:=⟨_,rfl⟩;obtain⟨b,hbd⟩:∃b,l.length-(b9 isEq l).length=b:=⟨_,rfl⟩;have hf:((l.length:Int)-((l.dropWhile isEq).length:Int))=(f:Int):=om;have hb:((l.length:Int)-((b9 isEq l).length:Int))=(b:Int):=om;simp only[vi,hbd]at iF;refine ai ae h2 ?_;refine af @hf ?_;refine ai ae h3 ?_;by_cases c1:f=0
  ·rw[if_pos (.inl c1)]at iF;rw[iF];have d1:decide ((f:Int)=((0:Nat):Int))=true:=dt;refine af (An @hf (An @hb @d1)) ?_;refine ar ae ?_;refine af ae ?_;refine gQ (vR _ _ _ _ _ _ (by exact aZ trivial) (by exact aZ trivial) (by exact aZ trivial)) ?_;exact⟨rfl,aB⟩
  ·have d1:decide ((f:Int)=((0:Nat):Int))=false:=df;by_cases c2:b=0
   ·rw[if_pos (.inr (.inl c2))]at iF;rw[iF];have d2:decide ((b:Int)=((0:Nat):Int))=true:=dt;refine af (An @hf (An @hb (An @d1 @d2))) ?_;refine ar ae ?_;refine af ae ?_;refine gQ (vR _ _ _ _ _ _ (by exact aZ trivial) (by exact aZ trivial) (by exact aZ trivial)) ?_;exact⟨rfl,aB⟩
   ·have d2:decide ((b:Int)=((0:Nat):Int))=false:=df;by_cases c3:f=l.length
    ·rw[if_pos (.inr (.inr c3))]at iF;rw[iF];have d3:decide ((f:Int)=(l.length:Int))=true:=dt;refine af (An @hf (An @hb (An @d1 (An @d2 @d3)))) ?_;refine ar ae ?_;refine af ae ?_;refine gQ (vR _ _ _ _ _ _ (by exact aZ trivial) (by exact aZ trivial) (by exact aZ trivial)) ?_;exact⟨rfl,aB⟩
    ·have d3:decide ((f:Int)=(l.length:Int))=false:=df;rw[if_neg (by simp only[c1,c2,c3,or_self,not_false_eq_true])]at iF;rw[iF];have zy:=YR (p:=isEq) (l:=l) (by
      intro e;rw[e]at vi;simp at vi;omega)
     rw[vi]at zy;obtain⟨v,hv⟩:∃v,min (min 6 f) b=v:=⟨_,rfl⟩;have Gg:v+v<=l.length:=om;have Vs:v<=6:=om;rw[hv];refine af (An @hf (An @hb (An @d1 (An @d2 @d3)))) ?_;refine ah ae ?_;have sL:((l.length:Int)-(v:Int))=((l.length-v:Nat):Int):=om;refine af (An @hf (An @hb (An @hv @sL))) ?_;have k8:eE ((l.drop v).take (l.length-v-v)):=fun x hx=>eI x (List.mem_of_mem_drop (List.mem_of_mem_take hx))
     have Uy:((l.drop v).take (l.length-v-v)).length<=l.length:=by simp;omega
     obtain⟨H2,h4,aF⟩:=yu (lf:=lf) (n:=n) (H:=H1) k8 om om om om;refine ai ae h4 ?_;refine af ae ?_;refine gQ (vR _ _ _ _ _ _ (by exact aZ trivial) (by exact aZ trivial) (by exact aZ trivial)) ?_;exact⟨rfl,aB.trans aF⟩
 obtain⟨v,H',h,rfl,hE⟩:=key;exact⟨H',h,hE⟩
end
end
section
structure cW where
 level:Nat
 title:List Nat
 aw:Nat
 body:Nat
 to:Nat
def dL (x:cW):List SV:=[iN x.level,.str x.title,iN x.aw,iN x.body,iN x.to]
theorem yi (L:List cW):dq 5 (L.map dL):=fun x hx=>by
 obtain⟨t,_,rfl⟩:=List.mem_map.1 hx;rfl
def brk (s:List Nat) (a:Nat):Nat:=a+((s.drop a).takeWhile (fun x=>decide (x≠10))).length
def hP (pl:List Bool) (a e:Nat):Bool:=((pl.drop a).take (e-a)).all id
def lp (s:List Nat) (a:Nat):List Nat:=(s.drop a).take (brk s a-a)
def py (s:List Nat) (pl:List Bool) (a:Nat):List cW:=
 if((fm (lp s a)).2.2&&hP pl a (brk s a))=true then[⟨(fm (lp s a)).1,(fm (lp s a)).2.1,a,min (brk s a+1) s.length,s.length⟩]else[]
def j0 (s:List Nat) (pl:List Bool):Nat->Nat->List cW
 |0,_=>[]
 |f+1,a=>if a<s.length then py s pl a++j0 s pl f (min (brk s a+1) s.length)else[]
def jA:List cW->List cW
 |[]=>[]
 |x::L=>{x with to:=match L.find? (fun y=>decide (y.level<=x.level))with|some y=>y.aw|none=>x.to}::jA L
def lR (s:List Nat):List cW:=jA (j0 s (fD s) (s.length+1) 0)
theorem VP:∀(l:List Nat) (i:Nat),pk l 10 i=if(l.takeWhile (fun x=>decide (x≠10))).length<l.length then((i+(l.takeWhile (fun x=>decide (x≠10))).length:Nat):Int)else -1
 |[],i=>rfl
 |x::l,i=>by
  by_cases hx:x=10
  ·subst hx;have h0:((10::l).takeWhile fun x=>decide (x≠10))=[]:=by rw[List.takeWhile_cons];rfl
   rw[h0,if_pos (by simp)];rfl
  ·have h0:((x::l).takeWhile fun x=>decide (x≠10))=x::l.takeWhile (fun x=>decide (x≠10)):=by rw[List.takeWhile_cons,if_pos (by simpa using hx)]
   rw[pk,beq_false hx,h0];dsimp only;rw[VP l (i+1),List.length_cons,List.length_cons];by_cases hc:(l.takeWhile fun x=>decide (x≠10)).length<l.length
   ·rw[if_pos hc,if_pos om];congr 1;omega
   ·rw[if_neg hc,if_neg om]
theorem Bb (s:List Nat) (a:Nat):a<=brk s a:=by unfold brk;omega
theorem JD {s:List Nat} {a:Nat} (h:a<=s.length):brk s a<=s.length:=by
 have:=(List.takeWhile_sublist (fun x=>decide (x≠10)) (l:=s.drop a)).length_le;rw[List.length_drop]at this;unfold brk;omega
theorem abg {s:List Nat} {a:Nat} (h:a<=s.length):pk (s.drop a) 10 0=if brk s a<s.length then((brk s a-a:Nat):Int)else -1:=by
 rw[VP,List.length_drop];unfold brk;by_cases hc:((s.drop a).takeWhile fun x=>decide (x≠10)).length<s.length-a
 ·rw[if_pos hc,if_pos om];congr 1;omega
 ·rw[if_neg hc,if_neg om]
theorem YX:∀(l:List Nat) (j x:Nat),l[j]? =some x->(j<(l.takeWhile (fun x=>decide (x≠10))).length->x≠10)/\(j=(l.takeWhile (fun x=>decide (x≠10))).length->x=10)
 |y::l,j,x,h=>by
  by_cases hy:y=10
  ·subst hy;have h0:((10::l).takeWhile fun x=>decide (x≠10))=[]:=by rw[List.takeWhile_cons];rfl
   rw[h0];refine⟨fun hj=>by simp at hj,fun hj=>?_⟩;simp at hj;subst hj;simpa using h.symm
  ·have h0:((y::l).takeWhile fun x=>decide (x≠10))=y::l.takeWhile (fun x=>decide (x≠10)):=by rw[List.takeWhile_cons,if_pos (by simpa using hy)]
   rw[h0,List.length_cons];cases j with
   |zero=>simp at h;subst h;exact⟨fun _=>hy,fun e=>by omega⟩
   |succ j=>
    have:=YX l j x (by simpa using h);exact⟨fun e=>this.1 om,fun e=>this.2 om⟩
theorem RH {s:List Nat} {a j x:Nat} (ha:a<=j) (h:s[j]? =some x):(j<brk s a->x≠10)/\(j=brk s a->x=10):=by
 have:=YX (s.drop a) (j-a) x (by rw[List.getElem?_drop,Nat.add_sub_cancel' ha];exact h);unfold brk;exact⟨fun e=>this.1 om,fun e=>this.2 om⟩
theorem TH (pl:List Bool) (a:Nat):hP pl a a=true:=by unfold hP;rw[Nat.sub_self];rfl
theorem TJ {pl:List Bool} {a i:Nat} {b:Bool} (h:a<=i) (hb:pl[i]? =some b):hP pl a (i+1)=(hP pl a i&&b):=by
 unfold hP;have:(pl.drop a)[i-a]? =some b:=by rw[List.getElem?_drop,Nat.add_sub_cancel' h];exact hb
 rw[show i+1-a=(i-a)+1 by omega,List.take_succ,this];simp
theorem Ud {s:List Nat} {pl:List Bool} {f a:Nat} (h:a<s.length) (hf:s.length<a+f):j0 s pl f a=py s pl a++j0 s pl (f-1) (min (brk s a+1) s.length):=by
 obtain⟨f,rfl⟩:∃g,f=g+1:=⟨f-1,by omega⟩;rw[j0,if_pos h];rfl
theorem zo (s:List Nat) (pl:List Bool) (f:Nat) {a:Nat} (h:s.length<=a):j0 s pl f a=[]:=by
 cases f with
 |zero=>rfl
 |succ f=>rw[j0,if_neg om]
theorem rP:∀L,(jA L).length=L.length
 |[]=>rfl
 |x::L=>by simp[jA,rP L]
def toF (R:List cW) (i:Nat) (x:cW):cW:={x with to:=match(R.drop (i+1)).find? (fun y=>decide (y.level<=x.level))with|some y=>y.aw|none=>x.to}
theorem X0:∀(L:List cW) (i:Nat) (x:cW),L[i]? =some x->(jA L)[i]? =some (toF L i x)
 |y::L,0,x,h=>by
  simp at h;subst h;simp[jA,toF]
 |y::L,i+1,x,h=>by
  have:=X0 L i x (by simpa using h);simpa[jA,toF]using this
theorem acT {z i j:Nat} {L:List (List SV)} {x:List SV} {c:SV} (h:dq z L) (hi:L[i]? =some x) (hj:x[j]? =some c) (hjz:j<z):L.flatten[i*z+j]? =some c:=by
 have h1:=EU h hi;have h2:((L.flatten.drop (i*z)).take z)[j]? =some c:=by rw[h1];exact hj
 rw[List.getElem?_take,if_pos hjz,List.getElem?_drop]at h2;exact h2
theorem S3 {z j:Nat} {v:SV}:∀{L:List (List SV)} {i:Nat} {x:List SV},dq z L->L[i]? =some x->j<z->L.flatten.take (i*z+j)++([v]++L.flatten.drop (i*z+j+1))=(L.set i (x.set j v)).flatten
 |y::L,0,x,h,hi,hj=>by
  simp at hi;subst hi;have hy:=h y (List.mem_cons_self ..);rw[Nat.zero_mul,Nat.zero_add,List.flatten_cons,List.set_cons_zero,List.flatten_cons,List.take_append_of_le_length om,List.drop_append_of_le_length om];rw[List.set_eq_take_append_cons_drop,if_pos om];simp
 |y::L,i+1,x,h,hi,hj=>by
  have hy:=h y (List.mem_cons_self ..);have ih:=S3 (v:=v) (L:=L) (i:=i) (x:=x) (fun w hw=>h w (List.mem_cons_of_mem _ hw)) (by simpa using hi) hj;rw[List.flatten_cons,List.set_cons_succ,List.flatten_cons,<-ih];have e1:(i+1)*z+j=y.length+(i*z+j):=by rw[Nat.add_mul,Nat.one_mul,hy];omega
  rw[e1,Nat.add_assoc,List.take_append,List.drop_append,List.take_of_length_le om,List.drop_of_length_le om,Nat.add_sub_cancel_left,List.nil_append,show y.length+(i*z+j+1)-y.length=i*z+j+1 by omega];simp
theorem Rs {B0:Nat} {H0 H':ag} {w:SV} {L:List cW} (t:cW) (bE:Sl B0 184 5 H' w (L.map dL)) (hE:Ext H0 H') (hB:B0<=H'.next) (hB0:H0.next<=B0) (hlen:L.length<10000):
 ∃w1 H1,fu (H'.push (.row (dL t) 184 true false 0)) false 184 5 48 w (.slice H'.next 0 1 (some 1) 5)=some (w1,H1)/\Sl B0 184 5 H1 w1 ((L++[t]).map dL)/\Ext H0 H1:=by
 have aB:Ext H' (H'.push (.row (dL t) 184 true false 0)):=(Ext.refl _).push _;obtain⟨w1,H1,h1,h2,h3,h4⟩:=Rr (H:=H'.push (.row (dL t) 184 true false 0)) (B0:=B0) (x:=dL t) (b':=H'.next) (bytes:=48) (c:=some 1) (bE.ax aB) (yi L) rfl rfl (bd _) (by rw[dZ];omega) (by rw[List.length_map];omega) (by rw[List.length_map];omega);rw[dZ]at h3;refine⟨w1,H1,h1,by rw[List.map_append];exact h2,⟨?_,fun b hb=>?_⟩⟩
 ·have:=hE.1;omega
 ·rw[h4 b om,cU (Nat.lt_of_lt_of_le hb hE.1)];exact hE.2 b hb
def gM (R:List cW) (i:Nat):List cW:=(jA R).take i++R.drop i
theorem Dp (R:List cW) (i:Nat):(gM R i).length=R.length:=by
 simp[gM,rP];omega
theorem Dn {R:List cW} {i j:Nat} (h:i<=j) (hj:j<R.length):(gM R i)[j]? =R[j]? :=by
 rw[gM,List.getElem?_append_right (by simp[rP];omega)];simp[rP,List.getElem?_drop];congr 1;omega
theorem OP {R:List cW} {i:Nat} {x:cW} (h:R[i]? =some x):gM R (i+1)=(gM R i).set i (toF R i x):=by
 have hi:i<R.length:=(List.getElem?_eq_some_iff.1 h).1;have h1:=X0 R i x h;have FG:i<(jA R).length:=by rw[rP];exact hi
 have h2:(jA R)[i]=toF R i x:=by
  rw[List.getElem?_eq_getElem FG]at h1;exact Option.some.inj h1
 have hl:((jA R).take i).length=i:=by rw[List.length_take];omega
 rw[gM,gM,List.take_succ_eq_append_getElem FG,h2,List.drop_eq_getElem_cons hi,List.set_append_right _ _ om,hl,Nat.sub_self,List.set_cons_zero,List.append_assoc];rfl
theorem Yp (R:List cW):gM R 0=R:=by simp[gM]
theorem Yo (R:List cW):gM R R.length=jA R:=by
 rw[gM,List.drop_length,List.append_nil,List.take_of_length_le (by rw[rP];exact Nat.le_refl _)]
theorem Au {L:List cW} {i:Nat} {x:cW} (hi:L[i]? =some x) (j:Nat) {c:SV} (hj:(dL x)[j]? =some c) (q9:j<5):(L.map dL).flatten[i*5+j]? =some c:=
 acT (yi L) (by rw[List.getElem?_map,hi];rfl) hj q9
theorem XZ {L:List cW} {i:Nat} {x:cW} (hi:L[i]? =some x) (v:Nat):(L.map dL).flatten.take (i*5+4)++([.int .i64 (v:Int)]++(L.map dL).flatten.drop (i*5+4+1))=((L.set i {x with to:=v}).map dL).flatten:=by
 rw[S3 (yi L) (x:=dL x) (by rw[List.getElem?_map,hi];rfl) om,List.map_set];rfl
theorem XY (L:List cW):(L.map dL).flatten.length=L.length*5:=by rw[l9 (yi _),List.length_map]
theorem SZ {R:List cW} {j:Nat} {y:cW} (h:R[j]? =some y) (p:cW->Bool):(R.drop j).find? p=if p y then some y else(R.drop (j+1)).find? p:=by
 have hj:j<R.length:=(List.getElem?_eq_some_iff.1 h).1;rw[List.drop_eq_getElem_cons hj,show R[j]=y from by rw[List.getElem?_eq_getElem hj]at h;exact Option.some.inj h,List.find?_cons];cases p y<;>rfl
@[reducible] def Zs (s:List Nat) (tv:SV) (H1:ag) (R:List cW) (m:Nat) (ts:T) (D:DS) (H':ag):Prop:=
  D=[]/\Ext H1 H'/\∃(a f:Nat) (w:SV) (L:List cW),m=s.length-a/\a<=s.length/\s.length<a+f/\L++j0 s (fD s) f a=R/\L.length<=a/\Sl H1.next 184 5 H' w (L.map dL)/\∃z:Nat->SV,ts=((.str s)::zz z 1 3 ((tv)::z 5::(w)::(.int .i64 (a:Int))::zz z 8 111 []):T)/\(True)
@[reducible] def Z4 (s:List Nat) (tv w:SV) (a e nx:Nat) (H1:ag) (m:Nat) (ts:T) (D:DS) (H':ag):Prop:=
  D=[]/\H'=H1/\∃i:Nat,m=e-i/\a<=i/\i<=e/\∃z:Nat->SV,ts=((.str s)::zz z 1 3 ((tv)::z 5::(w)::(.int .i64 (a:Int))::(.int .i64 (e:Int))::(.int .i64 (nx:Int))::z 10::(.bool (hP (fD s) a i))::(.int .i64 (i:Int))::zz z 13 106 []):T)/\(True)
@[reducible] def aad (R:List cW) (b:Nat) (H1:ag) (m:Nat) (ts:T) (D:DS) (H':ag):Prop:=
  D=[]/\Ext H1 H'/\b<H'.next/\∃i:Nat,m=R.length-i/\i<=R.length/\H'.get b=some (.row ((gM R i).map dL).flatten 184 false false 0)/\
   ∃z:Nat->SV,ts=(zz z 0 6 ((.slice b 0 R.length none 5)::zz z 7 78 ((.int .i64 (R.length:Int))::(.int .i64 (i:Int))::zz z 87 32 [])):T)/\(True)
@[reducible] def aaf (R:List cW) (b i:Nat) (x:cW) (H3:ag) (m:Nat) (ts:T) (D:DS) (H':ag):Prop:=
  D=[]/\H'=H3/\∃j:Nat,m=R.length-j/\i+1<=j/\j<=R.length/\(R.drop (i+1)).find? (fun y=>decide (y.level<=x.level))=(R.drop j).find? (fun y=>decide (y.level<=x.level))/\
   ∃z:Nat->SV,ts=(zz z 0 6 ((.slice b 0 R.length none 5)::zz z 7 9 ((.int .i64 (i:Int))::(.int .i64 (j:Int))::zz z 18 67 ((.int .i64 (R.length:Int))::(.int .i64 (i:Int))::zz z 87 32 []))):T)/\(True)
section
variable {lf n:Nat} {H:ag}
theorem X3 {s:List Nat} (hs:eE s) (hlen:s.length<=8192) (hn:3*s.length+15<=n) (aC:600000<lf):
 ∃(w:SV) (H':ag),aj ak lf n 114 [.str s] H=some (.aJ [w,iN 0],H')/\Ext H H'/\Sl H.next 184 5 H' w ((lR s).map dL):=by
 obtain⟨n,rfl⟩:=aN (n:=n);obtain⟨R,hR⟩:∃R,j0 s (fD s) (s.length+1) 0=R:=⟨_,rfl⟩;have rl:lR s=jA R:=by rw[<-hR];rfl
 rw[rl];have key:∃v H',aj ak lf (n+1) 114 [.str s] H=some (v,H')/\∃w,v=.aJ [w,iN 0]/\Ext H H'/\Sl H.next 184 5 H' w ((jA R).map dL):=by
  refine cx Pp.1 ?_;refine af ae ?_;obtain⟨tv,H1,fG,hE,hT⟩:=ai4 (lf:=lf) (n:=n) (H:=H) hs hlen om aC;have U2:=N4 s;refine ai ae fG ?_;have d0:decide (((0:Nat):Int)≠((0:Nat):Int))=false:=by decide
  refine af @d0 ?_;refine ah ae ?_;refine af ae ?_;refine bH (I:=Zs s tv H1 R) ?_ s.length ?_ om
  ·rintro m ts D H' ⟨rfl,aB,a,f,w,L,rfl,ha,hf,pU,hLa,bE,⟨z,rfl, -⟩⟩;obtain⟨tb,Vn,htb,afz⟩:=hT.ax aB;rw[U2]at Vn;subst Vn;by_cases fP:a<s.length
   ·have d1:decide (((a:Nat):Int)<((s.length:Nat):Int))=true:=dt;have BV:=Bb s a;have eI:=JD ha;have aD:=Ud (pl:=fD s) fP hf;have dp:=afM (lf:=lf) (n:=n) (H:=H') (s:=s.drop a) (c:=10) om om;rw[abg ha]at dp;have pd:lp s a=(s.drop a).take (brk s a-a):=rfl;have kg:py s (fD s) a=if((fm (lp s a)).2.2&&hP (fD s) a (brk s a))=true then[⟨(fm (lp s a)).1,(fm (lp s a)).2.1,a,min (brk s a+1) s.length,s.length⟩]else[]:=rfl
    have Fu:eE (lp s a):=fun x hx=>hs x (List.mem_of_mem_drop (List.mem_of_mem_take hx))
    have Mf:(lp s a).length<=s.length:=by rw[pd,List.length_take,List.length_drop];omega
    have fT:(s.drop a).take (s.length-a)=s.drop a:=List.take_of_length_le (by simp);generalize lp s a=l at pd kg Fu Mf;obtain⟨k,hk⟩:∃k,brk s a=a+k:=⟨brk s a-a,by omega⟩;obtain⟨nx,jw⟩:∃nx,min (a+k+1) s.length=nx:=⟨_,rfl⟩;rw[hk]at eI dp pd kg aD;rw[jw]at kg aD;rw[Nat.add_sub_cancel_left]at dp pd;refine af @d1 ?_;refine ar d1 ?_;refine s8 ?_;refine ly ?_;refine A1 ?_;refine wg ?_;refine wg ?_;refine mN ?_;refine nJ (fun ts jB=>jB=H'/\∃z:Nat->SV,ts=((.str s)::zz z 1 3 ((.slice tb 0 s.length (some s.length) 1)::z 5::(w)::(.int .i64 (a:Int))::(.int .i64 ((a+k:Nat):Int))::(.int .i64 (nx:Int))::zz z 10 109 []):T)/\(True)) ?_ (fun aA H7 gR=>?_)
    ·by_cases jv:a+k<s.length
     ·rw[if_pos jv]at dp;have Mt:nx=a+k+1:=om;subst Mt;have J4:decide (((k:Nat):Int)>=((0:Nat):Int))=true:=dt;refine af @fT ?_;refine ai ae dp ?_;refine af @J4 ?_;refine ar ae ?_;refine af ae ?_;exact⟨rfl,rfl,rfl,aw⟩
     ·rw[if_neg jv]at dp;have xq:a+k=s.length:=om;have Mt:nx=s.length:=om;subst Mt;have J4:decide ((-1:Int)>=((0:Nat):Int))=false:=by decide
      refine af @fT ?_;refine ai ae dp ?_;refine af @J4 ?_;refine ah ae ?_;refine af ae ?_;rw[xq];exact⟨rfl,rfl,rfl,aw⟩
    ·obtain⟨rfl,⟨z,rfl, -⟩⟩:=gR;refine af ae ?_;refine bH (I:=Z4 s (.slice tb 0 s.length (some s.length) 1) w a (a+k) nx H7) ?_ ((a+k)-a) ?_ om
     ·rintro m ts D H3 ⟨rfl,rfl,i,rfl,BO,hi,⟨z,rfl, -⟩⟩;by_cases gV:i<a+k
      ·have d2:decide (((i:Nat):Int)<((a+k:Nat):Int))=true:=dt;obtain⟨b,hb⟩:∃b,(fD s)[i]? =some b:=⟨_,List.getElem?_eq_getElem om⟩;have bu:aq (some (.row ((fD s).map SV.bool) 4 true false 0)) i 1=some [.bool b]:=nE (by rw[List.getElem?_map,hb];rfl);have nw:=TJ BO hb;cases nZ:hP (fD s) a i with
       |true=>
        rw[nZ,Bool.true_and]at nw;refine af @d2 ?_;refine ar ae ?_;refine af (An @afz @bu) ?_;refine aT ((a+k)-(i+1)) om ⟨rfl,rfl,i+1,by omega,by omega,by omega,?_⟩;rw[nw];exact aw
       |false=>
        rw[nZ,Bool.false_and]at nw;refine af @d2 ?_;refine ar ae ?_;refine af ae ?_;refine aT ((a+k)-(i+1)) om ⟨rfl,rfl,i+1,by omega,by omega,by omega,?_⟩;rw[nw];exact aw
      ·have aez:i=a+k:=om;subst aez;have d2:decide (((a+k:Nat):Int)<((a+k:Nat):Int))=false:=by simp
       have zx:=pd.symm;obtain⟨H4,hh,bz⟩:=aek (lf:=lf) (n:=n) (H:=H3) Fu om om om;refine af @d2 ?_;refine ah ae ?_;refine af (An @Nat.add_sub_cancel_left @zx) ?_;refine ai ae hh ?_;by_cases cZ:((fm l).2.2&&hP (fD s) a (a+k))=true
       ·rw[if_pos cZ]at kg;obtain⟨ae3,ae4⟩:=Bool.and_eq_true_iff.1 cZ;rw[ae3,ae4];have bm:=aB.trans bz;obtain⟨w1,H5,ju,zN,cL⟩:=Rs (H':=H4) (B0:=H1.next) ⟨(fm l).1,(fm l).2.1,a,nx,s.length⟩ (bE.ax bz) bm bm.1 (Nat.le_refl _) om;simp only[dL]at ju;refine af ae ?_;refine ar ae ?_;refine af @ju ?_;refine aT (s.length-nx) om ⟨rfl,cL,nx,f-1,w1,L++[⟨(fm l).1,(fm l).2.1,a,nx,s.length⟩],rfl,by omega,by omega,?_,by simp;omega,zN,aw⟩;rw[<-pU,aD,kg,List.append_assoc]
       ·rw[if_neg cZ]at kg;rw[kg,List.nil_append]at aD;rw[aD]at pU;cases h0:(fm l).2.2 with
        |false=>
         refine af ae ?_;refine ah ae ?_;refine af ae ?_;refine aT (s.length-nx) om ⟨rfl,aB.trans bz,nx,f-1,w,L,rfl,by omega,by omega,pU,by omega,bE.ax bz,aw⟩
        |true=>
         rw[h0,Bool.true_and]at cZ;have h1:hP (fD s) a (a+k)=false:=by simpa using cZ
         rw[h1];refine af ae ?_;refine ah ae ?_;refine af ae ?_;refine aT (s.length-nx) om ⟨rfl,aB.trans bz,nx,f-1,w,L,rfl,by omega,by omega,pU,by omega,bE.ax bz,aw⟩
     ·refine⟨rfl,rfl,a,rfl,Nat.le_refl _,by omega,?_⟩;rw[TH];exact aw
   ·have Lu:a=s.length:=om;subst Lu;rw[zo _ _ _ (Nat.le_refl _),List.append_nil]at pU;subst pU;have d1:decide (((s.length:Nat):Int)<((s.length:Nat):Int))=false:=by simp
    have qS:L.length<=8192:=om;clear hR rl;refine af @d1 ?_;refine ah ae ?_;rcases bE with⟨he,rfl⟩|⟨aP,b,dn,eo,rfl,k8⟩
    ·have Ln:L=[]:=List.map_eq_nil_iff.1 he;subst Ln;refine af ae ?_;refine QH om ?_;have d2:decide (((0:Nat):Int)<(0:Int))=false:=by decide
     have d3:decide (((0:Nat):Int)<((0:Nat):Int))=false:=by decide
     refine af @d2 ?_;refine ah ae ?_;refine af ae ?_;refine cD ae ?_;exact(⟨_,rfl,hE.trans aB,.inl ⟨rfl,rfl⟩⟩)
    ·rw[List.length_map];refine af ae ?_;refine bH (I:=aad L b H1) ?_ L.length ?_ om
     ·rintro m ts D H' ⟨rfl,aF,hb,i,rfl,hi,bj,⟨z,rfl, -⟩⟩;by_cases bw:i<L.length
      ·have d2:decide (((i:Nat):Int)<((L.length:Nat):Int))=true:=dt;obtain⟨x,hx⟩:∃x,L[i]? =some x:=⟨_,List.getElem?_eq_getElem bw⟩;refine af @d2 ?_;refine ar ae ?_;refine af ae ?_;refine bH (I:=aaf L b i x H') ?_ (L.length-(i+1)) ?_ om
       ·rintro m ts D H3 ⟨rfl,rfl,j,rfl,qZ,hj,xr,⟨z,rfl, -⟩⟩;by_cases kI:j<L.length
        ·have d3:decide (((j:Nat):Int)<((L.length:Nat):Int))=true:=dt;obtain⟨y,hy⟩:∃y,L[j]? =some y:=⟨_,List.getElem?_eq_getElem kI⟩;have uo:=(Dn (Nat.le_refl i) bw).trans hx;have Cy:=(Dn (show i<=j by omega) kI).trans hy;have mE:=XZ uo y.aw;have hlen:=(XY (gM L i)).trans (by rw[Dp]);have c1:=Au Cy 0 (c:=.int .i64 (y.level:Int)) rfl om;have c2:=Au uo 0 (c:=.int .i64 (x.level:Int)) rfl om;have c3:=Au Cy 2 (c:=.int .i64 (y.aw:Int)) rfl om;obtain⟨cs,hcs⟩:∃cs,((gM L i).map dL).flatten=cs:=⟨_,rfl⟩;rw[hcs]at bj mE hlen c1 c2 c3;have r1:=nE (e:=184) (ex:=false) (ro:=false) (frz:=0) c1;have r2:=nE (e:=184) (ex:=false) (ro:=false) (frz:=0) c2;have r3:=nE (e:=184) (ex:=false) (ro:=false) (frz:=0) c3;rw[Nat.add_zero]at r1 r2;rw[SZ hy]at xr;refine af @d3 ?_;refine ar ae ?_;refine af (An @bj (An @r1 @r2)) ?_;by_cases hle:y.level<=x.level
         ·have d4:decide (((y.level:Nat):Int)<=((x.level:Nat):Int))=true:=dt;rw[if_pos (by simpa using hle)]at xr;refine ar @d4 ?_;refine af (An @bj @r3) ?_;refine aT (L.length-(i+1)) om ⟨rfl,aF.put dn _,hb,i+1,rfl,by omega,(by rw[bT,OP hx,toF,xr,<-mE];rfl),aw⟩
         ·have d4:decide (((y.level:Nat):Int)<=((x.level:Nat):Int))=false:=df;rw[if_neg (by simpa using hle)]at xr;refine ah @d4 ?_;refine af ae ?_;refine aT (L.length-(j+1)) om ⟨rfl,rfl,j+1,rfl,by omega,by omega,xr,aw⟩
        ·have L7:j=L.length:=om;subst L7;have d3:decide (((L.length:Nat):Int)<((L.length:Nat):Int))=false:=by simp
         rw[List.drop_length]at xr;have cX:gM L (i+1)=gM L i:=by
          rw[OP hx,toF,xr];refine List.ext_getElem? fun k=>?_
          rw[List.getElem?_set];split
          ·rename_i e;subst e;rw[if_pos (by rw[Dp];exact bw),Dn (Nat.le_refl i) bw,hx];rfl
          ·rfl
         refine af @d3 ?_;refine ah ae ?_;refine af ae ?_;refine aT (L.length-(i+1)) om ⟨rfl,aF,hb,i+1,rfl,by omega,by rw[cX];exact bj,aw⟩
       ·exact⟨rfl,rfl,i+1,rfl,by omega,by omega,rfl,aw⟩
      ·have gV:i=L.length:=om;subst gV;have d2:decide (((L.length:Nat):Int)<((L.length:Nat):Int))=false:=by simp
       rw[Yo]at bj;have e1:(jA L).map dL≠[]:=by
        intro e;apply aP;rw[List.map_eq_nil_iff]at e ⊢;have:=rP L;rw[e]at this;exact List.eq_nil_of_length_eq_zero this.symm
       have e2:SV.slice b 0 L.length none 5=SV.slice b 0 ((jA L).map dL).length none 5:=by rw[List.length_map,rP]
       refine af @d2 ?_;refine ah ae ?_;refine af ae ?_;refine cD ae ?_;exact(⟨_,rfl,hE.trans aF,.inr ⟨e1,b,Nat.le_trans hE.1 dn,hb,e2,bj⟩⟩)
     ·exact⟨rfl,aB,eo,0,by omega,by omega,by rw[Yp];exact k8,aw⟩
  ·exact⟨rfl,Ext.refl _,0,s.length+1,.ao,[],by omega,by omega,by omega,hR,Nat.zero_le _,.inl ⟨rfl,rfl⟩,aw⟩
 obtain⟨v,H',h,w,rfl,hE,bE⟩:=key;exact⟨w,H',h,hE,bE⟩
end
end
end Go.Sh
