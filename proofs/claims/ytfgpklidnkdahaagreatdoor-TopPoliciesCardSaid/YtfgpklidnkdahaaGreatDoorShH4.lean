/-
  The reference parser, second part. No conditions beyond those that stand in the theorems.
-/
import Derived.Test.YtfgpklidnkdahaaGreatDoorShE4
set_option linter.all false
set_option maxHeartbeats 20000000
set_option maxRecDepth 10000
namespace Go.Sh
section
attribute [local irreducible] HD fC evalOp
theorem RB.at_ {B:Nat} {H:ag} {v:SV} {z:Nat} {L:List (List SV)} (h:RB B H v z L) {i:Nat} {x:List SV} (hi:L[i]? =some x):
 ∃b o,kN z v (.int .i64 (i:Int))=some (.ptr b o)/\B<=b/\b<H.next/\aq (H.get b) o z=some x:=by
 have hlt:=(List.getElem?_eq_some_iff.1 hi).1;rcases h.2 with⟨rfl,rfl⟩|⟨b,c,e,ex,ro,frz,rfl,_,hB,h2,h3⟩
 ·simp at hlt
 ·refine⟨b,0+((i:Int).toNat)*z,qh om om,hB,h2,?_⟩;rw[h3,Nat.zero_add,show((i:Int)).toNat=i from rfl];exact Oq h.1 hi
theorem akJ {K:List AN} {i:Nat} {a:AN} (h:K[i]? =some a):(aL (K.take i)).length+a.s.length<=(aL K).length/\K.take (i+1)=K.take i++[a]:=by
 have fT:K.take (i+1)=K.take i++[a]:=by rw[List.take_succ,h];rfl
 refine⟨?_,fT⟩;have e1:K=K.take i++([a]++K.drop (i+1)):=by
  conv=>lhs;rw[<-List.take_append_drop (i+1) K,fT,List.append_assoc]
 conv=>rhs;rw[e1]
 simp only[AD,uE,List.length_append];omega
theorem PK.lt {pb:Nat} {H:ag} {st:List AE} (h:PK pb H st):pb<H.next:=h.choose_spec.2.2
section
variable {lf n:Nat} {H:ag}
theorem nF {pb:Nat} {st:List AE} {s:List Nat} (hS:bC st) (h:PK pb H st) (hb:(aU st).length+s.length<=90000) (hl:st.length<10000) (hn:3<=n):
 ∃H',aj ak lf n 332 [.ptr pb 0,.str s] H=some (.aJ [],H')/\PK pb H' (bI s st)/\cf pb H H':=by
 obtain⟨n,rfl⟩:=aN (n:=n);obtain⟨H1,hj,hP,hx⟩:=ye (lf:=lf) (n:=n) (c:=[iN 1,iN 0,.str s,.ao,.ao]) (nd:=⟨true,s⟩) hS.ne h (.inr ⟨s,rfl,rfl⟩) hb hl om;have key:∃w H',aj ak lf (n+1) 332 [.ptr pb 0,.str s] H=some (w,H')/\w=.aJ []/\H'=H1:=by
  refine cx P9.1 ?_;refine af ae ?_;refine ai ae hj ?_;refine af ae ?_;refine cF bQ ?_;exact(⟨rfl,rfl⟩)
 obtain⟨w,H',h,rfl,rfl⟩:=key;exact⟨_,h,hP,hx⟩
theorem Dc {pb:Nat} {st:List AE} {lv:SV} {K:List AN} (hS:bC st) (h:PK pb H st) (hN:NK pb H lv K) (hb:(aU st).length+(aL K).length<=90000) (hl:st.length<10000) (hn:3<=n) (aC:600000<lf):
 ∃H',aj ak lf n 335 [.ptr pb 0,lv] H=some (.aJ [],H')/\PK pb H' (dj K st)/\cf pb H H':=by
 obtain⟨n,rfl⟩:=aN (n:=n);have zg:K.length<=(aL K).length:=by obtain⟨_,_,q⟩:=hN;exact WB q
 have key:∃w H',aj ak lf (n+1) 335 [.ptr pb 0,lv] H=some (w,H')/\w=.aJ []/\PK pb H' (dj K st)/\cf pb H H':=by
  refine cx Qe.1 ?_;refine af ae ?_;refine bH (I:=fun m ts D H'=>D=[]/\∃i:Nat,m=K.length-i/\i<=K.length/\PK pb H' (dj (K.take i) st)/\cf pb H H'/\∃z:Nat->SV,ts=((.ptr pb 0)::(lv)::z 2::z 3::(.int .i64 (i:Int))::zz z 5 12 []:T)/\(True)) ?_ K.length ?_ om
  ·rintro m ts D H' ⟨rfl,i,rfl,hi,hP,hx,⟨z,rfl, -⟩⟩;obtain⟨C,k1,k2⟩:=hN.ax hx;have dE:=k1.aQ.cA;rw[k2.len]at dE;by_cases bw:i<K.length
   ·have d1:decide (((i:Nat):Int)<((K.length:Nat):Int))=true:=dt;obtain⟨c,hc⟩:∃c,C[i]? =some c:=⟨_,List.getElem?_eq_getElem (by rw[k2.len];exact bw)⟩;obtain⟨a,ha⟩:∃a,K[i]? =some a:=⟨_,List.getElem?_eq_getElem bw⟩;have kD:=k2.get hc ha;obtain⟨b,o,j1,_,j2,_⟩:=k1.aQ.at_ hc;obtain⟨g1,g2⟩:=akJ ha;obtain⟨f1,f2,f3⟩:=mP (l:=K.take i) hS;obtain⟨H2,hj,bK,pj⟩:=ye (lf:=lf) (n:=n) f1.ne hP (.inl kD) (by rw[f3,List.length_append];omega) om om;refine af (An @dE @d1) ?_;refine ar ae ?_;refine af (An @j1 @j2) ?_;refine ai ae hj ?_;refine af ae ?_;refine aT (K.length-(i+1)) om ⟨rfl,i+1,rfl,by omega,?_,hx.trans pj,aw⟩;rw[g2,dj,List.foldl_append];exact bK
   ·obtain rfl:i=K.length:=om;have d1:decide (((K.length:Nat):Int)<((K.length:Nat):Int))=false:=by simp
    rw[List.take_length]at hP;refine af (An @dE @d1) ?_;refine ah ae ?_;refine af ae ?_;refine cF bQ ?_;exact(⟨rfl,hP,hx⟩)
  ·exact⟨rfl,0,rfl,Nat.zero_le _,h,cf.refl _ _,aw⟩
 obtain⟨w,H',h,rfl,h1,h2⟩:=key;exact⟨_,h,h1,h2⟩
end
end
section
attribute [local irreducible] HD fC evalOp
section
variable {lf n:Nat} {H:ag}
theorem ajt {pb:Nat} {e:AE} {r:List AE} (h:PK pb H (e::r)) (hS:bC (e::r)) (hr:r≠[]) (hb:(aU (e::r)).length<=90000) (hl:r.length<9000) (hn:5<=n) (aC:600000<lf):
 ∃H',aj ak lf n 338 [.ptr pb 0] H=some (.aJ [],H')/\PK pb H' (kz (e::r))/\cf pb H H':=by
 obtain⟨n,rfl⟩:=aN (n:=n);have cZ:=hS.head hr;have qT:=hS.tail hr;obtain⟨c,H1,aV,gJ,ga,hx1⟩:=G6 (lf:=lf) (n:=n) h om om;have bV:=gJ.one;obtain⟨tg,lv,av,rfl,jR,jg,jY⟩:=id gJ;obtain⟨H2,fI,cG,dc,bB⟩:=iw (H:=H1) (zs:=[iN 0,iN 0,iN 0,.ao,.ao]) (ty:=341) (z:=5) rfl (cs:=[iN e.kind,iN tg,iN e.count,lv,av]) rfl bV;have hp:=ga.lt;have pj:=hx1.trans cG.cq;have gq:∀{G:ag},cf pb H2 G->G.get H1.next=some (.row [iN e.kind,iN tg,iN e.count,lv,av] 341 true false 0):=fun hx=>(hx.2 _ om om).trans bB
 have r0:aq (H2.get H1.next) 0 1=some [iN e.kind]:=by rw[bB];rfl
 have r1:aq (H2.get H1.next) 1 1=some [iN tg]:=by rw[bB];rfl
 have r2:aq (H2.get H1.next) 2 1=some [iN e.count]:=by rw[bB];rfl
 have q3:∀{G:ag},cf pb H2 G->aq (G.get H1.next) 3 1=some [lv]:=fun hx=>by rw[gq hx];rfl
 have q4:∀{G:ag},cf pb H2 G->aq (G.get H1.next) 4 1=some [av]:=fun hx=>by rw[gq hx];rfl
 simp only[aU,List.length_append]at hb;have bK:=ga.ext cG;obtain⟨f1,f2,f3⟩:=gO (mark e) qT;have OY:∀{G:ag} (m:List Nat),m=mark e->PK pb G r->∃H',aj ak lf n 332 [.ptr pb 0,.str m] G=some (.aJ [],H')/\PK pb H' (bI (mark e) r)/\cf pb G H':=fun m hm hP=>by
  subst hm;exact nF qT hP om om om
 have NU:∀{G:ag},PK pb G (bI (mark e) r)->cf pb H2 G->∃H',aj ak lf n 335 [.ptr pb 0,lv] G=some (.aJ [],H')/\PK pb H' (dj e.list (bI (mark e) r))/\cf pb G H':=fun hP hx=>
  Dc f1 hP ((jg.ax cG.cq).ax hx) (by rw[f3,List.length_append];omega) om om aC
 rcases cZ.2 with hk|⟨hk,ht⟩|⟨hk,hc⟩
 ·have ha:e.args=[]:=cZ.1 om;have d1:decide (((e.kind:Nat):Int)=((1:Nat):Int))=true:=by rw[hk];rfl
  obtain⟨H3,jN,ct,gi⟩:=OY [91,91] (by simp[mark,hk]) bK;obtain⟨H4,kH,fb,rB⟩:=NU ct gi;have r3:=q3 gi;have key:∃w H',aj ak lf (n+1) 338 [.ptr pb 0] H=some (w,H')/\w=.aJ []/\H'=H4:=by
   refine cx DT.1 ?_;refine af ae ?_;refine ai ae aV ?_;refine af (An @fI (An @r0 @d1)) ?_;refine ar ae ?_;refine af ae ?_;refine ai ae jN ?_;refine af @r3 ?_;refine ai ae kH ?_;refine af ae ?_;refine cF bQ ?_;exact(⟨rfl,rfl⟩)
  obtain⟨w,H',h,rfl,rfl⟩:=key;exact⟨_,h,by rw[kz,ha];exact fb,pj.trans (gi.trans rB)⟩
 ·have ha:e.args=[]:=cZ.1 om;have d1:decide (((e.kind:Nat):Int)=((1:Nat):Int))=false:=by rw[hk];rfl
  have d2:decide (((e.kind:Nat):Int)=((2:Nat):Int))=true:=by rw[hk];rfl
  obtain rfl:=jR hk;obtain⟨H3,jN,dJ⟩:=G7 (lf:=lf) (n:=n) (H:=H2) ht om;obtain⟨H4,kH,fb,rB⟩:=OY (bR e.tag) (by simp[mark,hk]) (bK.ext dJ);have CL:=dJ.cq.trans rB;obtain⟨H5,q9,jJ,jT⟩:=NU fb CL;have r3:=q3 CL;have key:∃w H',aj ak lf (n+1) 338 [.ptr pb 0] H=some (w,H')/\w=.aJ []/\H'=H5:=by
   refine cx DT.1 ?_;refine af ae ?_;refine ai ae aV ?_;refine af (An @fI (An @r0 @d1)) ?_;refine ah ae ?_;refine af @d2 ?_;refine ar ae ?_;refine af @r1 ?_;refine ai ae jN ?_;refine af ae ?_;refine ai ae kH ?_;refine af @r3 ?_;refine ai ae q9 ?_;refine af ae ?_;refine cF bQ ?_;exact(⟨rfl,rfl⟩)
  obtain⟨w,H',h,rfl,rfl⟩:=key;exact⟨_,h,by rw[kz,ha];exact jJ,pj.trans (CL.trans jT)⟩
 ·have d1:decide (((e.kind:Nat):Int)=((1:Nat):Int))=false:=by rw[hk];rfl
  have d2:decide (((e.kind:Nat):Int)=((2:Nat):Int))=false:=by rw[hk];rfl
  have d3:decide (((e.kind:Nat):Int)=((3:Nat):Int))=true:=by rw[hk];rfl
  have hm:mark e=List.replicate e.count 123:=by simp[mark,hk]
  have p8:(mark e).length=e.count:=by rw[hm,List.length_replicate]
  have L3:=Xg (lf:=lf) (n:=n) (H:=H2) (k:=e.count) (c:=123) om om aC;obtain⟨H3,jN,ct,gi⟩:=OY (List.replicate e.count 123) hm.symm bK;obtain⟨H4,kH,fb,rB⟩:=NU ct gi;have CL:=gi.trans rB;have r3:=q3 gi;obtain⟨g1,g2,g3⟩:=mP (l:=e.list) f1;have ew:(aU (dj e.list (bI (mark e) r))).length+(bN e.args).length<=90000:=by
   rw[g3,f3];simp only[List.length_append];omega
  have hlen:(dj e.list (bI (mark e) r)).length=r.length:=g2.trans f2;have aeo:kz (e::r)=e.args.foldl fM (dj e.list (bI (mark e) r)):=rfl;rw[aeo];generalize dj e.list (bI (mark e) r)=nH at*;have fP:=qz e.args;have key:∃w H',aj ak lf (n+1) 338 [.ptr pb 0] H=some (w,H')/\w=.aJ []/\PK pb H' (e.args.foldl fM nH)/\cf pb H2 H':=by
   refine cx DT.1 ?_;refine af ae ?_;refine ai ae aV ?_;refine af (An @fI (An @r0 @d1)) ?_;refine ah ae ?_;refine af @d2 ?_;refine ah ae ?_;refine af @d3 ?_;refine ar ae ?_;refine af @r2 ?_;refine ai ae L3 ?_;refine af ae ?_;refine ai ae jN ?_;refine af @r3 ?_;refine ai ae kH ?_;refine af ae ?_;refine bH (I:=fun m ts D H'=>D=[]/\∃i:Nat,m=e.args.length-i/\i<=e.args.length/\PK pb H' ((e.args.take i).foldl fM nH)/\cf pb H2 H'/\∃z:Nat->SV,ts=((.ptr pb 0)::z 1::(.ptr H1.next 0)::(.int .i64 (i:Int))::zz z 4 67 []:T)/\(True)) ?_ e.args.length ?_ om
   ·rintro m ts D Ga ⟨rfl,i,rfl,hi,Fl,CM,⟨z,rfl, -⟩⟩;obtain⟨Dl,k1,k2⟩:=(jY.ax cG.cq).ax CM;have k2:bG (AC pb Ga) Dl e.args:=k2;have dE:=k1.aQ.cA;rw[k2.len]at dE;have ra:=q4 CM;by_cases bw:i<e.args.length
    ·have dl:decide (((i:Nat):Int)<((e.args.length:Nat):Int))=true:=dt;obtain⟨dd,hd⟩:∃dd,Dl[i]? =some dd:=⟨_,List.getElem?_eq_getElem (by rw[k2.len];exact bw)⟩;obtain⟨a,ha⟩:∃a,e.args[i]? =some a:=⟨_,List.getElem?_eq_getElem bw⟩;have KU:=k2.get hd ha;obtain⟨b,o,j1,hB,bU,j2⟩:=k1.at_ hd;obtain⟨nv,vv,rfl,n1,n2⟩:=KU;obtain⟨s1,s2⟩:=En ha;obtain⟨t1,t2,t3⟩:=Eh (l:=e.args.take i) g1;have Vk:(e.args.take (i+1)).foldl fM nH=fM ((e.args.take i).foldl fM nH) a:=by rw[s2,List.foldl_append];rfl
     have hbA:(aU ((e.args.take i).foldl fM nH)).length+(gL a).length<=90000:=by rw[t3,List.length_append];omega
     have Uz:((e.args.take i).foldl fM nH).length<10000:=om;generalize (e.args.take i).foldl fM nH=sa at*;obtain⟨nm,na,va⟩:=a;have n1:NK pb Ga nv na:=n1;have n2:NK pb Ga vv va:=n2;have jS:((i:Nat):Int)+((1:Nat):Int)=((i+1:Nat):Int):=om;obtain⟨u1,u2,u3⟩:=gO [124] t1;cases nm with
     |false=>
      have dn:(gL (false,na,va)).length=1+(aL va).length:=by simp[gL];omega
      obtain⟨Gb,L4,Lk,vx⟩:=nF (lf:=lf) (n:=n) (s:=[124]) t1 Fl (by simp only[List.length_cons,List.length_nil];omega) Uz om;have CN:=CM.trans vx;have eb:Gb.get b=Ga.get b:=vx.2 b bU om;have rb:=q4 CN;rw[<-eb]at j2;have w0:aq (Gb.get b) o 1=some [.bool false]:=uz j2 (by decide) rfl;have w2:aq (Gb.get b) (o+2) 1=some [vv]:=lx (i:=2) (m:=1) j2 (by decide);obtain⟨Gc,L5,zh,jU⟩:=Dc (lf:=lf) (n:=n) (K:=va) u1 Lk (n2.ax vx) (by rw[u3,List.length_append];simp only[List.length_cons,List.length_nil];omega) om om aC;refine af (An @ra (An @dE @dl)) ?_;refine ar ae ?_;refine af ae ?_;refine ai ae L4 ?_;refine af (An @rb (An @j1 @w0)) ?_;refine ah ae ?_;refine af (An @rb (An @j1 @w2)) ?_;refine ai ae L5 ?_;refine af ae ?_;refine aT (e.args.length-(i+1)) om ⟨rfl,i+1,rfl,by omega,?_,CN.trans jU,aw⟩;rw[Vk];exact zh
     |true=>
      have dn:(gL (true,na,va)).length=2+(aL na).length+(aL va).length:=by simp[gL];omega
      obtain⟨Gb,L4,Lk,vx⟩:=nF (lf:=lf) (n:=n) (s:=[124]) t1 Fl (by simp only[List.length_cons,List.length_nil];omega) Uz om;have CN:=CM.trans vx;have eb:Gb.get b=Ga.get b:=vx.2 b bU om;have rb:=q4 CN;have jb:=j2;rw[<-eb]at jb;have w0:aq (Gb.get b) o 1=some [.bool true]:=uz jb (by decide) rfl;have w1:aq (Gb.get b) (o+1) 1=some [nv]:=lx (i:=1) (m:=1) jb (by decide);have b1:(aU (bI [124] sa)).length=(aU sa).length+1:=by rw[u3,List.length_append];rfl
      obtain⟨Gc,L5,zh,jU⟩:=Dc (lf:=lf) (n:=n) (K:=na) u1 Lk (n1.ax vx) om om om aC;obtain⟨v1,v2,v3⟩:=mP (l:=na) u1;have b2:(aU (dj na (bI [124] sa))).length=(aU sa).length+1+(aL na).length:=by rw[v3,List.length_append];omega
      obtain⟨Gd,L6,hPd,VB⟩:=nF (lf:=lf) (n:=n) (s:=[61]) v1 zh (by simp only[List.length_cons,List.length_nil];omega) om om;have Vz:=CN.trans (jU.trans VB);have VA:=vx.trans (jU.trans VB);have ed:Gd.get b=Ga.get b:=VA.2 b bU om;have rd:=q4 Vz;have jd:=j2;rw[<-ed]at jd;have w2:aq (Gd.get b) (o+2) 1=some [vv]:=lx (i:=2) (m:=1) jd (by decide);obtain⟨x1,x2,x3⟩:=gO [61] v1;have b3:(aU (bI [61] (dj na (bI [124] sa)))).length=(aU sa).length+1+(aL na).length+1:=by rw[x3,List.length_append,b2];rfl
      obtain⟨Ge,L7,hPe,hxe⟩:=Dc (lf:=lf) (n:=n) (K:=va) x1 hPd (n2.ax VA) om om om aC;refine af (An @ra (An @dE @dl)) ?_;refine ar ae ?_;refine af ae ?_;refine ai ae L4 ?_;refine af (An @rb (An @j1 @w0)) ?_;refine ar ae ?_;refine af (An @rb (An @j1 @w1)) ?_;refine ai ae L5 ?_;refine af ae ?_;refine ai ae L6 ?_;refine af (An @rd (An @j1 @w2)) ?_;refine ai ae L7 ?_;refine af ae ?_;refine aT (e.args.length-(i+1)) om ⟨rfl,i+1,rfl,by omega,?_,Vz.trans hxe,aw⟩;rw[Vk];exact hPe
    ·obtain rfl:i=e.args.length:=om;have dl:decide (((e.args.length:Nat):Int)<((e.args.length:Nat):Int))=false:=by simp
     rw[List.take_length]at Fl;refine af (An @ra (An @dE @dl)) ?_;refine ah ae ?_;refine af ae ?_;refine cF bQ ?_;exact(⟨rfl,Fl,CM⟩)
   ·exact⟨rfl,0,rfl,Nat.zero_le _,fb,CL,aw⟩
  obtain⟨w,H',h,rfl,h1,h2⟩:=key;exact⟨_,h,h1,pj.trans h2⟩
end
end
section
attribute [local irreducible] HD fC evalOp
theorem PK.elem {pb:Nat} {H:ag} {st:List AE} (h:PK pb H st):∃sv,aq (H.get pb) 0 1=some [sv]/\kn sv=some (.int .i64 (st.length:Int))/\
 ∀(i:Nat) (e:AE),st[i]? =some e->∃b o tg lv av,kN 5 sv (.int .i64 ((st.length-1-i:Nat):Int))=some (.ptr b o)/\aq (H.get b) o 5=some [iN e.kind,iN tg,iN e.count,lv,av]/\(e.kind=2->tg=e.tag):=by
 obtain⟨sv,h1,⟨C,h2,h3⟩,_⟩:=h;have hl:=h3.len;rw[List.length_reverse]at hl;refine⟨sv,by rw[h1];rfl,by rw[h2.aQ.cA,hl],fun i e he=>?_⟩;have hi:=(List.getElem?_eq_some_iff.1 he).1;obtain⟨c,hc⟩:∃c,C[st.length-1-i]? =some c:=⟨_,List.getElem?_eq_getElem om⟩;have hr:st.reverse[st.length-1-i]? =some e:=by
  rw[List.getElem?_reverse om,show st.length-1-(st.length-1-i)=i by omega,he]
 obtain⟨tg,lv,av,rfl,ht,_⟩:=h3.get hc hr;obtain⟨b,o,j1,_,j2,_⟩:=h2.aQ.at_ hc;exact⟨b,o,tg,lv,av,j1,j2,ht⟩
@[reducible] def ZW (H0:ag) (p:Nat) (st:List AE) (m:Nat) (ts:T) (D:DS) (H':ag):Prop:=
  D=[]/\H'=H0/\∃a:Nat,m=a/\a+1<=st.length/\gA st=(gA (st.drop (st.length-1-a))).map (· +(st.length-1-a))/\∃z:Nat->SV,ts=((.ptr p 0)::z 1::z 2::(.int .i64 (a:Int))::zz z 4 31 []:T)/\(True)
@[reducible] def ZR (H0:ag) (p k:Nat) (st:List AE) (m:Nat) (ts:T) (D:DS) (H':ag):Prop:=
  D=[]/\H'=H0/\∃a:Nat,m=a/\a+1<=st.length/\km k st=(km k (st.drop (st.length-1-a))).map (· +(st.length-1-a))/\∃z:Nat->SV,ts=((.ptr p 0)::(.int .i64 (k:Int))::zz z 2 3 ((.int .i64 (a:Int))::zz z 6 32 []):T)/\(True)
section
variable {lf n:Nat} {H:ag}
theorem ajw {p:Nat} {st:List AE} (h:PK p H st) (aD:bC st) (hr:st.length<900) (hn:1<=n) (aC:1000<lf):aj ak lf n 376 [.ptr p 0] H=some (iN (lk st),H):=by
 obtain⟨n,rfl⟩:=aN (n:=n);obtain⟨sv,r0,aW,jv⟩:=h.elem;have aP:st.length≠0:=by have:=aD.ne;simpa using this
 have key:∃w H',aj ak lf (n+1) 376 [.ptr p 0] H=some (w,H')/\w=iN (lk st)/\H'=H:=by
  have ny:((st.length:Nat):Int)-((1:Nat):Int)=((st.length-1:Nat):Int):=om;refine cx Ql.1 ?_;refine af (An @r0 (An @aW @ny)) ?_;refine bH (I:=ZW H p st) ?_ (st.length-1) ?_ om
  ·rintro m ts D H' ⟨rfl,rfl,a,rfl,ha,hB,⟨z,rfl, -⟩⟩;by_cases xk:m=0
   ·subst xk;have d0:decide (((0:Nat):Int)>((0:Nat):Int))=false:=by decide
    have pe:gA st=none:=by
     rw[hB];obtain⟨e,h1,h2⟩:=uX (st:=st) (i:=st.length-1-0) om;have hk:=aD.low (e:=e) (by simpa using h1);rw[h2];have h3:st.drop (st.length-1-0+1)=[]:=List.drop_of_length_le om;rw[h3];simp[gA,hk]
    refine af @d0 ?_;refine ah ae ?_;refine af ae ?_;refine aO ae ?_;exact(⟨by unfold lk;rw[pe],rfl⟩)
   ·obtain⟨e,h1,h2⟩:=uX (st:=st) (i:=st.length-1-m) om;obtain⟨b,o,tg,lv,av,g1,g2,_⟩:=jv _ e h1;rw[show st.length-1-(st.length-1-m)=m by omega]at g1;have q0:aq (H'.get b) o 1=some [iN e.kind]:=uz g2 (by decide) rfl;have d0:decide (((m:Nat):Int)>((0:Nat):Int))=true:=dt;rw[h2]at hB;by_cases dX:e.kind=2
    ·have d2:decide (((e.kind:Nat):Int)≠((2:Nat):Int))=false:=by rw[dX];decide
     have pe:gA st=none:=by rw[hB];simp[gA,dX]
     refine af (An @d0 (An @r0 (An @g1 (An @q0 @d2)))) ?_;refine ah ae ?_;refine af ae ?_;refine aO ae ?_;exact(⟨by unfold lk;rw[pe],rfl⟩)
    ·have d2:decide (((e.kind:Nat):Int)≠((2:Nat):Int))=true:=dt;by_cases gg:e.kind=3
     ·have d3:decide (((e.kind:Nat):Int)=((3:Nat):Int))=true:=by rw[gg];decide
      have vr:gA st=some (st.length-1-m):=by rw[hB];simp[gA,gg]
      refine af (An @d0 (An @r0 (An @g1 (An @q0 @d2)))) ?_;refine ar ae ?_;refine af (An @r0 (An @g1 (An @q0 @d3))) ?_;refine ar ae ?_;refine af ae ?_;refine aO ae ?_;exact(⟨by unfold lk;rw[vr];dsimp only;rw[show st.length-1-(st.length-1-m)=m by omega],rfl⟩)
     ·have d3:decide (((e.kind:Nat):Int)=((3:Nat):Int))=false:=df;have hw:((m:Nat):Int)-((1:Nat):Int)=((m-1:Nat):Int):=om;refine af (An @d0 (An @r0 (An @g1 (An @q0 @d2)))) ?_;refine ar ae ?_;refine af (An @r0 (An @g1 (An @q0 @d3))) ?_;refine ah ae ?_;refine af @hw ?_;refine aT (m-1) om ⟨rfl,rfl,m-1,rfl,by omega,?_,aw⟩;rw[hB,show st.length-1-(m-1)=st.length-1-m+1 by omega];rw[show gA (e::st.drop (st.length-1-m+1))=(gA (st.drop (st.length-1-m+1))).map (· +1)by simp[gA,dX,gg]];exact GD _ _
  ·exact⟨rfl,rfl,st.length-1,rfl,by omega,by simp,aw⟩
 obtain⟨w,H',h,rfl,rfl⟩:=key;exact h
theorem ajx {p k:Nat} {st:List AE} (h:PK p H st) (aD:bC st) (hr:st.length<900) (hn:1<=n) (aC:1000<lf):aj ak lf n 336 [.ptr p 0,iN k] H=some (iN (vz k st),H):=by
 obtain⟨n,rfl⟩:=aN (n:=n);obtain⟨sv,r0,aW,jv⟩:=h.elem;have aP:st.length≠0:=by have:=aD.ne;simpa using this
 have key:∃w H',aj ak lf (n+1) 336 [.ptr p 0,iN k] H=some (w,H')/\w=iN (vz k st)/\H'=H:=by
  have ny:((st.length:Nat):Int)-((1:Nat):Int)=((st.length-1:Nat):Int):=om;refine cx Qf.1 ?_;refine af (An @r0 (An @aW @ny)) ?_;refine bH (I:=ZR H p k st) ?_ (st.length-1) ?_ om
  ·rintro m ts D H' ⟨rfl,rfl,a,rfl,ha,hB,⟨z,rfl, -⟩⟩;by_cases xk:m=0
   ·subst xk;have d0:decide (((0:Nat):Int)>((0:Nat):Int))=false:=by decide
    have pe:km k st=none:=by
     rw[hB];obtain⟨e,h1,h2⟩:=uX (st:=st) (i:=st.length-1-0) om;have hk:=aD.low (e:=e) (by simpa using h1);rw[h2];have h3:st.drop (st.length-1-0+1)=[]:=List.drop_of_length_le om;rw[h3,Gu,if_neg om];rfl
    refine af @d0 ?_;refine ah ae ?_;refine af ae ?_;refine aO ae ?_;exact(⟨by unfold vz;rw[pe],rfl⟩)
   ·obtain⟨e,h1,h2⟩:=uX (st:=st) (i:=st.length-1-m) om;obtain⟨b,o,tg,lv,av,g1,g2,ht⟩:=jv _ e h1;rw[show st.length-1-(st.length-1-m)=m by omega]at g1;have q0:aq (H'.get b) o 1=some [iN e.kind]:=uz g2 (by decide) rfl;have q1:aq (H'.get b) (o+1) 1=some [iN tg]:=lx (i:=1) (m:=1) g2 (by decide);have d0:decide (((m:Nat):Int)>((0:Nat):Int))=true:=dt;have hw:((m:Nat):Int)-((1:Nat):Int)=((m-1:Nat):Int):=om;rw[h2,Gu]at hB;have next:¬(e.kind=2/\e.tag=k)->km k st=(km k (st.drop (st.length-1-(m-1)))).map (· +(st.length-1-(m-1))):=fun hh=>by
     rw[hB,if_neg hh,show st.length-1-(m-1)=st.length-1-m+1 by omega];exact GD _ _
    by_cases dX:e.kind=2
    ·have d2:decide (((e.kind:Nat):Int)=((2:Nat):Int))=true:=by rw[dX];decide
     obtain rfl:=ht dX;by_cases eJ:e.tag=k
     ·have d3:decide (((e.tag:Nat):Int)=((k:Nat):Int))=true:=by rw[eJ];simp
      rw[if_pos ⟨dX,eJ⟩]at hB;have vr:km k st=some (st.length-1-m):=by rw[hB];simp
      refine af @d0 ?_;refine ar ae ?_;refine af (An @r0 (An @g1 (An @q0 (An @q1 (An @d2 @d3))))) ?_;refine ar ae ?_;refine af ae ?_;refine aO ae ?_;exact(⟨by unfold vz;rw[vr];dsimp only;rw[show st.length-1-(st.length-1-m)=m by omega],rfl⟩)
     ·have d3:decide (((e.tag:Nat):Int)=((k:Nat):Int))=false:=df;refine af @d0 ?_;refine ar ae ?_;refine af (An @r0 (An @g1 (An @q0 (An @q1 (An @d2 @d3))))) ?_;refine ah ae ?_;refine af @hw ?_;refine aT (m-1) om ⟨rfl,rfl,m-1,rfl,by omega,next (fun h=>eJ h.2),aw⟩
    ·have d2:decide (((e.kind:Nat):Int)=((2:Nat):Int))=false:=df;refine af @d0 ?_;refine ar ae ?_;refine af (An @r0 (An @g1 (An @q0 @d2))) ?_;refine ah ae ?_;refine af @hw ?_;refine aT (m-1) om ⟨rfl,rfl,m-1,rfl,by omega,next (fun h=>dX h.1),aw⟩
  ·exact⟨rfl,rfl,st.length-1,rfl,by omega,by simp,aw⟩
 obtain⟨w,H',h,rfl,rfl⟩:=key;exact h
theorem Om {pb j a:Nat} {st:List AE} (h:PK pb H st) (hS:bC st) (hj:j+a+1=st.length) (hb:(aU st).length<=90000) (hl:st.length<900) (hn:6<=n) (aC:600000<lf):
 ∃H',aj ak lf n 256 [.ptr pb 0,iN a] H=some (.aJ [],H')/\PK pb H' (eS j st)/\cf pb H H':=by
 obtain⟨n,rfl⟩:=aN (n:=n);have key:∃w H',aj ak lf (n+1) 256 [.ptr pb 0,iN a] H=some (w,H')/\w=.aJ []/\PK pb H' (eS j st)/\cf pb H H':=by
  refine cx PU.1 ?_;refine af ae ?_;refine bH (I:=fun m ts D H'=>D=[]/\∃q:Nat,m=j-q/\q<=j/\PK pb H' (eS q st)/\cf pb H H'/\∃z:Nat->SV,ts=((.ptr pb 0)::(.int .i64 (a:Int))::zz z 2 12 []:T)/\(True)) ?_ j ?_ om
  ·rintro m ts D H' ⟨rfl,q,rfl,hq,hP,hx,⟨z,rfl, -⟩⟩;obtain⟨g1,g2,g3⟩:=uQ (j:=q) hS om;obtain⟨sv,r0,aW,_⟩:=hP.elem;have gb:=A7 q st;generalize hsq:eS q st=sq at*;have hw:((sq.length:Nat):Int)-((1:Nat):Int)=((sq.length-1:Nat):Int):=om;by_cases zK:q<j
   ·have d1:decide (((sq.length-1:Nat):Int)>((a:Nat):Int))=true:=dt
    match sq,g1,g2,g3,hP,aW,hw,d1,gb with
    |e::r,g1,g2,g3,hP,aW,hw,d1,gb=>
     have hr:r≠[]:=fun e1=>by subst e1;simp only[List.length_cons,List.length_nil]at g2;omega
     rw[List.length_cons]at g2;obtain⟨H2,nj,bK,pj⟩:=ajt (lf:=lf) (n:=n) hP g1 hr (by rw[g3];exact hb) om om aC;have dE:(e::r).length<1000:=by rw[List.length_cons];omega
     generalize (e::r).length=ll at aW hw d1 dE;refine af (An @r0 (An @aW (An @hw @d1))) ?_;refine ar ae ?_;refine af ae ?_;refine ai ae nj ?_;refine af ae ?_;refine aT (j-(q+1)) om ⟨rfl,q+1,rfl,by omega,by rw[gb];exact bK,hx.trans pj,aw⟩
   ·obtain rfl:q=j:=om;have d1:decide (((sq.length-1:Nat):Int)>((a:Nat):Int))=false:=df;refine af (An @r0 (An @aW (An @hw @d1))) ?_;refine ah ae ?_;refine af ae ?_;refine cF bQ ?_;exact(⟨rfl,hsq▸hP,hx⟩)
  ·exact⟨rfl,0,rfl,Nat.zero_le _,h,cf.refl _ _,aw⟩
 obtain⟨w,H',h,rfl,h1,h2⟩:=key;exact⟨_,h,h1,h2⟩
end
end
end Go.Sh
