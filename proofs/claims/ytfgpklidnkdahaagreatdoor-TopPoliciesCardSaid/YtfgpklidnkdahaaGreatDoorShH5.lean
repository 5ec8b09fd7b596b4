/-
  The reference parser, third part. No conditions beyond those that stand in the theorems.
-/
import Derived.Test.YtfgpklidnkdahaaGreatDoorShH4
set_option linter.all false
set_option maxHeartbeats 20000000
set_option maxRecDepth 10000
namespace Go.Sh
section
attribute [local irreducible] HD fC evalOp
theorem NK.nil {pb:Nat} {H:ag}:NK pb H .ao []:=⟨[],RB.nil,trivial⟩
theorem AK.nil {pb:Nat} {H:ag}:AK pb H .ao []:=⟨[],RB.nil,trivial⟩
theorem TK.push {pb:Nat} {H:ag} {v:SV} {C:List (List SV)} {c:List SV} {st:List AE} {e:AE} (h1:RB (pb+1) H v 5 (C++[c])) (h2:bG (EK pb H) C st.reverse) (h3:EK pb H c e):TK pb H v (e::st):=by
 refine⟨_,h1.rq,?_⟩;rw[List.reverse_cons];exact h2.snoc h3
section
variable {lf n:Nat} {H:ag}
theorem Oo {pb:Nat} {st:List AE} {e:AE} {c:List SV} {x:List Nat} (hS:bC st) (h:PK pb H st) (hc:EK pb H c e) (hb:(aU st).length+x.length<=90000) (hl:st.length<900) (hn:4<=n):
 ∃H',aj ak lf n 329 [.ptr pb 0,.agg c,.str x] H=some (.aJ [],H')/\PK pb H' (lY e x st)/\cf pb H H':=by
 obtain⟨n,rfl⟩:=aN (n:=n);have aP:st.length≠0:=by have:=hS.ne;simpa using this
 have hp:=h.lt;have bO:=hc.len;have bV:=hc.one;have mq:=hc.bq;obtain⟨tg,lv,av,rfl,jR,⟨_,u1,_⟩,_,u2,_⟩:=id hc;obtain⟨H1,ay⟩:∃H1,H.push (.row [iN e.kind,iN tg,iN e.count,lv,av] 341 true false 0)=H1:=⟨_,rfl⟩;have aB:Ext H H1:=by rw[<-ay];exact(Ext.refl H).push _
 have ca:H1.next=H.next+1:=by rw[<-ay];rfl
 have bP:H1.get H.next=some (.row [iN e.kind,iN tg,iN e.count,lv,av] 341 true false 0):=by rw[<-ay];exact bd _
 have hw:((st.length:Nat):Int)-((1:Nat):Int)=((st.length-1:Nat):Int):=om;by_cases E5:20<st.length
 ·obtain⟨H2,hj,bK,pj⟩:=nF (lf:=lf) (n:=n) hS (h.ext aB) hb om om;obtain⟨sv,r0,aW,_⟩:=(h.ext aB).elem;have d0:decide (((st.length-1:Nat):Int)>=((20:Nat):Int))=true:=dt;have key:∃w H',aj ak lf (n+1) 329 [.ptr pb 0,.agg [iN e.kind,iN tg,iN e.count,lv,av],.str x] H=some (w,H')/\w=.aJ []/\H'=H2:=by
   refine cx IL.1 ?_;refine af (An @ay (An @r0 (An @aW (An @hw @d0)))) ?_;refine ar ae ?_;refine af ae ?_;refine ai ae hj ?_;refine af ae ?_;refine gQ bQ ?_;exact(⟨rfl,rfl⟩)
  obtain⟨w,H',h,rfl,rfl⟩:=key;exact⟨_,h,by unfold lY;rw[if_pos E5];exact bK,aB.cq.trans pj⟩
 ·have d0:decide (((st.length-1:Nat):Int)>=((20:Nat):Int))=false:=df;obtain⟨sv,h1,⟨C,k1,k3⟩,h3⟩:=h;have oV:=k3.len;rw[List.length_reverse]at oV;obtain⟨H2,aY⟩:∃H2,H1.push (.row [iN e.kind,iN tg,iN e.count,lv,av] 341 true false 0)=H2:=⟨_,rfl⟩;have cG:Ext H1 H2:=by rw[<-aY];exact(Ext.refl H1).push _
  have aF:=aB.trans cG;have dc:H2.next=H1.next+1:=by rw[<-aY];rfl
  have bB:H2.get H1.next=some (.row [iN e.kind,iN tg,iN e.count,lv,av] 341 true false 0):=by rw[<-aY];exact bd _
  have aW:=k1.aQ.cA;rw[oV]at aW;have ng:=k1.aQ.bq;obtain⟨v1,H3,v2,H4,fF,gI,aS,bz,eU⟩:=Jw (k1.aQ.ax aF).Dm (EG k3) om bO bV bB om 341 72 om;have kF:∀{G:ag},Ext H G->G.get pb=some (.row [sv] 344 true false 0):=fun hE=>(hE.2 _ h3).trans h1
  have r1:aq (H1.get pb) 0 1=some [sv]:=by rw[kF aB];rfl
  have r2:aq (H2.get pb) 0 1=some [sv]:=by rw[kF aF];rfl
  have r3:aq (H3.get pb) 0 1=some [sv]:=by rw[kF (aF.trans aS)];rfl
  have r4:aq (H4.get pb) 0 1=some [sv]:=by rw[kF (aF.trans bz)];rfl
  have aD:=gY (o:=0) (kF (aF.trans bz)) eU.aQ.one (by simp) (Nat.le_refl _);obtain⟨H5,bg⟩:∃H5,H4.put pb (.row [v2] 344 true false 0)=H5:=⟨_,rfl⟩;have lI:c7 1 (.ptr pb 0) [v2] H4=some H5:=by rw[aD,<-bg];rfl
  have jT:cf pb H H5:=by rw[<-bg];exact(aF.trans bz).cq.put _
  have dw:H5.get pb=some (.row [v2] 344 true false 0):=by rw[<-bg];exact bT _ _
  have iG:pb<H5.next:=Nat.lt_of_lt_of_le h3 jT.1;have fy:PK pb H5 (e::st):=⟨v2,dw,TK.push ((eU.mono om).cq (by rw[<-bg];exact(cf.refl pb H4).put _)) (k3.imp fun _ _ h=>h.ax jT) (hc.ax jT),iG⟩;have key:∃w H',aj ak lf (n+1) 329 [.ptr pb 0,.agg [iN e.kind,iN tg,iN e.count,lv,av],.str x] H=some (w,H')/\w=.aJ []/\H'=H5:=by
   have q1:aq (H1.get H.next) 0 5=some [iN e.kind,iN tg,iN e.count,lv,av]:=by rw[bP];rfl
   have q2:aq (H2.get H.next) 0 5=some [iN e.kind,iN tg,iN e.count,lv,av]:=by rw[cG.2 _ om,bP];rfl
   have q3:aq (H3.get H.next) 0 5=some [iN e.kind,iN tg,iN e.count,lv,av]:=by rw[aS.2 _ om,cG.2 _ om,bP];rfl
   have q4:aq (H4.get H.next) 0 5=some [iN e.kind,iN tg,iN e.count,lv,av]:=by rw[bz.2 _ om,cG.2 _ om,bP];rfl
   have q5:aq (H5.get H.next) 0 5=some [iN e.kind,iN tg,iN e.count,lv,av]:=by rw[<-bg,cI om,bz.2 _ om,cG.2 _ om,bP];rfl
   have aH:=eU.aQ.cells;have CE:SV.under H1.next lv=true:=u1.aQ.under om;have CF:SV.under H1.next av=true:=u2.aQ.under om;have rA:(SV.under H1.next (iN e.kind)&&(SV.under H1.next (iN tg)&&(SV.under H1.next (iN e.count)&&(SV.under H1.next lv&&SV.under H1.next av))))=true:=by rw[CE,CF];rfl
   have l3:=(aS.2 H1.next om).trans bB;have l4:=(bz.2 H1.next om).trans bB;have l5:H5.get H1.next=some (.row [iN e.kind,iN tg,iN e.count,lv,av] 341 true false 0):=by rw[<-bg,cI om];exact l4
   refine cx IL.1 ?_;refine af (An @ay (An @r1 (An @aW (An @hw @d0)))) ?_;refine ah ae ?_;refine af ae ?_;refine wh ?_;refine xo (An @r1 (An @q1 @aY)) ?_;simp only[oK,List.map_cons,List.map_nil];refine af (An @r2 (An @fF (An @q3 (An @gI (An @aH @lI))))) ?_;refine dB ?_ ?_
   ·exact dh (An @r2 (An @r3 (An @r4 (An @q2 (An @q3 (An @q4 (An @q5 (An @bB (An @l3 (An @l4 (An @l5 (An @rA (An @ng @mq)))))))))))))
   ·refine af ae ?_;refine cF bQ ?_;exact(⟨rfl,rfl⟩)
  obtain⟨w,H',h,rfl,rfl⟩:=key;exact⟨_,h,by unfold lY;rw[if_neg E5];exact fy,jT⟩
theorem ajn {pb:Nat} {st:List AE} (hS:bC st) (h:PK pb H st) (hb:(aU st).length+1<=90000) (hl:st.length<900) (hn:4<=n):
 ∃H',aj ak lf n 333 [.ptr pb 0] H=some (.aJ [],H')/\PK pb H' (jo st)/\cf pb H H':=by
 obtain⟨n,rfl⟩:=aN (n:=n)
 match st,hS with
 |e::r,hS=>
 rw[List.length_cons]at hl;have hp:=h.lt;obtain⟨c0,H1,aV,gJ,aB⟩:=yf (lf:=lf) (n:=n) h (Ext.refl H) om om;have bV:=gJ.one;obtain⟨tg,lv,av,rfl,jR,jg,jY⟩:=id gJ;obtain⟨H2,fI,cG,dc,bB⟩:=iw (H:=H1) (zs:=[iN 0,iN 0,iN 0,.ao,.ao]) (ty:=341) (z:=5) rfl (cs:=[iN e.kind,iN tg,iN e.count,lv,av]) rfl bV;have aF:=aB.trans cG;have rk:=aB.1;have r0:aq (H2.get H1.next) 0 1=some [iN e.kind]:=by rw[bB];rfl
 have r4:aq (H2.get H1.next) 4 1=some [av]:=by rw[bB];rfl
 obtain⟨H3,hj,ct,gi⟩:=nF (lf:=lf) (n:=n) (s:=[61]) hS (h.ext aF) (by simpa using hb) (by simp only[List.length_cons];omega) om;have CK:=aF.cq.trans gi;by_cases hk:e.kind=3
 ·have d0:decide (((e.kind:Nat):Int)≠((3:Nat):Int))=false:=by rw[hk];decide
  rcases List.eq_nil_or_concat e.args with hA|⟨A,a,hA⟩
  ·have b8:jo (e::r)=bI [61] (e::r):=by simp only[jo,hA,List.getLast?_nil]
   have aW:kn av=some (.int .i64 ((0:Nat):Int)):=by
    obtain⟨D,q1,q2⟩:=jY;have:=q2.len;rw[hA]at this;rw[q1.aQ.cA,this];rfl
   have kX:decide (((0:Nat):Int)=((0:Nat):Int))=true:=by decide
   have key:∃w H',aj ak lf (n+1) 333 [.ptr pb 0] H=some (w,H')/\w=.aJ []/\H'=H3:=by
    refine cx AU.1 ?_;refine af ae ?_;refine ai ae aV ?_;refine af (An @fI (An @r0 (An @d0 (An @r4 (An @aW @kX))))) ?_;refine ar ae ?_;refine af ae ?_;refine ai ae hj ?_;refine af ae ?_;refine gQ bQ ?_;exact(⟨rfl,rfl⟩)
   obtain⟨w,H',h,rfl,rfl⟩:=key;exact⟨_,h,by rw[b8];exact ct,CK⟩
  ·rw[List.concat_eq_append]at hA;obtain⟨D,q1,q2⟩:=id jY;have q2:bG (AC pb H) D e.args:=q2;rw[hA]at q2;have K2:=Jq q2;have wU:=q2.len;rw[List.length_append,List.length_singleton]at wU;have fP:A.length+1<=(bN e.args).length:=by have:=qz e.args;rw[hA,List.length_append,List.length_singleton]at this;rw[hA];omega
   simp only[aU,List.length_append]at hb;obtain⟨D',d,rfl,q3,q4⟩:=q2.Ig;have K1:=q3.len;obtain⟨nv,vv,rfl,q5,q6⟩:=q4;have aW:=q1.aQ.cA;rw[List.length_append,List.length_singleton]at aW;have d1:decide (((D'.length+1:Nat):Int)=((0:Nat):Int))=false:=df;have gf:((D'.length+1:Nat):Int)-((1:Nat):Int)=(D'.length:Int):=om;obtain⟨b0,o0,y1,_,_,y2⟩:=(q1.ext aF).at_ (i:=D'.length) (x:=[.bool a.1,nv,vv]) (by simp);have y3:aq (H2.get b0) o0 1=some [.bool a.1]:=uz y2 (by decide) rfl;have hDb:D'.length<1000000:=om;cases fF:a.1 with
   |true=>
    rw[fF]at y3;have b8:jo (e::r)=bI [61] (e::r):=by simp[jo,hA,fF]
    have key:∃w H',aj ak lf (n+1) 333 [.ptr pb 0] H=some (w,H')/\w=.aJ []/\H'=H3:=by
     refine cx AU.1 ?_;refine af ae ?_;refine ai ae aV ?_;refine af (An @fI (An @r0 (An @d0 (An @r4 (An @aW (An @d1 (An @gf (An @y1 @y3)))))))) ?_;refine ar ae ?_;refine af ae ?_;refine ai ae hj ?_;refine af ae ?_;refine gQ bQ ?_;exact(⟨rfl,rfl⟩)
    obtain⟨w,H',h,rfl,rfl⟩:=key;exact⟨_,h,by rw[b8];exact ct,CK⟩
   |false=>
    rw[fF]at y3;have b8:jo (e::r)={e with args:=A++[(true,a.2.2,[])]}::r:=by simp[jo,hA,fF,hk,Ae]
    obtain⟨w1,H4,ha,qO,lC⟩:=yK (q1.aQ.ax aF) K2 (by simp;omega) 331 56 om;have zP:=q6.no.one;obtain⟨bb,H5,j1,j2,j3,j4,j5,j6,j7,j8⟩:=CT lC q1.1 (x:=[.bool true,vv,.ao]) rfl (by simp only[List.all_cons,zP,List.all_nil];rfl);have y5:aq (H4.get bb) (D'.length*3+2) 1=some [vv]:=lx (i:=2) (m:=1) j4 (by decide);have zB:=(lC.aQ q1.1).cA;rw[List.length_append,List.length_singleton]at zB;have bz:=aF.trans qO;have hq4:=qO.1;have bm:Ext H H5:=⟨by rw[j6];exact bz.1,fun b hb=>(j7 b om).trans (bz.2 b hb)⟩;have L9:H5.get H1.next=some (.row [iN e.kind,iN tg,iN e.count,lv,av] 341 true false 0):=by rw[j7 _ om,qO.2 _ om];exact bB
    have jS:SV.one w1=true:=(lC.aQ q1.1).one;have M3:w1.cells=[w1]:=(lC.aQ q1.1).cells;have lJ:=gY (o:=4) L9 jS (by simp) (Nat.zero_le _);obtain⟨H6,fZ⟩:∃H6,H5.put H1.next (.row [iN e.kind,iN tg,iN e.count,lv,w1] 341 true false 0)=H6:=⟨_,rfl⟩;have afm:c7 1 (.ptr H1.next 4) [w1] H5=some H6:=by rw[lJ,<-fZ];rfl
    have cL:Ext H H6:=by rw[<-fZ];exact bm.put om _
    have xB:H6.next=H4.next:=by rw[<-fZ];exact j6
    have KV:dq 3 (D'++[[.bool true,vv,.ao]]):=dq.snoc (fun y hy=>q1.1 y (by simp[hy])) rfl;have ady:AK pb H6 w1 (A++[(true,a.2.2,[])]):=⟨_,(j8.kp (H':=H6) om fun b hb dP=>by rw[<-fZ,cI om]).rb om KV,(q3.imp fun _ _ h=>h.ax cL.cq).snoc ⟨vv,.ao,rfl,q6.ax cL.cq,NK.nil⟩⟩;obtain⟨H7,vp,xf,Fc⟩:=G4 (lf:=lf) (n:=n) (c:=[iN e.kind,iN tg,iN e.count,lv,w1]) (e':={e with args:=A++[(true,a.2.2,[])]}) (h.ext cL) ⟨tg,lv,w1,rfl,jR,jg.ax cL.cq,ady⟩ om om;have rr:aq (H6.get H1.next) 0 5=some [iN e.kind,iN tg,iN e.count,lv,w1]:=by rw[<-fZ,bT];rfl
    have CG:=q6.no.cells;have key:∃w H',aj ak lf (n+1) 333 [.ptr pb 0] H=some (w,H')/\w=.aJ []/\H'=H7:=by
     refine cx AU.1 ?_;refine af ae ?_;refine ai ae aV ?_;refine af (An @fI (An @r0 (An @d0 (An @r4 (An @aW (An @d1 (An @gf (An @y1 @y3)))))))) ?_;refine ah ae ?_;refine af (An @r4 (An @ha (An @zB (An @gf (An @j1 (An @y5 (An @CG (An @j5 (An @M3 (An @afm @rr)))))))))) ?_;refine ai ae vp ?_;refine af ae ?_;refine cF bQ ?_;exact(⟨rfl,rfl⟩)
    obtain⟨w,H',h,rfl,rfl⟩:=key;exact⟨_,h,by rw[b8];exact xf,cL.cq.trans Fc⟩
 ·have d0:decide (((e.kind:Nat):Int)≠((3:Nat):Int))=true:=dt;have b8:jo (e::r)=bI [61] (e::r):=by
   simp only[jo];split
   ·rw[if_neg (fun h=>hk h.1)]
   ·rfl
  have key:∃w H',aj ak lf (n+1) 333 [.ptr pb 0] H=some (w,H')/\w=.aJ []/\H'=H3:=by
   refine cx AU.1 ?_;refine af ae ?_;refine ai ae aV ?_;refine af (An @fI (An @r0 @d0)) ?_;refine ar ae ?_;refine af ae ?_;refine ai ae hj ?_;refine af ae ?_;refine gQ bQ ?_;exact(⟨rfl,rfl⟩)
  obtain⟨w,H',h,rfl,rfl⟩:=key;exact⟨_,h,by rw[b8];exact ct,CK⟩
end
end
section
attribute [local irreducible] HD fC evalOp
theorem RB.rg {B:Nat} {H:ag} {v:SV} {z:Nat} {L:List (List SV)} (h:RB B H v z L):Rg (fun b=>B<=b) H v z L:=by
 refine⟨h.1,?_⟩;rcases h.2 with⟨h1,h2⟩|⟨b,c,e,ex,ro,frz,h1,hc,hB,h2,h3⟩
 ·exact .inl ⟨h1,.inl h2⟩
 ·exact .inr ⟨b,c,e,ex,ro,frz,[],[],by simpa using h1,hB,h2,by simpa using h3⟩
theorem NK.nl {pb:Nat} {H:ag} {v:SV} {K:List AN} (h:NK pb H v K):NL (fun b=>pb<b) H v K:=by
 obtain⟨C,h1,h2⟩:=h;exact⟨C,h1.rg,h2⟩
theorem AK.al {pb:Nat} {H:ag} {v:SV} {A:List AA} (h:AK pb H v A):AL (fun b=>pb<b) H v A:=by
 obtain⟨D,h1,h2⟩:=h;refine⟨D,h1.rg,h2.imp fun d a h=>?_⟩;obtain⟨nv,vv,e,h3,h4⟩:=h;exact⟨nv,vv,e,h3.nl,h4.nl⟩
@[reducible] def ZS (pb c0:Nat) (st:List AE) (H0:ag) (m:Nat) (ts:T) (D:DS) (H':ag):Prop:=
  D=[]/\∃eQ,bC eQ/\eQ.length<900/\(aU eQ).length+m<=85000/\eL (m+1) m eQ=eL (c0+1) c0 st/\PK pb H' eQ/\cf pb H0 H'/\∃z:Nat->SV,ts=((.ptr pb 0)::(.int .i64 (m:Int))::zz z 2 66 []:T)/\(True)
section
variable {lf n:Nat} {H:ag}
theorem ajh {pb c:Nat} {st:List AE} (hS:bC st) (h:PK pb H st) (hb:(aU st).length+c<=85000) (hl:st.length<900) (hn:7<=n) (aC:600000<lf):
 ∃H',aj ak lf n 337 [.ptr pb 0,iN c] H=some (.aJ [],H')/\PK pb H' (eL (c+1) c st)/\cf pb H H':=by
 obtain⟨n,rfl⟩:=aN (n:=n);have key:∃w H',aj ak lf (n+1) 337 [.ptr pb 0,iN c] H=some (w,H')/\w=.aJ []/\PK pb H' (eL (c+1) c st)/\cf pb H H':=by
  refine cx Qg.1 ?_;refine af ae ?_;refine bH (I:=ZS pb c st H) ?_ c ?_ om
  ·rintro m ts D H' ⟨rfl,eQ,lI,oa,dP,heq,hP,hx,⟨z,rfl, -⟩⟩;have ic:=Xg (lf:=lf) (n:=n) (H:=H') (k:=m) (c:=125) om om aC;obtain⟨Ht,Uq,TM,xJ⟩:=nF (lf:=lf) (n:=n) (s:=List.replicate m 125) lI hP (by rw[List.length_replicate];omega) om om;by_cases aH:2<=m
   ·have dm:decide (((m:Nat):Int)>=((2:Nat):Int))=true:=dt;have jO:=ajw (lf:=lf) (n:=n) hP lI oa om om;cases hB:gA eQ with
    |none=>
     have dp:lk eQ=0:=by unfold lk;rw[hB]
     rw[dp]at jO;have kX:decide (((0:Nat):Int)=((0:Nat):Int))=true:=by decide
     have b8:eL (m+1) m eQ=bI (List.replicate m 125) eQ:=by
      conv=>lhs;unfold eL
      rw[if_pos aH,hB]
     refine af @dm ?_;refine ar ae ?_;refine af ae ?_;refine ai ae jO ?_;refine af @kX ?_;refine ar ae ?_;refine af ae ?_;refine ai ae ic ?_;refine af ae ?_;refine ai ae Uq ?_;refine af ae ?_;refine cF bQ ?_;exact(⟨rfl,by rw[<-heq,b8];exact TM,hx.trans xJ⟩)
    |some j=>
     obtain⟨e,nh,re⟩:=z6 hB;obtain⟨e',r',f1,f2,f3,f4,f5,f6,f7,f8⟩:=tz lI nh om;obtain⟨a,ha⟩:∃a,a=eQ.length-1-j:=⟨_,rfl⟩;have dp:lk eQ=a:=by unfold lk;rw[hB,ha]
     have kI:=lI.last nh om;have FI:j+a+1=eQ.length:=om;have kX:decide (((a:Nat):Int)=((0:Nat):Int))=false:=df;have gg:e'.kind=3:=f3.trans re;have nX:2<=e'.count:=by rcases(f6.head f2).2 with h|h|h<;>omega
     rw[dp]at jO;obtain⟨H1,ka,ga,hx1⟩:=Om (lf:=lf) (n:=n) hP lI FI om oa om aC;rw[f1]at ga;obtain⟨cc,H2,nj,gJ,bK,pj⟩:=G6 (lf:=lf) (n:=n) ga om om;have bV:=gJ.one;obtain⟨tg,lv,av,rfl,jR,jg,jY⟩:=id gJ;obtain⟨H3,ez,dJ,fo,dA⟩:=iw (H:=H2) (zs:=[iN 0,iN 0,iN 0,.ao,.ao]) (ty:=341) (z:=5) rfl (cs:=[iN e'.kind,iN tg,iN e'.count,lv,av]) rfl bV;have hp:=bK.lt;have r2:aq (H3.get H2.next) 2 1=some [iN e'.count]:=by rw[dA];rfl
     have r3:aq (H3.get H2.next) 3 1=some [lv]:=by rw[dA];rfl
     have r4:aq (H3.get H2.next) 4 1=some [av]:=by rw[dA];rfl
     obtain⟨Nr,Ns,Nt⟩:=zX m e'.count aH nX;have eJ:cQ m e'.count=2\/cQ m e'.count=3:=by unfold cQ;split<;>simp
     have ud:cQ m e'.count=3↔3<=m/\3<=e'.count:=by
      unfold cQ;split
      ·rename_i hh;exact⟨fun _=>hh,fun _=>rfl⟩
      ·rename_i hh;exact⟨fun e=>absurd e (by decide),fun e=>absurd e hh⟩
     have tR:jC m (e'::r')=(if 2<=e'.count-cQ m e'.count then{e' with count:=e'.count-cQ m e'.count,list:=[⟨false,List.replicate (cQ m e'.count) 123++aL e'.list++bN e'.args++List.replicate (cQ m e'.count) 125⟩],args:=[]}::r'
      else if e'.count-cQ m e'.count=1 then fW ⟨false,List.replicate (cQ m e'.count) 123++aL e'.list++bN e'.args++List.replicate (cQ m e'.count) 125⟩ (bI [123] r')else fW ⟨false,List.replicate (cQ m e'.count) 123++aL e'.list++bN e'.args++List.replicate (cQ m e'.count) 125⟩ r'):=rfl
     obtain⟨tf,JE⟩:=A6 f6 f2 gg aH;have bO:eL (m-cQ m e'.count+1) (m-cQ m e'.count) (jC m (e'::r'))=eL (c+1) c st:=by
      rw[<-heq];have:eL (m+1) m eQ=eL m (m-cQ m e'.count) (jC m (e'::r')):=by
       conv=>lhs;unfold eL
       rw[if_pos aH,hB];dsimp only;rw[f1];rfl
      rw[this];exact Jn _ _ _ _ om om tf
     have bE:(aU (jC m (e'::r'))).length+(m-cQ m e'.count)<=85000:=by
      rw[JE,List.length_append,List.length_replicate,f8];omega
     have dE:(jC m (e'::r')).length<=r'.length+1:=by
      rw[tR];split
      ·simp
      ·split
       ·rw[(rV _ (gO _ (f6.tail f2)).1).2.1,(gO _ (f6.tail f2)).2.1];omega
       ·rw[(rV _ (f6.tail f2)).2.1];omega
     have Cz:(aU r').length+e'.count+(aL e'.list).length+(bN e'.args).length=(aU eQ).length:=by
      rw[<-f8];simp only[aU,mark,gg,List.length_append,List.length_replicate];omega
     have qT:=f6.tail f2;obtain⟨k,hk⟩:∃k,cQ m e'.count=k:=⟨_,rfl⟩;rw[hk]at Nr Ns Nt eJ ud tR bO bE;have CK:=hx.trans (hx1.trans (pj.trans dJ.cq));have ct:=bK.ext dJ;refine af @dm ?_;refine ar ae ?_;refine af ae ?_;refine ai ae jO ?_;refine af @kX ?_;refine ah kX ?_;refine s8 ?_;refine ly ?_;refine wg ?_;refine wg ?_;refine wg ?_;refine mN ?_;refine nJ (fun ts G=>G=H3/\∃z:Nat->SV,ts=((.ptr pb 0)::(.int .i64 (m:Int))::zz z 2 3 ((.ptr H2.next 0)::(.int .i64 (k:Int))::(.int .i64 ((k+2:Nat):Int))::zz z 8 60 []):T)/\(True)) ?_ (fun aA H7 gR=>?_)
     ·by_cases vm:3<=m
      ·have d5:decide (((m:Nat):Int)>=((3:Nat):Int))=true:=dt;by_cases bf:3<=e'.count
       ·have d6:decide (((e'.count:Nat):Int)>=((3:Nat):Int))=true:=dt;obtain rfl:=ud.2 ⟨vm,bf⟩;refine af ae ?_;refine ai ae ka ?_;refine af ae ?_;refine ai ae nj ?_;refine af (An @ez (An @d5 (An @r2 @d6))) ?_;refine ar ae ?_;refine af ae ?_;exact⟨rfl,rfl,rfl,aw⟩
       ·have d6:decide (((e'.count:Nat):Int)>=((3:Nat):Int))=false:=df;obtain rfl:k=2:=eJ.resolve_right fun e=>bf (ud.1 e).2
        refine af ae ?_;refine ai ae ka ?_;refine af ae ?_;refine ai ae nj ?_;refine af (An @ez (An @d5 (An @r2 @d6))) ?_;refine ah ae ?_;refine af ae ?_;exact⟨rfl,rfl,rfl,aw⟩
      ·have d5:decide (((m:Nat):Int)>=((3:Nat):Int))=false:=df;obtain rfl:k=2:=eJ.resolve_right fun e=>vm (ud.1 e).1
       refine af ae ?_;refine ai ae ka ?_;refine af ae ?_;refine ai ae nj ?_;refine af (An @ez @d5) ?_;refine ah ae ?_;refine af ae ?_;exact⟨rfl,rfl,rfl,aw⟩
     ·obtain⟨rfl,⟨z,rfl, -⟩⟩:=gR;have o1:=jg.no.one;have c1:=jg.no.cells;have o2:SV.one av=true:=by obtain⟨_,q,_⟩:=jY;exact q.aQ.one
      have c2:av.cells=[av]:=by obtain⟨_,q,_⟩:=jY;exact q.aQ.cells
      have pe:[iN (k+2),iN 0,.str [],lv,av].all SV.one=true:=by simp only[List.all_cons,o1,o2,List.all_nil];rfl
      obtain⟨H4,jx,js,nY,ji⟩:=iw (H:=H7) (zs:=[iN 0,iN 0,.str [],.ao,.ao]) (ty:=301) (z:=5) rfl (cs:=[iN (k+2),iN 0,.str [],lv,av]) rfl pe;have qO:=dJ.trans js;have afg:H2.next<H7.next:=om;have Oc:aq (H4.get H2.next) 2 1=some [iN e'.count]:=by rw[js.2 _ afg];exact r2
      have kK:((m:Nat):Int)-((k:Nat):Int)=((m-k:Nat):Int):=om;have eV:((e'.count:Nat):Int)-((k:Nat):Int)=((e'.count-k:Nat):Int):=om;have r8:aq (H4.get H7.next) 0 5=some [iN (k+2),iN 0,.str [],lv,av]:=by rw[ji];rfl
      have fb:=ct.ext js;have kD:Nd (fun b=>pb<b) H4 [iN (k+2),iN 0,.str [],lv,av] ⟨false,List.replicate k 123++aL e'.list++bN e'.args++List.replicate k 125⟩:=NL.NN eJ (jg.ax qO.cq).nl (jY.ax qO.cq).al;have M7:=CK.trans js.cq;have kf:(List.replicate k 123++aL e'.list++bN e'.args++List.replicate k 125).length=k+(aL e'.list).length+(bN e'.args).length+k:=by simp only[List.length_append,List.length_replicate]
      by_cases o7:2<=e'.count-k
      ·have d7:decide (((e'.count-k:Nat):Int)>=((2:Nat):Int))=true:=dt;rw[if_pos o7]at tR;obtain⟨sv,s1,⟨C,s2,s3⟩,s4⟩:=fb;have oV:=s3.len;rw[List.length_reverse]at oV;have ng:=s2.aQ.bq;obtain⟨H5,bg⟩:∃H5,H4.push (.row [iN (k+2),iN 0,.str [],lv,av] 301 true false 0)=H5:=⟨_,rfl⟩;have mX:Ext H4 H5:=by rw[<-bg];exact(Ext.refl H4).push _
       have iG:H5.next=H4.next+1:=by rw[<-bg];rfl
       have dw:H5.get H4.next=some (.row [iN (k+2),iN 0,.str [],lv,av] 301 true false 0):=by rw[<-bg];exact bd _
       obtain⟨H6,fZ⟩:∃H6,H5.push (.row [iN 3,iN 0,iN (e'.count-k),.slice H4.next 0 1 (some 1) 5,.ao] 341 true false 0)=H6:=⟨_,rfl⟩;have nQ:Ext H5 H6:=by rw[<-fZ];exact(Ext.refl H5).push _
       have xB:H6.next=H5.next+1:=by rw[<-fZ];rfl
       have ie:H6.get H5.next=some (.row [iN 3,iN 0,iN (e'.count-k),.slice H4.next 0 1 (some 1) 5,.ao] 341 true false 0):=by rw[<-fZ];exact bd _
       have wY:=mX.trans nQ;have FD:=(nQ.2 H4.next om).trans dw;obtain⟨v1,Ha,v2,Hb,fF,gI,xd,oX,eU⟩:=Jw (s2.aQ.ax wY).Dm (EG s3) om rfl rfl ie om 341 72 om;have kF:∀{G:ag},Ext H4 G->G.get pb=some (.row [sv] 344 true false 0):=fun hE=>(hE.2 _ s4).trans s1
       have u4:aq (H4.get pb) 0 1=some [sv]:=by rw[s1];rfl
       have u6:aq (H6.get pb) 0 1=some [sv]:=by rw[kF wY];rfl
       have ua:aq (Ha.get pb) 0 1=some [sv]:=by rw[kF (wY.trans xd)];rfl
       have ub:aq (Hb.get pb) 0 1=some [sv]:=by rw[kF (wY.trans oX)];rfl
       have aD:=gY (o:=0) (kF (wY.trans oX)) eU.aQ.one (by simp) (Nat.le_refl _);obtain⟨Hc,sn⟩:∃Hc,Hb.put pb (.row [v2] 344 true false 0)=Hc:=⟨_,rfl⟩;have lI:c7 1 (.ptr pb 0) [v2] Hb=some Hc:=by rw[aD,<-sn];rfl
       have jU:cf pb H4 Hc:=by rw[<-sn];exact(wY.trans oX).cq.put _
       have sF:Hc.get pb=some (.row [v2] 344 true false 0):=by rw[<-sn];exact bT _ _
       have oZ:cf pb Hb Hc:=by rw[<-sn];exact(cf.refl pb Hb).put _
       have Vy:cf pb H6 Hc:=oX.cq.trans oZ;have xb:EK pb Hc [iN 3,iN 0,iN (e'.count-k),.slice H4.next 0 1 (some 1) 5,.ao] {e' with count:=e'.count-k,list:=[⟨false,List.replicate k 123++aL e'.list++bN e'.args++List.replicate k 125⟩],args:=[]}:=by
        refine⟨0,_,_,?_,fun h=>?_,⟨[[iN (k+2),iN 0,.str [],lv,av]],⟨fun y hy=>by rw[List.mem_singleton.1 hy];rfl,.inr ⟨H4.next,some 1,301,true,false,0,rfl,(fun q h=>by cases h;rfl),by omega,by have:=Vy.1;omega,?_⟩⟩,?_,trivial⟩,AK.nil⟩
        ·show _=[iN e'.kind,iN 0,iN (e'.count-k),_,_];rw[gg];rfl
        ·have h:e'.kind=2:=h;omega
        ·exact(Vy.2 _ om om).trans FD
        ·exact kD.ax jU.1 fun b hb hn=>⟨hb,jU.2 b hn om⟩
       have fy:PK pb Hc (jC m (e'::r')):=by
        rw[tR];exact⟨v2,sF,TK.push ((eU.mono om).cq oZ) (s3.imp fun _ _ h=>h.ax jU) xb,Nat.lt_of_lt_of_le s4 jU.1⟩
       have q6:aq (H6.get H7.next) 0 5=some [iN (k+2),iN 0,.str [],lv,av]:=by rw[wY.2 _ om];exact r8
       have qa:aq (Ha.get H7.next) 0 5=some [iN (k+2),iN 0,.str [],lv,av]:=by rw[xd.2 _ om];exact q6
       have qb:aq (Hb.get H7.next) 0 5=some [iN (k+2),iN 0,.str [],lv,av]:=by rw[oX.2 _ om];exact q6
       have qc:aq (Hc.get H7.next) 0 5=some [iN (k+2),iN 0,.str [],lv,av]:=by rw[oZ.2 _ (by have:=oX.1;omega) om];exact qb
       have tV:=eU.aQ.cells;have b1:bD lv lv=true:=by obtain⟨_,q,_⟩:=jg;exact q.aQ.bq
       have b2:bD av av=true:=by obtain⟨_,q,_⟩:=jY;exact q.aQ.bq
       have mq:bD (.agg [iN (k+2),iN 0,.str [],lv,av]) (.agg [iN (k+2),iN 0,.str [],lv,av])=true:=by
        obtain⟨_,⟨_,q1⟩,_⟩:=jg;obtain⟨_,⟨_,q2⟩,_⟩:=jY;rcases q1 with⟨_,rfl⟩|⟨b1,c1,e1,x1,r1,f1,rfl,_⟩<;>rcases q2 with⟨_,rfl⟩|⟨b2,c2,e2,x2,r2,f2,rfl,_⟩<;>simp[bD,eg,eF]<;>rfl
       have CE:SV.under H4.next lv=true:=by obtain⟨_,q,_⟩:=jg;exact q.aQ.under om
       have CF:SV.under H4.next av=true:=by obtain⟨_,q,_⟩:=jY;exact q.aQ.under om
       have rA:(SV.under H4.next (iN (k+2))&&(SV.under H4.next (iN 0)&&(SV.under H4.next (.str [])&&(SV.under H4.next lv&&SV.under H4.next av))))=true:=by rw[CE,CF];rfl
       have afB:(SV.under H5.next (iN 3)&&(SV.under H5.next (iN 0)&&(SV.under H5.next (iN (e'.count-k))&&(SV.under H5.next (.slice H4.next 0 1 (some 1) 5)&&SV.under H5.next .ao))))=true:=by
        have:SV.under H5.next (.slice H4.next 0 1 (some 1) 5)=true:=qB om;rw[this];rfl
       have l6:=FD;have la:=(xd.2 H4.next om).trans FD;have lb:=(oX.2 H4.next om).trans FD;have lc:=(oZ.2 H4.next (by have:=oX.1;omega) om).trans lb;have ma:=(xd.2 H5.next om).trans ie;have mb:=(oX.2 H5.next om).trans ie;have mc:=(oZ.2 H5.next (by have:=oX.1;omega) om).trans mb;refine af (An @r3 (An @r4 (An @c1 (An @c2 (An @jx (An @kK (An @Oc (An @eV @d7)))))))) ?_;refine ar ae ?_;refine af ae ?_;refine wh ?_;refine xo (An @u4 (An @r8 (An @bg @fZ))) ?_;simp only[oK,List.map_cons,List.map_nil];refine af (An @u6 (An @fF (An @qa (An @gI (An @tV @lI))))) ?_;refine dB ?_ ?_
       ·exact dh (An @u6 (An @ua (An @ub (An @q6 (An @qa (An @qb (An @qc (An @l6 (An @la (An @lb (An @lc (An @ie (An @ma (An @mb (An @mc (An @rA (An @afB (An @ng @mq))))))))))))))))))
       ·refine af ae ?_;refine aT (m-k) om ⟨rfl,_,tf,by omega,bE,bO,fy,M7.trans jU,aw⟩
      ·have d7:decide (((e'.count-k:Nat):Int)>=((2:Nat):Int))=false:=df;rw[if_neg o7]at tR;by_cases h1:e'.count-k=1
       ·have d8:decide (((e'.count-k:Nat):Int)=((1:Nat):Int))=true:=dt;rw[if_pos h1]at tR;obtain⟨H5,q9,jJ,jT⟩:=nF (lf:=lf) (n:=n) (s:=[123]) qT fb (by simp only[List.length_cons,List.length_nil];omega) om om;obtain⟨t1,t2,t3⟩:=gO [123] qT;have adN:Nd (fun b=>pb<b) H5 _ _:=kD.ax jT.1 fun b hb hn=>⟨hb,jT.2 b hn om⟩
        obtain⟨H6,uc,fv,gX⟩:=ye (lf:=lf) (n:=n) t1.ne jJ (.inl adN) (by rw[t3,List.length_append,kf];simp only[List.length_cons,List.length_nil];omega) om om;have r8':aq (H5.get H7.next) 0 5=some [iN (k+2),iN 0,.str [],lv,av]:=by rw[jT.2 _ om om];exact r8
        rw[<-tR]at fv;refine af (An @r3 (An @r4 (An @c1 (An @c2 (An @jx (An @kK (An @Oc (An @eV @d7)))))))) ?_;refine ah ae ?_;refine af @d8 ?_;refine ar ae ?_;refine af ae ?_;refine ai ae q9 ?_;refine af @r8' ?_;refine ai ae uc ?_;refine af ae ?_;refine aT (m-k) om ⟨rfl,_,tf,by omega,bE,bO,fv,M7.trans (jT.trans gX),aw⟩
       ·have d8:decide (((e'.count-k:Nat):Int)=((1:Nat):Int))=false:=df;rw[if_neg h1]at tR;obtain⟨H6,uc,fv,gX⟩:=ye (lf:=lf) (n:=n) qT.ne fb (.inl kD) (by rw[kf];omega) om om;rw[<-tR]at fv;refine af (An @r3 (An @r4 (An @c1 (An @c2 (An @jx (An @kK (An @Oc (An @eV @d7)))))))) ?_;refine ah ae ?_;refine af @d8 ?_;refine ah ae ?_;refine af @r8 ?_;refine ai ae uc ?_;refine af ae ?_;refine aT (m-k) om ⟨rfl,_,tf,by omega,bE,bO,fv,M7.trans gX,aw⟩
   ·have dm:decide (((m:Nat):Int)>=((2:Nat):Int))=false:=df;have b8:eL (m+1) m eQ=bI (List.replicate m 125) eQ:=by
     conv=>lhs;unfold eL
     rw[if_neg aH]
    refine af @dm ?_;refine ah ae ?_;refine af ae ?_;refine ai ae ic ?_;refine af ae ?_;refine ai ae Uq ?_;refine af ae ?_;refine cF bQ ?_;exact(⟨rfl,by rw[<-heq,b8];exact TM,hx.trans xJ⟩)
  ·exact⟨rfl,st,hS,hl,hb,rfl,h,cf.refl _ _,aw⟩
 obtain⟨w,H',h,rfl,h1,h2⟩:=key;exact⟨_,h,h1,h2⟩
end
end
end Go.Sh
