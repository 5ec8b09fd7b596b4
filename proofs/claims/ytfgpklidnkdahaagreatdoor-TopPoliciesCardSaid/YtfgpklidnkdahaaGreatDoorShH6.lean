/-
  The reference parser gives the nodes of the plain law. No conditions beyond those that stand in the theorems.
-/
import Derived.Test.YtfgpklidnkdahaaGreatDoorShH5
set_option linter.all false
set_option maxHeartbeats 20000000
set_option maxRecDepth 10000
namespace Go.Sh
section
attribute [local irreducible] HD fC evalOp
theorem ab1 {H:ag} {v:SV} {z:Nat} {L:List (List SV)} {x:List SV} (h:br H v z L) (bV:L.flatten.all SV.one=true) (hl:L.length<999999) (hx:x.length=z) (hx1:x.all SV.one=true) (e ty bytes:Nat) (hb:bytes<=1000):
 ∃v1 H2 H3 v2 H4,fu H false e z bytes .ao v=some (v1,H2)/\Ext H H2/\H2.push (.row x ty true false 0)=H3/\fu H3 false e z bytes v1 (.slice H2.next 0 1 (some 1) z)=some (v2,H4)/\Ext H H4/\RB H.next H4 v2 z (L++[x]):=by
 obtain⟨v1,H2,ha,aF,hS⟩:=yK h bV om e bytes hb;obtain⟨H3,ch⟩:∃H3,H2.push (.row x ty true false 0)=H3:=⟨_,rfl⟩;have dJ:Ext H2 H3:=by rw[<-ch];exact(Ext.refl H2).push _
 have dA:H3.get H2.next=some (.row x ty true false 0):=by rw[<-ch];exact bd _
 have Lp:Sl H.next e z H3 v1 L:=hS.kp dJ.1 fun b _ hb=>dJ.2 b hb
 have aS:=aF.trans dJ;obtain⟨v2,H4,gI,lC,nY,Ck⟩:=wt Lp h.1 hx hx1 dA aS.1 om bytes hb;exact⟨v1,H2,H3,v2,H4,ha,aF,ch,gI,⟨Nat.le_trans aS.1 nY,fun b hb=>(Ck b hb).trans (aS.2 b hb)⟩,lC.rb (Nat.le_refl _) (h.1.snoc hx)⟩
section
variable {lf n:Nat} {H:ag}
theorem ajW {pb:Nat} {s:List Nat} {t:Tok} {st:List AE} (h:PK pb H st) (aD:bC st) (hr:st.length<=21) (h1:t.2.1<t.2.2) (h2:t.2.2<=s.length) (hg:pB t.1 (cB s t)) (hb:(aU st).length+(cB s t).length<=70000) (hn:8<=n) (aC:600000<lf):
 ∃H',aj ak lf n 255 [.ptr pb 0,.str s,.agg (cr t)] H=some (.aJ [],H')/\PK pb H' (jV st t.1 (cB s t))/\cf pb H H':=by
 obtain⟨n,rfl⟩:=aN (n:=n);have key:∃w H',aj ak lf (n+1) 255 [.ptr pb 0,.str s,.agg (cr t)] H=some (w,H')/\w=.aJ []/\PK pb H' (jV st t.1 (cB s t))/\cf pb H H':=by
  obtain⟨H1,ay⟩:∃H1,H.push (.row (cr t) 294 true false 0)=H1:=⟨_,rfl⟩;have aB:Ext H H1:=by rw[<-ay];exact(Ext.refl H).push _
  have ni:H1.get H.next=some (.row (cr t) 294 true false 0):=by rw[<-ay];exact bd _
  have r3:aq (H1.get H.next) 0 3=some (cr t):=by rw[ni];rfl
  have bn:(SV.agg (cr t)).cells=cr t:=rfl;obtain⟨H2,aH,aF⟩:=Ia (lf:=lf) (n:=n) (H:=H1) YC (Nat.le_of_lt h1) h2 om;have cG:=aB.trans aF;have r0:aq (H2.get H.next) 0 1=some [iN t.1]:=by rw[aF.2 _ (by rw[<-ay];exact Nat.lt_succ_self _),ni];rfl
  have vP:aq (H2.get H.next) 0 3=some (cr t):=by rw[aF.2 _ (by rw[<-ay];exact Nat.lt_succ_self _)];exact r3
  have hP:=h.ext cG;have hx1:cf pb H H2:=cG.cq;have hp:=hP.lt;have lK:cB s t≠[]:=by
   intro e;have:=congrArg List.length e;simp only[cB,List.length_take,List.length_drop,List.length_nil]at this;omega
  have ru:∀g:Nat,(g=1\/g=2\/g=3)->(t.1=11/\cB s t=bR g)\/(t.1=12/\cB s t=bS g)->∃H',aj ak lf n 330 [.str s,.agg (cr t)] H2=some (iN g,H')/\Ext H2 H':=fun g hg hk=>ajV hg (Nat.le_of_lt h1) h2 hk om om
  obtain⟨x,hx⟩:∃x,cB s t=x:=⟨_,rfl⟩;rw[hx]at aH hg hb lK ru ⊢;obtain⟨k,hk⟩:∃k,t.1=k:=⟨_,rfl⟩;rw[hk]at r0 hg ru ⊢;generalize cr t=tc at ay ni r3 bn aH vP ru;have L8:k=1\/k=2\/k=3\/k=4\/k=5\/k=6\/k=7\/k=8\/k=9\/k=10\/k=11\/k=12:=by
   unfold pB at hg;split at hg<;>first|omega|exact hg.elim
  rcases L8 with rfl|rfl|rfl|rfl|rfl|rfl|rfl|rfl|rfl|rfl|rfl|rfl
  ·have dF:∀j:Nat,j≠1->decide (((1:Nat):Int)=((j:Nat):Int))=false:=fun j hj=>by simp only[decide_eq_false_iff_not];omega
   have dT:decide (((1:Nat):Int)=((1:Nat):Int))=true:=by decide
   obtain⟨H3,hj,ct,gi⟩:=nF (lf:=lf) (n:=n) (s:=x) aD hP om om om;refine cx lU.1 ?_;refine af (An @bn (An @ay @r3)) ?_;refine ai ae aH ?_;refine af (An @r0 @dF) ?_;refine ah ae ?_;refine af @dF ?_;refine ah ae ?_;refine af @dF ?_;refine ah ae ?_;refine af @dF ?_;refine ah ae ?_;refine af @dF ?_;refine ah ae ?_;refine af @dF ?_;refine ah ae ?_;refine af @dF ?_;refine ah ae ?_;refine af @dF ?_;refine ah ae ?_;refine af @dF ?_;refine ah ae ?_;refine af @dF ?_;refine ah ae ?_;refine af ae ?_;refine ai ae hj ?_;refine af ae ?_;refine cF bQ ?_;exact(⟨rfl,ct,hx1.trans gi⟩)
  ·have dF:∀j:Nat,j≠2->decide (((2:Nat):Int)=((j:Nat):Int))=false:=fun j hj=>by simp only[decide_eq_false_iff_not];omega
   have dT:decide (((2:Nat):Int)=((2:Nat):Int))=true:=by decide
   obtain⟨H3,hj,ct,gi⟩:=nF (lf:=lf) (n:=n) (s:=x) aD hP om om om;refine cx lU.1 ?_;refine af (An @bn (An @ay @r3)) ?_;refine ai ae aH ?_;refine af (An @r0 @dF) ?_;refine ah ae ?_;refine af @dF ?_;refine ah ae ?_;refine af @dF ?_;refine ah ae ?_;refine af @dF ?_;refine ah ae ?_;refine af @dF ?_;refine ah ae ?_;refine af @dF ?_;refine ah ae ?_;refine af @dF ?_;refine ah ae ?_;refine af @dF ?_;refine ah ae ?_;refine af @dF ?_;refine ah ae ?_;refine af @dF ?_;refine ah ae ?_;refine af ae ?_;refine ai ae hj ?_;refine af ae ?_;refine cF bQ ?_;exact(⟨rfl,ct,hx1.trans gi⟩)
  ·have dF:∀j:Nat,j≠3->decide (((3:Nat):Int)=((j:Nat):Int))=false:=fun j hj=>by simp only[decide_eq_false_iff_not];omega
   have dT:decide (((3:Nat):Int)=((3:Nat):Int))=true:=by decide
   have xb:EK pb H2 [iN 3,iN 0,iN x.length,.ao,.ao] ⟨3,0,x.length,[],[]⟩:=⟨_,_,_,rfl,fun _=>rfl,NK.nil,AK.nil⟩;obtain⟨H3,hj,ct,gi⟩:=Oo (lf:=lf) (n:=n) (x:=x) aD hP xb om om om;refine cx lU.1 ?_;refine af (An @bn (An @ay @r3)) ?_;refine ai ae aH ?_;refine af (An @r0 @dF) ?_;refine ah ae ?_;refine af @dF ?_;refine ah ae ?_;refine af @dT ?_;refine ar ae ?_;refine af ae ?_;refine ai ae hj ?_;refine af ae ?_;refine cF bQ ?_;exact(⟨rfl,ct,hx1.trans gi⟩)
  ·have dF:∀j:Nat,j≠4->decide (((4:Nat):Int)=((j:Nat):Int))=false:=fun j hj=>by simp only[decide_eq_false_iff_not];omega
   have dT:decide (((4:Nat):Int)=((4:Nat):Int))=true:=by decide
   obtain⟨H3,hj,ct,gi⟩:=ajh (lf:=lf) (n:=n) (c:=x.length) aD hP om om om aC;refine cx lU.1 ?_;refine af (An @bn (An @ay @r3)) ?_;refine ai ae aH ?_;refine af (An @r0 @dF) ?_;refine ah ae ?_;refine af @dF ?_;refine ah ae ?_;refine af @dF ?_;refine ah ae ?_;refine af @dF ?_;refine ah ae ?_;refine af @dF ?_;refine ah ae ?_;refine af @dF ?_;refine ah ae ?_;refine af @dF ?_;refine ah ae ?_;refine af @dF ?_;refine ah ae ?_;refine af @dF ?_;refine ah ae ?_;refine af @dT ?_;refine ar ae ?_;refine af ae ?_;refine ai ae hj ?_;refine af ae ?_;refine cF bQ ?_;exact(⟨rfl,ct,hx1.trans gi⟩)
  ·have dF:∀j:Nat,j≠5->decide (((5:Nat):Int)=((j:Nat):Int))=false:=fun j hj=>by simp only[decide_eq_false_iff_not];omega
   have dT:decide (((5:Nat):Int)=((5:Nat):Int))=true:=by decide
   have xb:EK pb H2 [iN 1,iN 0,iN 0,.ao,.ao] ⟨1,0,0,[],[]⟩:=⟨_,_,_,rfl,fun _=>rfl,NK.nil,AK.nil⟩;obtain⟨H3,hj,ct,gi⟩:=Oo (lf:=lf) (n:=n) (x:=x) aD hP xb om om om;refine cx lU.1 ?_;refine af (An @bn (An @ay @r3)) ?_;refine ai ae aH ?_;refine af (An @r0 @dF) ?_;refine ah ae ?_;refine af @dF ?_;refine ah ae ?_;refine af @dF ?_;refine ah ae ?_;refine af @dT ?_;refine ar ae ?_;refine af ae ?_;refine ai ae hj ?_;refine af ae ?_;refine cF bQ ?_;exact(⟨rfl,ct,hx1.trans gi⟩)
  ·have dF:∀j:Nat,j≠6->decide (((6:Nat):Int)=((j:Nat):Int))=false:=fun j hj=>by simp only[decide_eq_false_iff_not];omega
   have dT:decide (((6:Nat):Int)=((6:Nat):Int))=true:=by decide
   match st,aD,hP,hb,hr with
   |e::r,aD,hP,hb,hr=>
   rw[List.length_cons]at hr;obtain⟨c0,H3,jN,gJ,dJ⟩:=yf (lf:=lf) (n:=n) hP (Ext.refl H2) om om;obtain⟨tg0,lv0,av0,rfl,_,_,_⟩:=id gJ;have ct:=hP.ext dJ;have gi:=hx1.trans dJ.cq;by_cases eW:e.kind=1
   ·have d1:decide (((e.kind:Nat):Int)≠((1:Nat):Int))=false:=by rw[eW];decide
    have aP:r≠[]:=fun e1=>by
     subst e1;have:e.kind=0:=aD.1;omega
    have b8:jV (e::r) 6 x=bI [93,93] (dj e.list (bI [91,91] r)):=if_pos eW;have qT:=aD.tail aP;obtain⟨c1,H4,kH,Ue,fb,rB⟩:=G6 (lf:=lf) (n:=n) ct om om;have bV:=Ue.one;obtain⟨tg,lv,av,rfl,jR,jg,jY⟩:=id Ue;obtain⟨H5,iH,mX,iG,dw⟩:=iw (H:=H4) (zs:=[iN 0,iN 0,iN 0,.ao,.ao]) (ty:=341) (z:=5) rfl (cs:=[iN e.kind,iN tg,iN e.count,lv,av]) rfl bV;have uf:=fb.lt;have jJ:=fb.ext mX;simp only[aU,List.length_append]at hb;obtain⟨H6,uc,fv,gX⟩:=nF (lf:=lf) (n:=n) (s:=[91,91]) qT jJ (by simp only[List.length_cons,List.length_nil];omega) om om;obtain⟨t1,t2,t3⟩:=gO [91,91] qT;have l3:(aU (bI [91,91] r)).length=(aU r).length+2:=by rw[t3,List.length_append];rfl
    obtain⟨H7,Cb,gR,M9⟩:=Dc (lf:=lf) (n:=n) t1 fv ((jg.ax mX.cq).ax gX) om om om aC;obtain⟨u1,u2,u3⟩:=mP (l:=e.list) t1;have l4:(aU (dj e.list (bI [91,91] r))).length=(aU r).length+2+(aL e.list).length:=by rw[u3,List.length_append,l3]
    obtain⟨H8,hj8,nc,hx8⟩:=nF (lf:=lf) (n:=n) (s:=[93,93]) u1 gR (by simp only[List.length_cons,List.length_nil];omega) om om;have q3:aq (H6.get H4.next) 3 1=some [lv]:=by rw[gX.2 _ om om,dw];rfl
    refine cx lU.1 ?_;refine af (An @bn (An @ay @r3)) ?_;refine ai ae aH ?_;refine af (An @r0 @dF) ?_;refine ah ae ?_;refine af @dF ?_;refine ah ae ?_;refine af @dF ?_;refine ah ae ?_;refine af @dF ?_;refine ah ae ?_;refine af @dF ?_;refine ah ae ?_;refine af @dF ?_;refine ah ae ?_;refine af @dF ?_;refine ah ae ?_;refine af @dT ?_;refine ar ae ?_;refine af ae ?_;refine ai ae jN ?_;refine af @d1 ?_;refine ah ae ?_;refine af ae ?_;refine ai ae kH ?_;refine af @iH ?_;refine ai ae uc ?_;refine af @q3 ?_;refine ai ae Cb ?_;refine af ae ?_;refine ai ae hj8 ?_;refine af ae ?_;refine cF bQ ?_;exact(⟨rfl,by rw[b8];exact nc,gi.trans (rB.trans (mX.cq.trans (gX.trans (M9.trans hx8))))⟩)
   ·have d1:decide (((e.kind:Nat):Int)≠((1:Nat):Int))=true:=dt;have b8:jV (e::r) 6 x=bI [93,93] (e::r):=if_neg eW;have hx:x=[93,93]:=hg;obtain⟨H4,hj,fb,rB⟩:=nF (lf:=lf) (n:=n) (s:=x) aD ct om (by simp only[List.length_cons];omega) om;refine cx lU.1 ?_;refine af (An @bn (An @ay @r3)) ?_;refine ai ae aH ?_;refine af (An @r0 @dF) ?_;refine ah ae ?_;refine af @dF ?_;refine ah ae ?_;refine af @dF ?_;refine ah ae ?_;refine af @dF ?_;refine ah ae ?_;refine af @dF ?_;refine ah ae ?_;refine af @dF ?_;refine ah ae ?_;refine af @dF ?_;refine ah ae ?_;refine af @dT ?_;refine ar ae ?_;refine af ae ?_;refine ai ae jN ?_;refine af @d1 ?_;refine ar ae ?_;refine af ae ?_;refine ai ae hj ?_;refine af ae ?_;refine gQ bQ ?_;exact(⟨rfl,by rw[b8,<-hx];exact fb,gi.trans rB⟩)
  ·have dF:∀j:Nat,j≠7->decide (((7:Nat):Int)=((j:Nat):Int))=false:=fun j hj=>by simp only[decide_eq_false_iff_not];omega
   have dT:decide (((7:Nat):Int)=((7:Nat):Int))=true:=by decide
   match st,aD,hP,hb,hr with
   |e::r,aD,hP,hb,hr=>
   rw[List.length_cons]at hr;obtain⟨c0,H3,jN,gJ,dJ⟩:=yf (lf:=lf) (n:=n) hP (Ext.refl H2) om om;have bV:=gJ.one;obtain⟨tg,lv,av,rfl,jR,jg,jY⟩:=id gJ;obtain⟨H4,jx,js,nY,ji⟩:=iw (H:=H3) (zs:=[iN 0,iN 0,iN 0,.ao,.ao]) (ty:=341) (z:=5) rfl (cs:=[iN e.kind,iN tg,iN e.count,lv,av]) rfl bV;have qO:=dJ.trans js;have fb:=hP.ext qO;have rB:=hx1.trans qO.cq;have hq3:=dJ.1;have q0:aq (H4.get H3.next) 0 1=some [iN e.kind]:=by rw[ji];rfl
   have q4:aq (H4.get H3.next) 4 1=some [av]:=by rw[ji];rfl
   by_cases eW:e.kind=3
   ·have d1:decide (((e.kind:Nat):Int)=((3:Nat):Int))=true:=by rw[eW];decide
    have b8:jV (e::r) 7 x={e with args:=e.args++[(false,[],[])]}::r:=if_pos eW;obtain⟨D,q1,q2⟩:=id jY;have q2:bG (AC pb H2) D e.args:=q2;have wU:=q2.len;have fP:=qz e.args;simp only[aU,List.length_append]at hb;obtain⟨v1,H5,H6,v2,H7,fF,mX,fZ,gI,Tq,eU⟩:=ab1 (x:=[.bool false,.ao,.ao]) (q1.aQ.ax qO) (Jq q2) om rfl rfl 331 331 56 om;have Gg:=eU.aQ.one;have Vs:=eU.aQ.cells;have gU:=(Tq.2 H3.next om).trans ji;have rm:=gY (o:=4) gU Gg (by simp) (Nat.zero_le _);obtain⟨H8,pS⟩:∃H8,H7.put H3.next (.row [iN e.kind,iN tg,iN e.count,lv,v2] 341 true false 0)=H8:=⟨_,rfl⟩;have afo:c7 1 (.ptr H3.next 4) [v2] H7=some H8:=by rw[rm,<-pS];rfl
    have dV:=qO.trans Tq;have mf:Ext H2 H8:=by rw[<-pS];exact dV.put om _
    have adR:RB (pb+1) H8 v2 3 (D++[[.bool false,.ao,.ao]]):=by
     refine(eU.ax (k:=H3.next) (p:=H3.next) om (.inl om) ⟨by rw[<-pS];exact Nat.le_refl _,fun b _ q _=>by rw[<-pS,cI q]⟩).mono om
    have adz:AK pb H8 v2 (e.args++[(false,[],[])]):=⟨_,adR,(q2.imp fun _ _ h=>h.ax mf.cq).snoc ⟨.ao,.ao,rfl,NK.nil,NK.nil⟩⟩;obtain⟨H9,vp,xf,adI⟩:=G4 (lf:=lf) (n:=n) (c:=[iN e.kind,iN tg,iN e.count,lv,v2]) (e':={e with args:=e.args++[(false,[],[])]}) (hP.ext mf) ⟨tg,lv,v2,rfl,jR,jg.ax mf.cq,adz⟩ om om;have rr:aq (H8.get H3.next) 0 5=some [iN e.kind,iN tg,iN e.count,lv,v2]:=by rw[<-pS,bT];rfl
    refine cx lU.1 ?_;refine af (An @bn (An @ay @r3)) ?_;refine ai ae aH ?_;refine af (An @r0 @dF) ?_;refine ah ae ?_;refine af @dF ?_;refine ah ae ?_;refine af @dF ?_;refine ah ae ?_;refine af @dF ?_;refine ah ae ?_;refine af @dF ?_;refine ah ae ?_;refine af @dT ?_;refine ar ae ?_;refine af ae ?_;refine ai ae jN ?_;refine af (An @jx (An @q0 @d1)) ?_;refine ar ae ?_;refine af (An @q4 (An @fF (An @fZ (An @gI (An @Vs (An @afo @rr)))))) ?_;refine ai ae vp ?_;refine af ae ?_;refine gQ bQ ?_;exact(⟨rfl,by rw[b8];exact xf,hx1.trans (mf.cq.trans adI)⟩)
   ·have d1:decide (((e.kind:Nat):Int)=((3:Nat):Int))=false:=df;have b8:jV (e::r) 7 x=bI [124] (e::r):=if_neg eW;have hx:x=[124]:=hg;obtain⟨H5,hj,jJ,jT⟩:=nF (lf:=lf) (n:=n) (s:=x) aD fb om (by simp only[List.length_cons];omega) om;refine cx lU.1 ?_;refine af (An @bn (An @ay @r3)) ?_;refine ai ae aH ?_;refine af (An @r0 @dF) ?_;refine ah ae ?_;refine af @dF ?_;refine ah ae ?_;refine af @dF ?_;refine ah ae ?_;refine af @dF ?_;refine ah ae ?_;refine af @dF ?_;refine ah ae ?_;refine af @dT ?_;refine ar ae ?_;refine af ae ?_;refine ai ae jN ?_;refine af (An @jx (An @q0 @d1)) ?_;refine ah ae ?_;refine af ae ?_;refine ai ae hj ?_;refine af ae ?_;refine cF bQ ?_;exact(⟨rfl,by rw[b8,<-hx];exact jJ,rB.trans jT⟩)
  ·have dF:∀j:Nat,j≠8->decide (((8:Nat):Int)=((j:Nat):Int))=false:=fun j hj=>by simp only[decide_eq_false_iff_not];omega
   have dT:decide (((8:Nat):Int)=((8:Nat):Int))=true:=by decide
   have hx:x.length=1:=by rw[show x=[61]from hg];rfl
   obtain⟨H3,hj,ct,gi⟩:=ajn (lf:=lf) (n:=n) aD hP om om om;refine cx lU.1 ?_;refine af (An @bn (An @ay @r3)) ?_;refine ai ae aH ?_;refine af (An @r0 @dF) ?_;refine ah ae ?_;refine af @dF ?_;refine ah ae ?_;refine af @dF ?_;refine ah ae ?_;refine af @dF ?_;refine ah ae ?_;refine af @dF ?_;refine ah ae ?_;refine af @dF ?_;refine ah ae ?_;refine af @dT ?_;refine ar ae ?_;refine af ae ?_;refine ai ae hj ?_;refine af ae ?_;refine cF bQ ?_;exact(⟨rfl,ct,hx1.trans gi⟩)
  ·have dF:∀j:Nat,j≠9->decide (((9:Nat):Int)=((j:Nat):Int))=false:=fun j hj=>by simp only[decide_eq_false_iff_not];omega
   have dT:decide (((9:Nat):Int)=((9:Nat):Int))=true:=by decide
   obtain⟨H3,hj,ct,gi⟩:=ye (lf:=lf) (n:=n) aD.ne hP (.inl (Nd.comment x lK)) (by simp only[];omega) om om;refine cx lU.1 ?_;refine af (An @bn (An @ay @r3)) ?_;refine ai ae aH ?_;refine af (An @r0 @dT) ?_;refine ar ae ?_;refine af ae ?_;refine ai ae hj ?_;refine af ae ?_;refine cF bQ ?_;exact(⟨rfl,ct,hx1.trans gi⟩)
  ·have dF:∀j:Nat,j≠10->decide (((10:Nat):Int)=((j:Nat):Int))=false:=fun j hj=>by simp only[decide_eq_false_iff_not];omega
   have dT:decide (((10:Nat):Int)=((10:Nat):Int))=true:=by decide
   obtain⟨y,hy⟩:=hg;have hl:x.length=y.length+17:=by rw[hy];simp[eB,gB]<;>omega
   have e1:((x.length:Nat):Int)-((9:Nat):Int)=((y.length+8:Nat):Int):=om;have bE:(x.drop 8).take (y.length+8-8)=y:=by rw[hy,Nat.add_sub_cancel];simp[eB,gB]
   obtain⟨H3,hj,ct,gi⟩:=ye (lf:=lf) (n:=n) aD.ne hP (.inl (Nd.sR y)) (by rw[<-hy];simp only[];omega) om om;rw[<-hy]at ct;refine cx lU.1 ?_;refine af (An @bn (An @ay @r3)) ?_;refine ai ae aH ?_;refine af (An @r0 @dF) ?_;refine ah ae ?_;refine af @dT ?_;refine ar ae ?_;refine af (An @bE @e1) ?_;refine ai ae hj ?_;refine af ae ?_;refine cF bQ ?_;exact(⟨rfl,ct,hx1.trans gi⟩)
  ·have dF:∀j:Nat,j≠11->decide (((11:Nat):Int)=((j:Nat):Int))=false:=fun j hj=>by simp only[decide_eq_false_iff_not];omega
   have dT:decide (((11:Nat):Int)=((11:Nat):Int))=true:=by decide
   obtain⟨g,nS,rC⟩:=hg;obtain⟨H5,eP,bm⟩:=ru g nS (.inl ⟨rfl,rC⟩);have MT:qv bR x=g:=by rw[rC];exact HT nS
   have xb:EK pb H5 [iN 2,iN g,iN 0,.ao,.ao] ⟨2,g,0,[],[]⟩:=⟨_,_,_,rfl,fun _=>rfl,NK.nil,AK.nil⟩;obtain⟨H3,hj,ct,gi⟩:=Oo (lf:=lf) (n:=n) (x:=x) aD (hP.ext bm) xb om om om;refine cx lU.1 ?_;refine af (An @bn (An @ay @r3)) ?_;refine ai ae aH ?_;refine af (An @r0 @dF) ?_;refine ah ae ?_;refine af @dF ?_;refine ah ae ?_;refine af @dF ?_;refine ah ae ?_;refine af @dF ?_;refine ah ae ?_;refine af @dT ?_;refine ar ae ?_;refine af @vP ?_;refine ai ae eP ?_;refine af ae ?_;refine ai ae hj ?_;refine af ae ?_;refine cF bQ ?_;exact(⟨rfl,by rw[<-MT]at ct;exact ct,hx1.trans (bm.cq.trans gi)⟩)
  ·have dF:∀j:Nat,j≠12->decide (((12:Nat):Int)=((j:Nat):Int))=false:=fun j hj=>by simp only[decide_eq_false_iff_not];omega
   have dT:decide (((12:Nat):Int)=((12:Nat):Int))=true:=by decide
   obtain⟨g,nS,rC⟩:=hg;obtain⟨H5,eP,bm⟩:=ru g nS (.inr ⟨rfl,rC⟩);have ph:qv bS x=g:=by rw[rC];exact OT nS
   have jJ:=hP.ext bm;have jT:=hx1.trans bm.cq;have hlt:=ajx (lf:=lf) (n:=n) (k:=g) jJ aD om om om;cases hT:km g st with
   |none=>
    have dp:vz g st=0:=by unfold vz;rw[hT]
    rw[dp]at hlt;have kX:decide (((0:Nat):Int)=((0:Nat):Int))=true:=by decide
    have b8:jV st 12 x=bI x st:=by
     show kT (qv bS x) x st=_;rw[ph];unfold kT;rw[hT]
    obtain⟨H6,hj,fv,gX⟩:=nF (lf:=lf) (n:=n) (s:=x) aD jJ om om om;refine cx lU.1 ?_;refine af (An @bn (An @ay @r3)) ?_;refine ai ae aH ?_;refine af (An @r0 @dF) ?_;refine ah ae ?_;refine af @dF ?_;refine ah ae ?_;refine af @dF ?_;refine ah ae ?_;refine af @dF ?_;refine ah ae ?_;refine af @dF ?_;refine ah ae ?_;refine af @dF ?_;refine ah ae ?_;refine af @dF ?_;refine ah ae ?_;refine af @dF ?_;refine ah ae ?_;refine af @dT ?_;refine ar ae ?_;refine af @vP ?_;refine ai ae eP ?_;refine af ae ?_;refine ai ae hlt ?_;refine af @kX ?_;refine ar ae ?_;refine af ae ?_;refine ai ae hj ?_;refine af ae ?_;refine gQ bQ ?_;exact(⟨rfl,by rw[b8];exact fv,jT.trans gX⟩)
   |some j=>
    obtain⟨e,nh,re,CC⟩:=Gv hT;obtain⟨e',r',f1,f2,f3,f4,f5,f6,f7,f8⟩:=tz aD nh om;obtain⟨a,ha⟩:∃a,a=st.length-1-j:=⟨_,rfl⟩;have dp:vz g st=a:=by unfold vz;rw[hT,ha]
    rw[dp]at hlt;have kI:=aD.last nh om;have FI:j+a+1=st.length:=om;have kX:decide (((a:Nat):Int)=((0:Nat):Int))=false:=df;have b8:jV st 12 x=fW ⟨false,bR g++aL e'.list++bS g⟩ r':=by
     show kT (qv bS x) x st=_;rw[ph];unfold kT;rw[hT];dsimp only;rw[f1];rfl
    obtain⟨H6,uc,fv,gX⟩:=Om (lf:=lf) (n:=n) jJ aD FI om om om aC;rw[f1]at fv;obtain⟨cc,H7,Cb,gJ,gR,M9⟩:=G6 (lf:=lf) (n:=n) fv om om;have bV:=gJ.one;obtain⟨tg,lv,av,rfl,jR,jg,jY⟩:=id gJ;obtain rfl:tg=g:=(jR (f3.trans re)).trans (f4.trans CC);obtain⟨H8,rm,tH,UH,Ui⟩:=iw (H:=H7) (zs:=[iN 0,iN 0,iN 0,.ao,.ao]) (ty:=341) (z:=5) rfl (cs:=[iN e'.kind,iN tg,iN e'.count,lv,av]) rfl bV;have q1:aq (H8.get H7.next) 1 1=some [iN tg]:=by rw[Ui];rfl
    have q3:aq (H8.get H7.next) 3 1=some [lv]:=by rw[Ui];rfl
    have hlc:=jg.no.cells;have qT:=f6.tail f2;have kD:Nd (fun b=>pb<b) H8 [iN 6,iN tg,.str [],lv,.ao] ⟨false,bR tg++aL e'.list++bS tg⟩:=NL.Wl nS (jg.ax tH.cq).nl;have Cz:(aU r').length+(aL e'.list).length<=(aU st).length:=by
     rw[<-f8];simp only[aU,List.length_append];omega
    have fU:=HX nS;obtain⟨H9,hj9,Fk,hx9⟩:=ye (lf:=lf) (n:=n) qT.ne (gR.ext tH) (.inl kD) (by simp only[List.length_append];omega) om om;refine cx lU.1 ?_;refine af (An @bn (An @ay @r3)) ?_;refine ai ae aH ?_;refine af (An @r0 @dF) ?_;refine ah ae ?_;refine af @dF ?_;refine ah ae ?_;refine af @dF ?_;refine ah ae ?_;refine af @dF ?_;refine ah ae ?_;refine af @dF ?_;refine ah ae ?_;refine af @dF ?_;refine ah ae ?_;refine af @dF ?_;refine ah ae ?_;refine af @dF ?_;refine ah ae ?_;refine af @dT ?_;refine ar ae ?_;refine af @vP ?_;refine ai ae eP ?_;refine af ae ?_;refine ai ae hlt ?_;refine af @kX ?_;refine ah ae ?_;refine af ae ?_;refine ai ae uc ?_;refine af ae ?_;refine ai ae Cb ?_;refine af (An @rm (An @q1 (An @q3 @hlc))) ?_;refine ai ae hj9 ?_;refine af ae ?_;refine cF bQ ?_;exact(⟨rfl,by rw[b8];exact Fk,jT.trans (gX.trans (M9.trans (tH.cq.trans hx9)))⟩)
 obtain⟨w,H',hc,rfl,k1,k2⟩:=key;exact⟨H',hc,k1,k2⟩
end
end
section
attribute [local irreducible] HD fC evalOp
theorem br.rq {H:ag} {v:SV} {z:Nat} {L:List (List SV)} (h:br H v z L) {pb:Nat} (hp:H.next<=pb):RQ pb H v z L:=by
 refine⟨h.1,?_⟩;rcases h.2 with h|⟨b,c,e,ex,ro,frz,h1,hc,h2,h3⟩
 ·exact .inl h
 ·exact .inr ⟨b,c,e,ex,ro,frz,h1,hc,by omega,h2,h3⟩
section
variable {lf n:Nat} {H:ag}
theorem ajP (aC:600000<lf):A5 lf:=by
 intro s n H hs hn;obtain⟨n,rfl⟩:=aN (n:=n);obtain⟨tv,H1,aV,aB,nR⟩:=ajR (lf:=lf) (n:=n) (H:=H) hs om aC;have d0:decide (((0:Nat):Int)≠((0:Nat):Int))=false:=by decide
 obtain⟨H2,aY⟩:∃H2,H1.push (.row [iN 0,iN 0,iN 0,.ao,.ao] 341 true false 0)=H2:=⟨_,rfl⟩;obtain⟨H3,ch⟩:∃H3,H2.push (.row [.slice H1.next 0 1 (some 1) 5] 344 true false 0)=H3:=⟨_,rfl⟩;have cG:Ext H1 H2:=by rw[<-aY];exact(Ext.refl H1).push _
 have dJ:Ext H2 H3:=by rw[<-ch];exact(Ext.refl H2).push _
 have dc:H2.next=H1.next+1:=by rw[<-aY];rfl
 have fo:H3.next=H2.next+1:=by rw[<-ch];rfl
 have g1:H3.get H1.next=some (.row [iN 0,iN 0,iN 0,.ao,.ao] 341 true false 0):=by rw[dJ.2 _ om,<-aY];exact bd _
 have g2:H3.get H2.next=some (.row [.slice H1.next 0 1 (some 1) 5] 344 true false 0):=by rw[<-ch];exact bd _
 have nP:=cG.trans dJ;have ct:PK H2.next H3 [root]:=by
  refine⟨_,g2,⟨[[iN 0,iN 0,iN 0,.ao,.ao]],⟨fun y hy=>by rw[List.mem_singleton.1 hy];rfl,.inr ⟨H1.next,some 1,_,_,_,_,rfl,(fun q h=>by cases h;rfl),by omega,by omega,g1⟩⟩,?_,trivial⟩,by omega⟩;exact⟨0,_,_,rfl,fun _=>rfl,NK.nil,AK.nil⟩
 have Fo:RQ H2.next H3 tv 3 (jn (cw s)):=(nR.rq om).ext nP;have fU:(cw s).length<=8192:=by
  have:=OB s (s.length+1) 0 0 (Nat.le_refl _) (Nat.zero_le _) om;unfold cw;omega
 have key:∃w H',aj ak lf (n+1) 187 [.str s] H=some (w,H')/\∃v,w=.aJ [v,iN 0]/\Ext H H'/\NS H' v (oD s):=by
  refine cx PH.1 ?_;refine af ae ?_;refine ai ae aV ?_;refine af @d0 ?_;refine ah ae ?_;refine af (An @aY @ch) ?_;refine bH (I:=fun m ts D H'=>D=[]/\∃i:Nat,m=(cw s).length-i/\i<=(cw s).length/\PK H2.next H' (kr s i)/\cf H2.next H3 H'/\∃z:Nat->SV,ts=((.str s)::zz z 1 3 ((tv)::z 5::(.ptr H2.next 0)::(.int .i64 (i:Int))::zz z 8 30 []):T)/\(True)) ?_ (cw s).length ?_ om
  ·rintro m ts D H' ⟨rfl,i,rfl,hi,hP,hx,⟨z,rfl, -⟩⟩;obtain⟨aD,bE,uq⟩:=OM s i;have tF:=HO s i;have hT:=Fo.cq hx;have aW:=hT.aQ.cA;rw[O1]at aW;by_cases bw:i<(cw s).length
   ·obtain⟨t,fQ⟩:∃t,(cw s)[i]? =some t:=⟨_,List.getElem?_eq_getElem bw⟩;have hg:=(Ib s).1 t (List.mem_of_getElem? fQ);have zm:(jn (cw s))[i]? =some (cr t):=by simp[jn,fQ]
    obtain⟨bb,oo,x1,_,x2,_⟩:=hT.aQ.at_ zm;have rh:=uq t fQ;obtain⟨H6,cP,fv,gX⟩:=ajW (lf:=lf) (n:=n) (s:=s) (t:=t) hP aD tF hg.1 hg.2.1 hg.2.2 om om aC;have xG:=OO fQ;have d1:decide (((i:Nat):Int)<(((cw s).length:Nat):Int))=true:=dt;have bn:(SV.agg (cr t)).cells=cr t:=rfl;generalize cr t=tc at x2 bn cP;refine af (An @aW @d1) ?_;refine ar ae ?_;refine af (An @x1 (An @x2 @bn)) ?_;refine ai ae cP ?_;refine af (c8 (k:=i) om) ?_;refine aT ((cw s).length-(i+1)) om ⟨rfl,i+1,rfl,by omega,by rw[xG];exact fv,hx.trans gX,aw⟩
   ·have bw:i=(cw s).length:=om;subst bw;have d1:decide ((((cw s).length:Nat):Int)<(((cw s).length:Nat):Int))=false:=by simp
    have sI:oD s=O3 (eS ((kr s (cw s).length).length-1) (kr s (cw s).length)):=by rw[Ym];rfl
    generalize kr s (cw s).length=st at hP aD bE tF sI;have aP:st.length≠0:=by have:=aD.ne;simpa using this
    obtain⟨H6,uc,fv,gX⟩:=Om (lf:=lf) (n:=n) (j:=st.length-1) (a:=0) hP aD om om om om aC;obtain⟨z1,z2,z3⟩:=uQ (j:=st.length-1) aD om;generalize eS (st.length-1) st=sf at fv z1 z2 z3 sI
    match sf,z1,z2,fv,sI with
    |e::r,z1,z2,fv,sI=>
     rw[List.length_cons]at z2;obtain⟨c,H7,Cb,gJ,Fc⟩:=yf (lf:=lf) (n:=n) fv (Ext.refl H6) om om;obtain⟨tg,lv,av,rfl,_,jg,_⟩:=gJ;have qe:=hx.trans (gX.trans Fc.cq);have hE:Ext H H7:=by
      refine⟨Nat.le_trans (Nat.le_trans aB.1 nP.1) qe.1,fun b hb=>?_⟩;have dn:b<H1.next:=Nat.lt_of_lt_of_le hb aB.1;rw[qe.2 b om om,nP.2 b dn,aB.2 b hb]
     have Lc:NS H7 lv (oD s):=by
      rw[sI];obtain⟨C,k1,k2⟩:=jg.ax Fc.cq;exact⟨C,k1.aQ,k2.imp fun _ _ h=>h.ax (Nat.le_refl _) fun _ _ _=>⟨trivial,rfl⟩⟩
     refine af (An @aW @d1) ?_;refine ah ae ?_;refine af ae ?_;refine ai ae uc ?_;refine af ae ?_;refine ai ae Cb ?_;refine af ae ?_;refine cD ae ?_;exact(⟨lv,rfl,hE,Lc⟩)
  ·exact⟨rfl,0,rfl,Nat.zero_le _,by rw[Yn];exact ct,cf.refl _ _,aw⟩
 obtain⟨w,H',hc,v,rfl,h1,h2⟩:=key;exact⟨v,H',hc,h1,h2⟩
end
end
end Go.Sh
