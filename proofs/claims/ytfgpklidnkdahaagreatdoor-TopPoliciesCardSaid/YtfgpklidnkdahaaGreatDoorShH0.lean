/-
  A group and a rule of a policy are read back. No conditions beyond those that stand in the theorems.
-/
import Derived.Test.YtfgpklidnkdahaaGreatDoorShE6
import Derived.Test.YtfgpklidnkdahaaGreatDoorShE7
import Derived.Test.YtfgpklidnkdahaaGreatDoorShE8
import Derived.Test.YtfgpklidnkdahaaGreatDoorShE9
import Derived.Test.YtfgpklidnkdahaaGreatDoorShH9
import Derived.Test.YtfgpklidnkdahaaGreatDoorShD5
set_option linter.all false
set_option maxHeartbeats 20000000
set_option maxRecDepth 10000
namespace Go.Sh
section
theorem af8:∀a∈dC,(dC.all fun b=>dC.all fun c=>me [a,b,c])=true:=by
 intro a ha;simp only[dC,List.mem_cons,List.not_mem_nil,or_false]at ha;rcases ha with rfl|rfl|rfl|rfl|rfl|rfl|rfl|rfl|rfl
 ·exact fe af9 (by decide)
 ·exact fe aga (by decide)
 ·exact fe agb (by decide)
 ·exact fe agc (by decide)
 ·exact fe agd (by decide)
 ·exact fe age (by decide)
 ·exact fe agf (by decide)
 ·exact fe agh (by decide)
 ·exact fe agi (by decide)
theorem acX {ms:List (List Nat)} (h3:ms.length<=3) (h:∀m∈ms,m∈dC):me ms=true:=by
 match ms,h3,h with
 |[],_,_=>exact af5
 |[a],_,h=>exact fe af6 (h a (by simp))
 |[a,b],_,h=>exact fe (fe (f:=fun a=>dC.all fun b=>me [a,b]) af7 (h a (by simp))) (h b (by simp))
 |[a,b,c],_,h=>exact fe (fe (f:=fun b=>dC.all fun c=>me [a,b,c]) (af8 a (h a (by simp))) (h b (by simp))) (h c (by simp))
 |_::_::_::_::_,h3,_=>simp at h3
theorem agy:∀t∈gn,vW (nL (gm 95 [.str (eN t)])) t=true:=by
 intro t ht;obtain⟨s,hs,ht⟩:=List.mem_flatMap.1 ht;simp only[List.mem_cons,List.not_mem_nil,or_false]at hs;rcases hs with rfl|rfl|rfl|rfl|rfl|rfl
 ·exact fe ago ht
 ·exact fe agp ht
 ·exact fe agq ht
 ·exact fe agr ht
 ·exact fe ags ht
 ·exact fe agt ht
structure QP (own:Nat->Nat) (H:ag) (pp:Nat) (G:List Gr) (R:List Rl) (E:List Gd):Prop where
 fr:∀b,H.next<=b->own b=0
 op:own pp=4
 lt:pp<H.next
 ex:∃gv rv dv,H.get pp=some (.row [gv,rv,dv] 29 true false 0)/\MW own 1 51 H gv 2 (G.map iQ)/\MW own 2 55 H rv 6 (R.map gD)/\MW own 3 58 H dv 5 (E.map iA)
 mem:∀g∈G,RO (fun b=>own b=0) H g.2.1 1 (bZ g.2.2)
theorem QP.ext {own:Nat->Nat} {H H':ag} {pp:Nat} {G:List Gr} {R:List Rl} {E:List Gd} (h:QP own H pp G R E) (hE:Ext H H'):QP own H' pp G R E:=by
 obtain⟨gv,rv,dv,h1,h2,h3,h4⟩:=h.ex;have hk:∀k b,own b=k->b<H.next->own b=k/\H'.get b=H.get b:=fun k b hb hn=>⟨hb,hE.2 b hn⟩
 exact⟨fun b hb=>h.fr b (Nat.le_trans hE.1 hb),h.op,Nat.lt_of_lt_of_le h.lt hE.1,⟨gv,rv,dv,(hE.2 _ h.lt).trans h1,h2.ax hE.1 (hk 1),h3.ax hE.1 (hk 2),h4.ax hE.1 (hk 3)⟩,fun g hg=>(h.mem g hg).ax hE.1 (hk 0)⟩
theorem Eg {ty:TypeId} {own:Nat->Nat} {H:ag} {pp j k e z bytes:Nat} {v:SV} {cs x:List SV} {L:List (List SV)} (fr:∀b,H.next<=b->own b=0) (op:own pp=4) (lt:pp<H.next) (hg:H.get pp=some (.row cs ty true false 0)) (hj:j<cs.length)
 (hm:MW own k e H v z L) (hk:k≠0) (Ur:k≠4) (hx:x.length=z) (hx1:x.all SV.one=true) (hl:L.length<1000) (hb:bytes<=1000):
 ∃v2 H2 H3 au,fu (H.push (.row x e true false 0)) false e z bytes v (.slice H.next 0 1 (some 1) z)=some (v2,H2)/\v2.cells=[v2]/\c7 1 (.ptr pp j) [v2] H2=some H3/\H3.get pp=some (.row (cs.set j v2) ty true false 0)/\
  MW au k e H3 v2 z (L++[x])/\H.next<=H3.next/\(∀b,b<H.next->own b≠k->b≠pp->au b=own b/\H3.get b=H.get b)/\au pp=4/\(∀b,H3.next<=b->au b=0)/\H2.get pp=H.get pp:=by
 obtain⟨H1,ay⟩:∃H1,H.push (.row x e true false 0)=H1:=⟨_,rfl⟩;have aB:Ext H H1:=by rw[<-ay];exact(Ext.refl H).push _
 have ca:H1.next=H.next+1:=by rw[<-ay];rfl
 have bP:H1.get H.next=some (.row x e true false 0):=by rw[<-ay];exact bd _
 have ke:MW own k e H1 v z L:=hm.ax aB.1 fun b hb hn=>⟨hb,aB.2 b hn⟩
 have ju:=ke.Ju (bytes:=bytes) hx hx1 bP om hb;rw[ca]at ju;obtain⟨H2,aY⟩:∃H2,(rE H1 v).push (.row (L.flatten++x) e false false 0)=H2:=⟨_,rfl⟩;have kc:=Nq H1 v;have dc:H2.next=H.next+2:=by rw[<-aY,dZ,kc,ca]
 have bB:H2.get (H.next+1)=some (.row (L.flatten++x) e false false 0):=by
  rw[<-aY];exact E0 (by rw[kc];omega) (by rw[kc];omega)
 have hold:∀q,q<H.next->own q≠k->H2.get q=H.get q:=fun q hq ho=>by
  rw[<-aY,cU (by rw[kc];omega),Np (fun hi=>ho (ke.iW hi).1),aB.2 q hq]
 have kF:H2.get pp=some (.row cs ty true false 0):=(hold pp lt (by rw[op];exact fun e=>Ur e.symm)).trans hg;have aD:=gY (v:=.slice (H.next+1) 0 (L.length+1) none z) (o:=j) kF rfl om (Nat.zero_le _);rw[ay];refine⟨_,H2,_,mI own (H.next+1) k,by rw[ju,aY],rfl,aD,bT _ _,?_,by rw[ea,dc];omega,fun b hb ho hp=>⟨mJ om,?_⟩,by rw[mJ om];exact op,fun b hb=>?_,by rw[kF,hg]⟩
 ·refine⟨hm.1.snoc hx,.inr ⟨H.next+1,none,false,by rw[List.length_append];rfl,(fun q h=>(by cases h)),fun _=>⟨by simp,rfl⟩,xS ..,by rw[ea,dc];omega,?_⟩⟩;rw[cI om,bB];simp
 ·rw[cI hp];exact hold b hb ho
 ·rw[ea,dc]at hb;rw[mJ om];exact fr b om
section
variable {lf n:Nat} {H:ag}
theorem acL {ms:List (List Nat)} (h3:ms.length<=3) (h:∀m∈ms,m∈dC) (hn:1<=n):∃v H',aj ak lf n 93 [.str (zW ms),.func 94 [] []] H=some (v,H')/\Ext H H'/\RB H.next H' v 1 (bZ ms):=
 akW alg rfl (acX h3 h) hn H
theorem YM {t:Tt} (h:t∈gn) (hn:1<=n):aj ak lf n 95 [.str (eN t)] H=some (.aJ [.agg [.int .i64 (t.1:Int),.str t.2],.int .i64 ((0:Nat):Int)],H):=by
 obtain⟨n,rfl⟩:=aN (n:=n);have hk:=agy t h;unfold vW gm at hk;rw[yN]at hk;split at hk
 ·rename_i cs hr;have:=wu hk;subst this;simp only[aj,alh];exact NP rfl hr H
 ·cases hk
theorem adj {own:Nat->Nat} {pp:Nat} {G:List Gr} {R:List Rl} {E:List Gd} {s nm:List Nat} {ms:List (List Nat)} (h:QP own H pp G R E) (hs:fV s=(nm,zW ms)) (hb:∀c∈s,c<128) (hlen:s.length<=900) (h3:ms.length<=3) (hm:∀m∈ms,m∈dC) (fR:nm≠[]) (hG:G.length<900) (hn:5<=n) (aC:1000<lf):
 ∃au H' mv,aj ak lf n 55 [.ptr pp 0,.str s] H=some (.bool true,H')/\QP au H' pp (G++[(nm,mv,ms)]) R E/\bM own H au H':=by
 obtain⟨n,rfl⟩:=aN (n:=n);obtain⟨H1,aV,aB⟩:=vN (lf:=lf) (n:=n) (H:=H) hb hlen om aC;rw[hs]at aV;obtain⟨mv,H2,aH,aF,hR⟩:=acL (lf:=lf) (n:=n) (H:=H1) h3 hm om;have cG:=aB.trans aF;have h2:=h.ext cG;obtain⟨gv,rv,dv,g1,g2,g3,g4⟩:=h2.ex;have ho:SV.one mv=true:=hR.aQ.one;obtain⟨v2,H4,H5,au,a1,a2,a3,a4,a5,a6,a7,a8,a9,Jl⟩:=Eg (j:=0) (bytes:=40) (x:=[.str nm,mv]) h2.fr h2.op h2.lt g1 (by simp) g2 (by decide) (by decide) rfl (by simp only[List.all_cons,ho,List.all_nil];rfl) (by rw[List.length_map];omega) (by decide);obtain⟨H3,ch⟩:∃H3,H2.push (.row [.str nm,mv] 51 true false 0)=H3:=⟨_,rfl⟩;rw[ch]at a1;have r0:aq (H2.get pp) 0 1=some [gv]:=by rw[g1];rfl
 have hd:decide (nm≠[])=true:=by simp[fR]
 refine⟨au,H5,mv,?_,⟨a9,a8,Nat.lt_of_lt_of_le h2.lt a6,⟨v2,rv,dv,a4,?_,g3.ax a6 fun b hb hn=>?_,g4.ax a6 fun b hb hn=>?_⟩,fun g hg=>?_⟩,Nat.le_trans cG.1 a6,fun b hb hn=>?_⟩
 ·have key:∃w H',aj ak lf (n+1) 55 [.ptr pp 0,.str s] H=some (w,H')/\w=.bool true/\H'=H5:=by
   have hmc:mv.cells=[mv]:=hR.aQ.cells;refine cx Qt.1 ?_;refine af ae ?_;refine ai ae aV ?_;refine af ae ?_;refine ai ae aH ?_;refine af (An @r0 (An @hmc (An @ch (An @a1 (An @a2 (An @a3 @hd)))))) ?_;refine aO ae ?_;exact(⟨rfl,rfl⟩)
  obtain⟨w,H',h,rfl,rfl⟩:=key;exact h
 ·rw[List.map_append];exact a5
 ·have:=a7 b hn om (fun e=>by rw[e,h2.op]at hb;omega);exact⟨this.1.trans hb,this.2⟩
 ·have:=a7 b hn om (fun e=>by rw[e,h2.op]at hb;omega);exact⟨this.1.trans hb,this.2⟩
 ·have old:∀b,own b=0->b<H2.next->au b=0/\H5.get b=H2.get b:=fun b hb hn=>by
   have:=a7 b hn om (fun e=>by rw[e,h2.op]at hb;omega);exact⟨this.1.trans hb,this.2⟩
  rcases List.mem_append.1 hg with hg|hg
  ·exact(h2.mem g hg).ax a6 old
  ·rw[List.mem_singleton.1 hg];have:RO (fun b=>own b=0) H2 mv 1 (bZ ms):=by
    refine⟨hR.1,?_⟩;rcases hR.2 with q|⟨b,c,e,ex,ro,frz,q1,q2,q3,q4,q5⟩
    ·exact .inl q
    ·exact .inr ⟨b,c,e,ex,ro,frz,q1,q2,h.fr b (by have:=aB.1;omega),q4,q5⟩
   exact this.ax a6 old
 ·have:=a7 b (Nat.lt_of_lt_of_le hn cG.1) om (fun e=>by rw[e,h.op]at hb;omega);exact⟨this.1.trans hb,this.2.trans (cG.2 b hn)⟩
end
end
section
theorem akY:ak 165=some (.native sQ):=by kernel_rfl
theorem ac0:∀s∈[0,1,2,3,4,5],iz (fun x=>decide (x=60::(Dk s++[62]))) Az 0=some s/\60::(Dk s++[62])≠[60,97,108,108,62]:=by decide+kernel
theorem ac1:∀t∈gn,iz (fun x=>decide (x=eN t)) Az 0=none/\eN t≠[60,97,108,108,62]:=by decide+kernel
theorem acZ:∀r∈[1,2,3,4,5],iz (fun x=>decide (x=iY.getD (r-1) [])) iY 0=some (r-1):=by decide+kernel
section
variable {lf n:Nat} {H:ag}
theorem ajY {own:Nat->Nat} {pp k:Nat} {G:List Gr} {R:List Rl} {E:List Gd} {s r1:List Nat} {x:Rl} (h:QP own H pp G R E) (hx:pE k x) (h1:fV s=(iY.getD (x.r-1) [],r1)) (h2:fV r1=(x.g,mL (x.k,x.t)))
 (hb:∀c∈s,c<128) (hlen:s.length<=900) (dn:∀c∈r1,c<128) (Ma:r1.length<=900) (hR:R.length<900) (hn:5<=n) (aC:600000<lf):
 ∃au H',aj ak lf n 56 [.ptr pp 0,.str s,.bool x.al] H=some (.bool true,H')/\QP au H' pp G (R++[x]) E/\bM own H au H':=by
 obtain⟨n,rfl⟩:=aN (n:=n);have fc:=hx.r1;have MF:=hx.r5;have Cu:x.r∈[1,2,3,4,5]:=by
  have:x.r=1\/x.r=2\/x.r=3\/x.r=4\/x.r=5:=om;simpa using this
 have jh:=acZ _ Cu;have pg:=hx.sc;obtain⟨al,r,g,sk,⟨t1,t2⟩⟩:=x;have zM:gD ⟨al,r,g,sk,(t1,t2)⟩=[.bool al,.int .i64 (r:Int),.str g,.int .i64 (sk:Int),.int .i64 (t1:Int),.str t2]:=rfl;have fc:1<=r:=fc;have MF:r<=5:=MF;have h1:fV s=(iY.getD (r-1) [],r1):=h1;have h2:fV r1=(g,mL (sk,(t1,t2))):=h2;have jh:iz (fun x=>decide (x=iY.getD (r-1) [])) iY 0=some (r-1):=jh;have pg:(sk=1/\(t1,t2)=((0,[]):Tt))\/(sk=2/\t1<6/\t2=[])\/(sk=3/\(t1,t2)∈gn):=pg;obtain⟨H1,aV,aB⟩:=vN (lf:=lf) (n:=n) (H:=H) hb hlen om om;rw[h1]at aV;obtain⟨H2,aH,aF⟩:=vN (lf:=lf) (n:=n) (H:=H1) dn Ma om om;rw[h2]at aH;obtain⟨v22,H3,bf,aS,xi,_⟩:=Xr (lf:=lf) (n:=n) (H:=H2) om;have fx:=HE (lf:=lf) (n:=n) (s:=iY.getD (r-1) []) xi (by decide) om aC;rw[jh]at fx;have fx:aj ak lf n 58 [v22,.str (iY.getD (r-1) [])] H3=some (.int .i64 ((r-1:Nat):Int),H3):=fx;have hra:((r-1:Nat):Int)+((1:Nat):Int)=((r:Nat):Int):=om;have d33:decide (((r:Nat):Int)=((0:Nat):Int))=false:=df;obtain⟨H4,jx,bz,nY,ji⟩:=iw (H:=H3) (zs:=[.bool false,.int .i64 ((0:Nat):Int),.str [],.int .i64 ((0:Nat):Int),.int .i64 ((0:Nat):Int),.str []]) (ty:=55) (z:=6) rfl (cs:=[.bool al,.int .i64 (r:Int),.str g,.int .i64 ((0:Nat):Int),.int .i64 ((0:Nat):Int),.str []]) rfl rfl;have q1:aq (H4.get H3.next) 1 1=some [.int .i64 (r:Int)]:=by rw[ji];rfl
 have u9:=aB.trans (aF.trans (aS.trans bz));have wV:=aB.trans (aF.trans aS);have key:∃w H',aj ak lf (n+1) 56 [.ptr pp 0,.str s,.bool al] H=some (w,H')/\w=.bool true/\∃au,QP au H' pp G (R++[⟨al,r,g,sk,(t1,t2)⟩]) E/\bM own H au H':=by
  obtain⟨XO,hrw⟩:∃XO,iY.getD (r-1) []=XO:=⟨_,rfl⟩;rw[hrw]at aV fx;obtain⟨st,aD⟩:∃st,mL (sk,(t1,t2))=st:=⟨_,rfl⟩;rw[aD]at aH;refine cx Qu.1 ?_;refine af ae ?_;refine ai ae aV ?_;refine af ae ?_;refine ai ae aH ?_;refine af ae ?_;refine ai ae bf ?_;refine af ae ?_;refine ai ae fx ?_;refine af (An @hra (An @jx (An @q1 @d33))) ?_;refine ah d33 ?_;refine s8 ?_;refine ly ?_;refine mN ?_;refine nJ (fun ts Q=>Q.get H3.next=some (.row [.bool al,.int .i64 (r:Int),.str g,.int .i64 (sk:Int),.int .i64 (t1:Int),.str t2] 55 true false 0)/\Ext H Q/\H3.next<Q.next/\∃z:Nat->SV,ts=((.ptr pp 0)::zz z 1 9 ((.ptr H3.next 0)::zz z 11 56 []):T)/\(True)) ?_ (fun aA Q hP=>?_)
  ·rcases pg with⟨rfl,ht⟩|⟨rfl,ht,rfl⟩|⟨rfl,ht⟩
   ·obtain⟨rfl,rfl⟩:t1=0/\t2=[]:=by cases ht;exact⟨rfl,rfl⟩
    have d35:decide (st=[60,97,108,108,62])=true:=by rw[<-aD];decide
    have uq:=gY (v:=.int .i64 ((1:Nat):Int)) (o:=3) ji rfl (by simp) (Nat.zero_le _);obtain⟨H5,bg⟩:∃H5,H4.put H3.next (.row [.bool al,.int .i64 (r:Int),.str g,.int .i64 ((1:Nat):Int),.int .i64 ((0:Nat):Int),.str []] 55 true false 0)=H5:=⟨_,rfl⟩;have afw:c7 1 (.ptr H3.next 3) [.int .i64 ((1:Nat):Int)] H4=some H5:=by rw[uq,<-bg];rfl
    have bm:Ext H H5:=by rw[<-bg];exact u9.put (by have:=wV.1;omega) _
    refine af @d35 ?_;refine ar ae ?_;refine af @afw ?_;exact⟨rfl,rfl,by rw[<-bg];exact bT _ _,bm,by rw[<-bg,ea];omega,aw⟩
   ·obtain⟨f1,f2⟩:=ac0 t1 (CY ht);have aD:60::(Dk t1++[62])=st:=aD;rw[aD]at f1 f2;have d35:decide (st=[60,97,108,108,62])=false:=by simpa using f2
    obtain⟨O9,H5,eP,bm,Lo⟩:=Yi (lf:=lf) (n:=n) (H:=H4) om;have cP:=HE (lf:=lf) (n:=n) (s:=st) Lo (by decide) om aC;rw[f1]at cP;have cP:aj ak lf n 58 [O9,.str st] H5=some (.int .i64 ((t1:Nat):Int),H5):=cP;have d42:decide (((t1:Nat):Int)>=((0:Nat):Int))=true:=dt;have dw:=(bm.2 H3.next om).trans ji;obtain⟨H6,fZ⟩:∃H6,H5.put H3.next (.row [.bool al,.int .i64 (r:Int),.str g,.int .i64 ((2:Nat):Int),.int .i64 ((t1:Nat):Int),.str []] 55 true false 0)=H6:=⟨_,rfl⟩;have uq:c7 3 (.ptr H3.next 3) [.int .i64 ((2:Nat):Int),.int .i64 ((t1:Nat):Int),.str []] H5=some H6:=by
     rw[iL (n:=3) (cs:=[.int .i64 ((2:Nat):Int),.int .i64 ((t1:Nat):Int),.str []]) rfl,iq,dw,im (by simp) (Nat.zero_le _) rfl,<-fZ];rfl
    have cL:Ext H H6:=by rw[<-fZ];exact(u9.trans bm).put (by have:=wV.1;omega) _
    refine af @d35 ?_;refine ah ae ?_;refine af ae ?_;refine ai ae eP ?_;refine af ae ?_;refine ai ae cP ?_;refine af @d42 ?_;refine ar ae ?_;refine af @uq ?_;exact⟨rfl,rfl,by rw[<-fZ];exact bT _ _,cL,by rw[<-fZ,ea];have:=bm.1;omega,aw⟩
   ·obtain⟨f1,f2⟩:=ac1 _ ht;have aD:eN (t1,t2)=st:=aD;rw[aD]at f1 f2;have d35:decide (st=[60,97,108,108,62])=false:=by simpa using f2
    obtain⟨O9,H5,eP,bm,Lo⟩:=Yi (lf:=lf) (n:=n) (H:=H4) om;have cP:=HE (lf:=lf) (n:=n) (s:=st) Lo (by decide) om aC;rw[f1]at cP;have cP:aj ak lf n 58 [O9,.str st] H5=some (.int .i64 (-1:Int),H5):=cP;have d42:decide ((-1:Int)>=((0:Nat):Int))=false:=by decide
    have iD:=YM (lf:=lf) (n:=n) (H:=H5) ht om;rw[aD]at iD;have dw:=(bm.2 H3.next om).trans ji;have F3:=bm.1;obtain⟨H6,lJ,cL,xB,ie⟩:=iw (H:=H5) (zs:=[.int .i64 ((0:Nat):Int),.str []]) (ty:=40) (z:=2) rfl (cs:=[.int .i64 (t1:Int),.str t2]) rfl rfl;have y2:aq (H6.get H5.next) 0 2=some [.int .i64 (t1:Int),.str t2]:=by rw[ie];rfl
    have gU:=(cL.2 H3.next om).trans dw;obtain⟨H7,mg⟩:∃H7,H6.put H3.next (.row [.bool al,.int .i64 (r:Int),.str g,.int .i64 ((3:Nat):Int),.int .i64 ((t1:Nat):Int),.str t2] 55 true false 0)=H7:=⟨_,rfl⟩;have uq:c7 3 (.ptr H3.next 3) [.int .i64 ((3:Nat):Int),.int .i64 ((t1:Nat):Int),.str t2] H6=some H7:=by
     rw[iL (n:=3) (cs:=[.int .i64 ((3:Nat):Int),.int .i64 ((t1:Nat):Int),.str t2]) rfl,iq,gU,im (by simp) (Nat.zero_le _) rfl,<-mg];rfl
    have dV:Ext H H7:=by rw[<-mg];exact((u9.trans bm).trans cL).put (by have:=wV.1;omega) _
    have d53:=vK;refine af @d35 ?_;refine ah ae ?_;refine af ae ?_;refine ai ae eP ?_;refine af ae ?_;refine ai ae cP ?_;refine af @d42 ?_;refine ah ae ?_;refine af ae ?_;refine ai ae iD ?_;refine af (An @lJ @d53) ?_;refine ah ae ?_;refine af (An @y2 @uq) ?_;exact⟨rfl,rfl,by rw[<-mg];exact bT _ _,dV,by rw[<-mg,ea];omega,aw⟩
  ·obtain⟨hgQ,dO,F5,⟨z,rfl, -⟩⟩:=hP;have hQ:=h.ext dO;obtain⟨gv,rv,dv,g1,g2,g3,g4⟩:=hQ.ex;obtain⟨v2,Q2,Q3,au,a1,a2,a3,a4,a5,a6,a7,a8,a9,Jl⟩:=Eg (j:=1) (bytes:=64) (x:=[.bool al,.int .i64 (r:Int),.str g,.int .i64 (sk:Int),.int .i64 (t1:Int),.str t2]) hQ.fr hQ.op hQ.lt g1 (by simp) g3 (by decide) (by decide) rfl rfl (by rw[List.length_map];omega) (by decide);obtain⟨Q1,su⟩:∃Q1,Q.push (.row [.bool al,.int .i64 (r:Int),.str g,.int .i64 (sk:Int),.int .i64 (t1:Int),.str t2] 55 true false 0)=Q1:=⟨_,rfl⟩;rw[su]at a1;have y0:aq (Q.get H3.next) 0 6=some [.bool al,.int .i64 (r:Int),.str g,.int .i64 (sk:Int),.int .i64 (t1:Int),.str t2]:=by rw[hgQ];rfl
   have y1:aq (Q.get pp) 1 1=some [rv]:=by rw[g1];rfl
   have yE:aq (Q1.get pp) 1 1=some [rv]:=by rw[<-su,cU hQ.lt];exact y1
   have ic:bD rv rv=true:=g3.rg.bq;have sy:bD (.agg [.bool al,.int .i64 (r:Int),.str g,.int .i64 (sk:Int),.int .i64 (t1:Int),.str t2]) (.agg [.bool al,.int .i64 (r:Int),.str g,.int .i64 (sk:Int),.int .i64 (t1:Int),.str t2])=true:=by simp[bD,eF,eg,gG]
   have fin:QP au Q3 pp G (R++[⟨al,r,g,sk,(t1,t2)⟩]) E:=by
    refine⟨a9,a8,Nat.lt_of_lt_of_le hQ.lt a6,⟨gv,v2,dv,a4,g2.ax a6 fun b hb hn=>?_,?_,g4.ax a6 fun b hb hn=>?_⟩,fun g hg=>(hQ.mem g hg).ax a6 fun b hb hn=>?_⟩
    ·have:=a7 b hn om (fun e=>by rw[e,hQ.op]at hb;omega);exact⟨this.1.trans hb,this.2⟩
    ·rw[List.map_append];exact a5
    ·have:=a7 b hn om (fun e=>by rw[e,hQ.op]at hb;omega);exact⟨this.1.trans hb,this.2⟩
    ·have:=a7 b hn om (fun e=>by rw[e,hQ.op]at hb;omega);exact⟨this.1.trans hb,this.2⟩
   have Ll:bM own H au Q3:=⟨Nat.le_trans dO.1 a6,fun b hb hn=>by
    have:=a7 b (Nat.lt_of_lt_of_le hn dO.1) om (fun e=>by rw[e,h.op]at hb;omega);exact⟨this.1.trans hb,this.2.trans (dO.2 b hn)⟩⟩
   refine af ae ?_;refine dG rfl ?_;refine af (An @y1 (An @y0 (An @su (An @a1 (An @a2 @a3))))) ?_;refine dB ?_ ?_
   ·exact dh (An @y1 (An @yE (An @y0 (An @ic @sy))))
   ·refine af ae ?_;refine aO ae ?_;exact(⟨rfl,au,fin,Ll⟩)
 obtain⟨w,H',hc,rfl,au,k1,k2⟩:=key;exact⟨au,H',hc,k1,k2⟩
end
end
end Go.Sh
