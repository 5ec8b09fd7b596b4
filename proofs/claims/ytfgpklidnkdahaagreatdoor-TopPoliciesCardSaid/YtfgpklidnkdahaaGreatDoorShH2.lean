/-
  Both programs decide every right alike. No conditions beyond those that stand in the theorems.
-/
import Derived.Test.YtfgpklidnkdahaaGreatDoorShE1
import Derived.Test.YtfgpklidnkdahaaGreatDoorShH1
set_option linter.all false
set_option maxHeartbeats 20000000
set_option maxRecDepth 10000
namespace Go.Sh
section
section
variable {lf n:Nat} {H:ag}
theorem agS {gv rv dv nM:SV} {R:List Rl} {gl:List (List Nat)} {right:Nat} {t:Tt} (hR:br H rv 6 (R.map gD)) (qS:R.length<=7) (hg:br H nM 1 (bZ gl)) (qY:gl.length<1000) (ht:t∈gn) (h1:1<=right) (h5:right<=5) (hn:4<=n) (aC:600000<lf):
 ∃H',aj ak lf n 12 [.agg [gv,rv,dv],nM,iN right,tC t] H=some (.bool (nA R gl right (qm t)),H')/\Ext H H':=by
 obtain⟨n,rfl⟩:=aN (n:=n);obtain⟨t1,t2⟩:=t;have ph:tC (t1,t2)=.agg [.int .i64 (t1:Int),.str t2]:=rfl;obtain⟨H1,ay⟩:∃H1,H.push (.row [gv,rv,dv] 29 true false 0)=H1:=⟨_,rfl⟩;obtain⟨H2,aY⟩:∃H2,H1.push (.row [.int .i64 (t1:Int),.str t2] 40 true false 0)=H2:=⟨_,rfl⟩;have ca:H1.next=H.next+1:=by rw[<-ay];rfl
 have dc:H2.next=H1.next+1:=by rw[<-aY];rfl
 have aF:Ext H H2:=by rw[<-aY,<-ay];exact((Ext.refl H).push _).push _
 have bP:H2.get H.next=some (.row [gv,rv,dv] 29 true false 0):=by rw[<-aY,cU om,<-ay];exact bd _
 have bB:H2.get H1.next=some (.row [.int .i64 (t1:Int),.str t2] 40 true false 0):=by rw[<-aY];exact bd _
 have y2:aq (H2.get H1.next) 0 2=some [.int .i64 (t1:Int),.str t2]:=by rw[bB];rfl
 have tV:=O' (lf:=lf) (n:=n) (H:=H2) ht om;obtain⟨lv,H3,bO,aS,hL⟩:=V5 (lf:=lf) (n:=n) (H:=H2) (.inl rfl) ht om;rw[ph]at tV bO ⊢;obtain⟨S,hS⟩:∃S,qm (t1,t2)=S:=⟨_,rfl⟩;rw[hS]at hL ⊢;have dE:=hL.cA;rw[List.length_map]at dE;have xj:S.length<1000:=by
  have:∀t∈gn,(qm t).length<1000:=by decide+kernel
  rw[<-hS];exact this _ ht
 have wV:=aF.trans aS;have fB:=hR.cA;rw[List.length_map]at fB;have gp:∀{Q:ag},Ext H3 Q->aq (Q.get H.next) 1 1=some [rv]:=fun hE=>by rw[hE.2 _ (by have:=aS.1;omega),aS.2 _ om,bP];rfl
 have key:∃w H',aj ak lf (n+1) 12 [.agg [gv,rv,dv],nM,iN right,.agg [.int .i64 (t1:Int),.str t2]] H=some (w,H')/\w=.bool (nA R gl right S)/\Ext H H':=by
  have d1:decide (((right:Nat):Int)<((1:Nat):Int))=false:=df;have d5:decide (((right:Nat):Int)>((5:Nat):Int))=false:=df;refine cx Pu.1 ?_;refine af (An @ay (An @aY @y2)) ?_;refine ai ae tV ?_;refine af (An @d1 @d5) ?_;refine ah ae ?_;refine af @y2 ?_;refine ai ae bO ?_;refine af @dE ?_;refine bH (I:=fun m ts D Q=>D=[]/\∃j:Nat,m=S.length-j/\j<=S.length/\Ext H3 Q/\nA R gl right S=nA R gl right (S.drop j)/\∃z:Nat->SV,ts=(z 0::(nM)::(.int .i64 (right:Int))::z 3::(.ptr H.next 0)::zz z 5 22 ((lv)::(.int .i64 (S.length:Int))::(.int .i64 (j:Int))::zz z 30 35 []):T)/\(True)) ?_ S.length ?_ om
  ·rintro m ts D Q ⟨rfl,j,rfl,hj,dO,hM,⟨z,rfl, -⟩⟩;have By:=wV.trans dO;by_cases kI:j<S.length
   ·have d2:decide (((j:Nat):Int)<((S.length:Nat):Int))=true:=dt;obtain⟨l,hl⟩:∃l,S[j]? =some l:=⟨_,List.getElem?_eq_getElem kI⟩;rw[Wj hl]at hM;have hlc:(S.map mK)[j]? =some (mK l):=by simp[hl]
    obtain⟨b,o,j1,jb,j2,_⟩:=(hL.ax dO).at_ hlc;obtain⟨l1,l2,l3⟩:=l;have Ce:mK (l1,l2,l3)=[.int .i64 (l1:Int),.int .i64 (l2:Int),.str l3]:=rfl;rw[Ce]at j2;obtain⟨Q1,ey,ia,Mj,my⟩:=iw (H:=Q) (zs:=[.int .i64 ((0:Nat):Int),.int .i64 ((0:Nat):Int),.str []]) (ty:=53) (z:=3) rfl (cs:=[.int .i64 (l1:Int),.int .i64 (l2:Int),.str l3]) rfl rfl;have nz:aq ((Q.push (.row [.int .i64 ((0:Nat):Int),.int .i64 ((0:Nat):Int),.str []] 53 true false 0)).get b) o 3=some [.int .i64 (l1:Int),.int .i64 (l2:Int),.str l3]:=by rw[cU jb];exact j2
    have pP:=dO.trans ia;have r1:=gp pP;refine af @d2 ?_;refine ar ae ?_;refine af (An @j1 (An @j2 (An @nz (An @ey (An @r1 @fB))))) ?_;refine bH (I:=fun m ts D P=>D=[]/\∃i:Nat,m=R.length-i/\i<=R.length/\Ext Q1 P/\∃z:Nat->SV,ts=(z 0::(nM)::(.int .i64 (right:Int))::z 3::(.ptr H.next 0)::zz z 5 5 ((.ptr Q.next 0)::(.bool ((R.take i).any (iJ gl right (l1,l2,l3))))::(.bool ((R.take i).all (kU gl right (l1,l2,l3))))::zz z 13 14 ((lv)::(.int .i64 (S.length:Int))::(.int .i64 (j:Int))::zz z 30 4 ((rv)::(.int .i64 (R.length:Int))::(.int .i64 (i:Int))::zz z 37 28 []))):T)/\(True)) ?_ R.length ?_ om
    ·rintro m ts D P ⟨rfl,i,rfl,hi,iR,⟨z,rfl, -⟩⟩;have xc:=By.trans (ia.trans iR);by_cases bw:i<R.length
     ·have d3:decide (((i:Nat):Int)<((R.length:Nat):Int))=true:=dt;obtain⟨x,hx⟩:∃x,R[i]? =some x:=⟨_,List.getElem?_eq_getElem bw⟩;have jU:(R.map gD)[i]? =some (gD x):=by simp[hx]
      obtain⟨sa,_⟩:=Em (p:=iJ gl right (l1,l2,l3)) hx;obtain⟨_,sb⟩:=Em (p:=kU gl right (l1,l2,l3)) hx;obtain⟨b',o',k1,kb,k2,_⟩:=(hR.ax xc).at_ jU;obtain⟨al,r,g,sk,⟨u1,u2⟩⟩:=x;have zM:gD ⟨al,r,g,sk,(u1,u2)⟩=[.bool al,.int .i64 (r:Int),.str g,.int .i64 (sk:Int),.int .i64 (u1:Int),.str u2]:=rfl;rw[zM]at k2;obtain⟨P1,fI,jc,UJ,pX⟩:=iw (H:=P) (zs:=[.bool false,.int .i64 ((0:Nat):Int),.str [],.int .i64 ((0:Nat):Int),.int .i64 ((0:Nat):Int),.str []]) (ty:=55) (z:=6) rfl (cs:=[.bool al,.int .i64 (r:Int),.str g,.int .i64 (sk:Int),.int .i64 (u1:Int),.str u2]) rfl rfl;have ql:aq ((P.push (.row [.bool false,.int .i64 ((0:Nat):Int),.str [],.int .i64 ((0:Nat):Int),.int .i64 ((0:Nat):Int),.str []] 55 true false 0)).get b') o' 6=some [.bool al,.int .i64 (r:Int),.str g,.int .i64 (sk:Int),.int .i64 (u1:Int),.str u2]:=by rw[cU kb];exact k2
      have v0:aq (P1.get P.next) 0 1=some [.bool al]:=by rw[pX];rfl
      have v1:aq (P1.get P.next) 1 1=some [.int .i64 (r:Int)]:=by rw[pX];rfl
      have v2:aq (P1.get P.next) 2 1=some [.str g]:=by rw[pX];rfl
      have v3:aq (P1.get P.next) 3 3=some [.int .i64 (sk:Int),.int .i64 (u1:Int),.str u2]:=by rw[pX];rfl
      have w3:aq (P1.get Q.next) 0 3=some [.int .i64 (l1:Int),.int .i64 (l2:Int),.str l3]:=by rw[jc.2 _ (by have:=iR.1;omega),iR.2 _ om,my];rfl
      have uk:iJ gl right (l1,l2,l3) ⟨al,r,g,sk,(u1,u2)⟩=(decide (r=right)&&(decide (g∈gl)&&mS (sk,(u1,u2)) (l1,l2,l3))):=rfl;have BP:kU gl right (l1,l2,l3) ⟨al,r,g,sk,(u1,u2)⟩=(!iJ gl right (l1,l2,l3) ⟨al,r,g,sk,(u1,u2)⟩||al):=rfl;have skip:iJ gl right (l1,l2,l3) ⟨al,r,g,sk,(u1,u2)⟩=false->(R.take (i+1)).any (iJ gl right (l1,l2,l3))=(R.take i).any (iJ gl right (l1,l2,l3))/\(R.take (i+1)).all (kU gl right (l1,l2,l3))=(R.take i).all (kU gl right (l1,l2,l3)):=fun h=>by
       rw[sa,sb,BP,h];simp
      have OV:iJ gl right (l1,l2,l3) ⟨al,r,g,sk,(u1,u2)⟩=true->(R.take (i+1)).any (iJ gl right (l1,l2,l3))=true/\(R.take (i+1)).all (kU gl right (l1,l2,l3))=((R.take i).all (kU gl right (l1,l2,l3))&&al):=fun h=>by
       rw[sa,sb,BP,h];simp
      by_cases hr:r=right
      ·have d4:decide (((r:Nat):Int)=((right:Nat):Int))=true:=by rw[hr];simp
       have bn:=Dg (lf:=lf) (n:=n) (s:=g) (hg.ax (xc.trans jc)) om om aC;by_cases pY:g∈gl
       ·rw[decide_eq_true pY]at bn;obtain⟨P2,o6,tI⟩:=Sp (lf:=lf) (n:=n) (H:=P1) ak6 (s:=(sk,(u1,u2))) (l:=(l1,l2,l3)) om;have e1:mK (sk,(u1,u2))=[.int .i64 (sk:Int),.int .i64 (u1:Int),.str u2]:=rfl;rw[e1,Ce]at o6;have DB:aq (P2.get P.next) 0 1=some [.bool al]:=by rw[tI.2 _ om];exact v0
        cases tU:mS (sk,(u1,u2)) (l1,l2,l3)with
        |true=>
         rw[tU]at o6;obtain⟨q1,q2⟩:=OV (by rw[uk,decide_eq_true hr,decide_eq_true pY,tU];rfl);generalize (R.take i).any (iJ gl right (l1,l2,l3))=ab;generalize (R.take i).all (kU gl right (l1,l2,l3))=bb at q2;cases bb with
         |true=>
          refine af @d3 ?_;refine ar ae ?_;refine af (An @k1 (An @k2 (An @ql (An @fI (An @v1 (An @d4 @v2)))))) ?_;refine ai ae bn ?_;refine af (An @v3 @w3) ?_;refine ai ae o6 ?_;refine af ae ?_;refine ar ae ?_;refine af @DB ?_;refine af (c8 (k:=i) om) ?_;refine aT (R.length-(i+1)) om ⟨rfl,i+1,rfl,by omega,iR.trans (jc.trans tI),?_⟩;rw[q1,q2];exact aw
         |false=>
          refine af @d3 ?_;refine ar ae ?_;refine af (An @k1 (An @k2 (An @ql (An @fI (An @v1 (An @d4 @v2)))))) ?_;refine ai ae bn ?_;refine af (An @v3 @w3) ?_;refine ai ae o6 ?_;refine af ae ?_;refine ar ae ?_;refine af @DB ?_;refine af (c8 (k:=i) om) ?_;refine aT (R.length-(i+1)) om ⟨rfl,i+1,rfl,by omega,iR.trans (jc.trans tI),?_⟩;rw[q1,q2];exact aw
        |false=>
         rw[tU]at o6;obtain⟨q1,q2⟩:=skip (by rw[uk,decide_eq_true hr,decide_eq_true pY,tU];rfl);refine af @d3 ?_;refine ar ae ?_;refine af (An @k1 (An @k2 (An @ql (An @fI (An @v1 (An @d4 @v2)))))) ?_;refine ai ae bn ?_;refine af (An @v3 @w3) ?_;refine ai ae o6 ?_;refine af ae ?_;refine ah ae ?_;refine af (c8 (k:=i) om) ?_;refine aT (R.length-(i+1)) om ⟨rfl,i+1,rfl,by omega,iR.trans (jc.trans tI),?_⟩;rw[q1,q2];exact aw
       ·rw[decide_eq_false pY]at bn;obtain⟨q1,q2⟩:=skip (by rw[uk,decide_eq_true hr,decide_eq_false pY];rfl);refine af @d3 ?_;refine ar ae ?_;refine af (An @k1 (An @k2 (An @ql (An @fI (An @v1 (An @d4 @v2)))))) ?_;refine ai ae bn ?_;refine af ae ?_;refine ah ae ?_;refine af (c8 (k:=i) om) ?_;refine aT (R.length-(i+1)) om ⟨rfl,i+1,rfl,by omega,iR.trans jc,?_⟩;rw[q1,q2];exact aw
      ·have d4:decide (((r:Nat):Int)=((right:Nat):Int))=false:=df;obtain⟨q1,q2⟩:=skip (by rw[uk,decide_eq_false hr];rfl);refine af @d3 ?_;refine ar ae ?_;refine af (An @k1 (An @k2 (An @ql (An @fI (An @v1 @d4))))) ?_;refine ah ae ?_;refine af (c8 (k:=i) om) ?_;refine aT (R.length-(i+1)) om ⟨rfl,i+1,rfl,by omega,iR.trans jc,?_⟩;rw[q1,q2];exact aw
     ·obtain rfl:i=R.length:=om;have d3:decide (((R.length:Nat):Int)<((R.length:Nat):Int))=false:=by simp
      rw[List.take_length];cases ha:R.any (iJ gl right (l1,l2,l3))with
      |true=>
       rw[ha,if_pos rfl]at hM;refine af @d3 ?_;refine ah ae ?_;refine af ae ?_;refine ar ae ?_;refine af ae ?_;refine aO ae ?_;exact(⟨by rw[hM],xc⟩)
      |false=>
       rw[ha,if_neg (by simp)]at hM;refine af @d3 ?_;refine ah ae ?_;refine af ae ?_;refine ah ae ?_;refine af (c8 (k:=j) om) ?_;refine aT (S.length-(j+1)) om ⟨rfl,j+1,rfl,by omega,pP.trans iR,hM,aw⟩
    ·exact⟨rfl,0,rfl,Nat.zero_le _,Ext.refl _,aw⟩
   ·obtain rfl:j=S.length:=om;have d2:decide (((S.length:Nat):Int)<((S.length:Nat):Int))=false:=by simp
    rw[List.drop_length]at hM;refine af @d2 ?_;refine ah ae ?_;refine af ae ?_;refine aO ae ?_;exact(⟨by rw[hM];rfl,By⟩)
  ·exact⟨rfl,0,rfl,Nat.zero_le _,Ext.refl _,rfl,aw⟩
 obtain⟨w,H',h,rfl,hE⟩:=key;exact⟨H',h,hE⟩
end
end
section
section
variable {lf n:Nat} {H:ag}
theorem ajy {gv rv dv nM:SV} {R:List Rl} {gl:List (List Nat)} {right:Nat} {t:Tt} (hR:br H rv 6 (R.map gD)) (qS:R.length<=7) (hg:br H nM 1 (bZ gl)) (qY:gl.length<1000) (ht:t∈gn) (h1:1<=right) (h5:right<=5) (hn:4<=n) (aC:600000<lf):
 ∃H',aj ak lf n 13 [.agg [gv,rv,dv],nM,iN right,tC t] H=some (.bool (nA R gl right (qm t)),H')/\Ext H H':=by
 obtain⟨n,rfl⟩:=aN (n:=n);obtain⟨t1,t2⟩:=t;have ph:tC (t1,t2)=.agg [.int .i64 (t1:Int),.str t2]:=rfl;obtain⟨H1,ay⟩:∃H1,H.push (.row [gv,rv,dv] 29 true false 0)=H1:=⟨_,rfl⟩;obtain⟨H2,aY⟩:∃H2,H1.push (.row [.int .i64 (t1:Int),.str t2] 40 true false 0)=H2:=⟨_,rfl⟩;have ca:H1.next=H.next+1:=by rw[<-ay];rfl
 have dc:H2.next=H1.next+1:=by rw[<-aY];rfl
 have aF:Ext H H2:=by rw[<-aY,<-ay];exact((Ext.refl H).push _).push _
 have bP:H2.get H.next=some (.row [gv,rv,dv] 29 true false 0):=by rw[<-aY,cU om,<-ay];exact bd _
 have bB:H2.get H1.next=some (.row [.int .i64 (t1:Int),.str t2] 40 true false 0):=by rw[<-aY];exact bd _
 have y2:aq (H2.get H1.next) 0 2=some [.int .i64 (t1:Int),.str t2]:=by rw[bB];rfl
 have tV:=akc (lf:=lf) (n:=n) (H:=H2) ht om;obtain⟨lv,H3,bO,aS,hL⟩:=V5 (lf:=lf) (n:=n) (H:=H2) (.inr rfl) ht om;rw[ph]at tV bO ⊢;obtain⟨S,hS⟩:∃S,qm (t1,t2)=S:=⟨_,rfl⟩;rw[hS]at hL ⊢;have dE:=hL.cA;rw[List.length_map]at dE;have xj:S.length<1000:=by
  have:∀t∈gn,(qm t).length<1000:=by decide+kernel
  rw[<-hS];exact this _ ht
 have wV:=aF.trans aS;have fB:=hR.cA;rw[List.length_map]at fB;have gp:∀{Q:ag},Ext H3 Q->aq (Q.get H.next) 1 1=some [rv]:=fun hE=>by rw[hE.2 _ (by have:=aS.1;omega),aS.2 _ om,bP];rfl
 have key:∃w H',aj ak lf (n+1) 13 [.agg [gv,rv,dv],nM,iN right,.agg [.int .i64 (t1:Int),.str t2]] H=some (w,H')/\w=.bool (nA R gl right S)/\Ext H H':=by
  have d1:decide (((right:Nat):Int)<((1:Nat):Int))=false:=df;have d5:decide (((right:Nat):Int)>((5:Nat):Int))=false:=df;refine cx Pv.1 ?_;refine af (An @ay (An @aY @y2)) ?_;refine ai ae tV ?_;refine af (An @d1 @d5) ?_;refine ah ae ?_;refine af @y2 ?_;refine ai ae bO ?_;refine af ae ?_;refine bH (I:=fun m ts D Q=>D=[]/\∃j:Nat,m=S.length-j/\j<=S.length/\Ext H3 Q/\nA R gl right S=nA R gl right (S.drop j)/\∃z:Nat->SV,ts=(z 0::(nM)::(.int .i64 (right:Int))::z 3::(.ptr H.next 0)::zz z 5 4 ((lv)::(.int .i64 (j:Int))::zz z 11 61 []):T)/\(True)) ?_ S.length ?_ om
  ·rintro m ts D Q ⟨rfl,j,rfl,hj,dO,hM,⟨z,rfl, -⟩⟩;have By:=wV.trans dO;by_cases kI:j<S.length
   ·have d2:decide (((j:Nat):Int)<((S.length:Nat):Int))=true:=dt;obtain⟨l,hl⟩:∃l,S[j]? =some l:=⟨_,List.getElem?_eq_getElem kI⟩;rw[Wj hl]at hM;have hlc:(S.map mK)[j]? =some (mK l):=by simp[hl]
    obtain⟨b,o,j1,jb,j2,_⟩:=(hL.ax dO).at_ hlc;obtain⟨l1,l2,l3⟩:=l;have Ce:mK (l1,l2,l3)=[.int .i64 (l1:Int),.int .i64 (l2:Int),.str l3]:=rfl;rw[Ce]at j2;have eI:bD (.agg [.int .i64 (l1:Int),.int .i64 (l2:Int),.str l3]) (.agg [.int .i64 (l1:Int),.int .i64 (l2:Int),.str l3])=true:=by simp[bD,eF,eg,gG]
    refine af (An @dE @d2) ?_;refine ar ae ?_;refine af ae ?_;refine bH (I:=fun m ts D P=>D=[]/\∃i:Nat,m=R.length-i/\i<=R.length/\Ext Q P/\∃z:Nat->SV,ts=(z 0::(nM)::(.int .i64 (right:Int))::z 3::(.ptr H.next 0)::zz z 5 4 ((lv)::(.int .i64 (j:Int))::(.bool ((R.take i).any (iJ gl right (l1,l2,l3))))::(.bool ((R.take i).all (kU gl right (l1,l2,l3))))::(.int .i64 (i:Int))::zz z 14 58 []):T)/\(True)) ?_ R.length ?_ om
    ·rintro m ts D P ⟨rfl,i,rfl,hi,iR,⟨z,rfl, -⟩⟩;have xc:=By.trans iR;have r1:=gp (dO.trans iR);by_cases bw:i<R.length
     ·have d3:decide (((i:Nat):Int)<((R.length:Nat):Int))=true:=dt;obtain⟨x,hx⟩:∃x,R[i]? =some x:=⟨_,List.getElem?_eq_getElem bw⟩;have jU:(R.map gD)[i]? =some (gD x):=by simp[hx]
      obtain⟨sa,_⟩:=Em (p:=iJ gl right (l1,l2,l3)) hx;obtain⟨_,sb⟩:=Em (p:=kU gl right (l1,l2,l3)) hx;obtain⟨b',o',k1,kb,k2,_⟩:=(hR.ax xc).at_ jU;obtain⟨al,r,g,sk,⟨u1,u2⟩⟩:=x;have zM:gD ⟨al,r,g,sk,(u1,u2)⟩=[.bool al,.int .i64 (r:Int),.str g,.int .i64 (sk:Int),.int .i64 (u1:Int),.str u2]:=rfl;rw[zM]at k2;obtain⟨P1,fI,jc,UJ,pX⟩:=iw (H:=P) (zs:=[.bool false,.int .i64 ((0:Nat):Int),.str [],.int .i64 ((0:Nat):Int),.int .i64 ((0:Nat):Int),.str []]) (ty:=55) (z:=6) rfl (cs:=[.bool al,.int .i64 (r:Int),.str g,.int .i64 (sk:Int),.int .i64 (u1:Int),.str u2]) rfl rfl;have ql:aq ((P.push (.row [.bool false,.int .i64 ((0:Nat):Int),.str [],.int .i64 ((0:Nat):Int),.int .i64 ((0:Nat):Int),.str []] 55 true false 0)).get b') o' 6=some [.bool al,.int .i64 (r:Int),.str g,.int .i64 (sk:Int),.int .i64 (u1:Int),.str u2]:=by rw[cU kb];exact k2
      have v0:aq (P1.get P.next) 0 1=some [.bool al]:=by rw[pX];rfl
      have v1:aq (P1.get P.next) 1 1=some [.int .i64 (r:Int)]:=by rw[pX];rfl
      have v2:aq (P1.get P.next) 2 1=some [.str g]:=by rw[pX];rfl
      have v3:aq (P1.get P.next) 3 3=some [.int .i64 (sk:Int),.int .i64 (u1:Int),.str u2]:=by rw[pX];rfl
      have w3:aq (P1.get b) o 3=some [.int .i64 (l1:Int),.int .i64 (l2:Int),.str l3]:=by rw[jc.2 _ (by have:=iR.1;omega),iR.2 _ jb];exact j2
      have sy:bD (.agg [.int .i64 (sk:Int),.int .i64 (u1:Int),.str u2]) (.agg [.int .i64 (sk:Int),.int .i64 (u1:Int),.str u2])=true:=by simp[bD,eF,eg,gG]
      have uk:iJ gl right (l1,l2,l3) ⟨al,r,g,sk,(u1,u2)⟩=(decide (r=right)&&(decide (g∈gl)&&mS (sk,(u1,u2)) (l1,l2,l3))):=rfl;have BP:kU gl right (l1,l2,l3) ⟨al,r,g,sk,(u1,u2)⟩=(!iJ gl right (l1,l2,l3) ⟨al,r,g,sk,(u1,u2)⟩||al):=rfl;have skip:iJ gl right (l1,l2,l3) ⟨al,r,g,sk,(u1,u2)⟩=false->(R.take (i+1)).any (iJ gl right (l1,l2,l3))=(R.take i).any (iJ gl right (l1,l2,l3))/\(R.take (i+1)).all (kU gl right (l1,l2,l3))=(R.take i).all (kU gl right (l1,l2,l3)):=fun h=>by
       rw[sa,sb,BP,h];simp
      have OV:iJ gl right (l1,l2,l3) ⟨al,r,g,sk,(u1,u2)⟩=true->(R.take (i+1)).any (iJ gl right (l1,l2,l3))=true/\(R.take (i+1)).all (kU gl right (l1,l2,l3))=((R.take i).all (kU gl right (l1,l2,l3))&&al):=fun h=>by
       rw[sa,sb,BP,h];simp
      by_cases hr:r=right
      ·have d4:decide (((r:Nat):Int)=((right:Nat):Int))=true:=by rw[hr];simp
       have bn:=TU (lf:=lf) (n:=n) (s:=g) (hg.ax (xc.trans jc)) om om aC;by_cases pY:g∈gl
       ·rw[decide_eq_true pY]at bn;obtain⟨P2,o6,tI⟩:=Sp (lf:=lf) (n:=n) (H:=P1) ak9 (s:=(sk,(u1,u2))) (l:=(l1,l2,l3)) om;have e1:mK (sk,(u1,u2))=[.int .i64 (sk:Int),.int .i64 (u1:Int),.str u2]:=rfl;rw[e1,Ce]at o6;have DB:aq (P2.get P.next) 0 1=some [.bool al]:=by rw[tI.2 _ om];exact v0
        cases tU:mS (sk,(u1,u2)) (l1,l2,l3)with
        |true=>
         rw[tU]at o6;obtain⟨q1,q2⟩:=OV (by rw[uk,decide_eq_true hr,decide_eq_true pY,tU];rfl);generalize (R.take i).any (iJ gl right (l1,l2,l3))=ab;generalize (R.take i).all (kU gl right (l1,l2,l3))=bb at q2;cases bb with
         |true=>
          refine af (An @r1 (An @fB @d3)) ?_;refine ar ae ?_;refine af (An @r1 (An @k1 (An @k2 (An @ql @fI)))) ?_;refine dG rfl ?_;refine af (An @v1 (An @d4 @v2)) ?_;refine dH (by exact aZ trivial) bn bW ?_;refine af (An @v3 (An @j1 @w3)) ?_;refine dH (by exact aZ trivial) o6 bW ?_;refine af ae ?_;refine dB ?_ ?_
          ·exact dh (An @v1 (An @d4 (An @v2 (An @v3 (An @j1 (An @w3 (An @eI @sy)))))))
          ·refine af ae ?_;refine ar ae ?_;refine af @DB ?_;refine af (c8 (k:=i) om) ?_;refine aT (R.length-(i+1)) om ⟨rfl,i+1,rfl,by omega,iR.trans (jc.trans tI),?_⟩;rw[q1,q2];exact aw
         |false=>
          refine af (An @r1 (An @fB @d3)) ?_;refine ar ae ?_;refine af (An @r1 (An @k1 (An @k2 (An @ql @fI)))) ?_;refine dG rfl ?_;refine af (An @v1 (An @d4 @v2)) ?_;refine dH (by exact aZ trivial) bn bW ?_;refine af (An @v3 (An @j1 @w3)) ?_;refine dH (by exact aZ trivial) o6 bW ?_;refine af ae ?_;refine dB ?_ ?_
          ·exact dh (An @v1 (An @d4 (An @v2 (An @v3 (An @j1 (An @w3 (An @eI @sy)))))))
          ·refine af ae ?_;refine ar ae ?_;refine af @DB ?_;refine af (c8 (k:=i) om) ?_;refine aT (R.length-(i+1)) om ⟨rfl,i+1,rfl,by omega,iR.trans (jc.trans tI),?_⟩;rw[q1,q2];exact aw
        |false=>
         rw[tU]at o6;obtain⟨q1,q2⟩:=skip (by rw[uk,decide_eq_true hr,decide_eq_true pY,tU];rfl);refine af (An @r1 (An @fB @d3)) ?_;refine ar ae ?_;refine af (An @r1 (An @k1 (An @k2 (An @ql @fI)))) ?_;refine dG rfl ?_;refine af (An @v1 (An @d4 @v2)) ?_;refine dH (by exact aZ trivial) bn bW ?_;refine af (An @v3 (An @j1 @w3)) ?_;refine dH (by exact aZ trivial) o6 bW ?_;refine af ae ?_;refine dB ?_ ?_
         ·exact dh (An @v1 (An @d4 (An @v2 (An @v3 (An @j1 (An @w3 (An @eI @sy)))))))
         ·refine af ae ?_;refine ah ae ?_;refine af (c8 (k:=i) om) ?_;refine aT (R.length-(i+1)) om ⟨rfl,i+1,rfl,by omega,iR.trans (jc.trans tI),?_⟩;rw[q1,q2];exact aw
       ·rw[decide_eq_false pY]at bn;obtain⟨q1,q2⟩:=skip (by rw[uk,decide_eq_true hr,decide_eq_false pY];rfl);refine af (An @r1 (An @fB @d3)) ?_;refine ar ae ?_;refine af (An @r1 (An @k1 (An @k2 (An @ql @fI)))) ?_;refine dG rfl ?_;refine af (An @v1 (An @d4 @v2)) ?_;refine dH (by exact aZ trivial) bn bW ?_;refine qu ae ?_;refine dB ?_ ?_
        ·exact dh (An @v1 (An @d4 @v2))
        ·refine af ae ?_;refine ah ae ?_;refine af (c8 (k:=i) om) ?_;refine aT (R.length-(i+1)) om ⟨rfl,i+1,rfl,by omega,iR.trans jc,?_⟩;rw[q1,q2];exact aw
      ·have d4:decide (((r:Nat):Int)=((right:Nat):Int))=false:=df;obtain⟨q1,q2⟩:=skip (by rw[uk,decide_eq_false hr];rfl);refine af (An @r1 (An @fB @d3)) ?_;refine ar ae ?_;refine af (An @r1 (An @k1 (An @k2 (An @ql @fI)))) ?_;refine dG rfl ?_;refine qu (An @v1 @d4) ?_;refine dB ?_ ?_
       ·exact dh (An @v1 @d4)
       ·refine af ae ?_;refine ah ae ?_;refine af (c8 (k:=i) om) ?_;refine aT (R.length-(i+1)) om ⟨rfl,i+1,rfl,by omega,iR.trans jc,?_⟩;rw[q1,q2];exact aw
     ·obtain rfl:i=R.length:=om;have d3:decide (((R.length:Nat):Int)<((R.length:Nat):Int))=false:=by simp
      rw[List.take_length];cases ha:R.any (iJ gl right (l1,l2,l3))with
      |true=>
       rw[ha,if_pos rfl]at hM;refine af (An @r1 (An @fB @d3)) ?_;refine ah ae ?_;refine af ae ?_;refine ar ae ?_;refine af ae ?_;refine aO ae ?_;exact(⟨by rw[hM],xc⟩)
      |false=>
       rw[ha,if_neg (by simp)]at hM;refine af (An @r1 (An @fB @d3)) ?_;refine ah ae ?_;refine af ae ?_;refine ah ae ?_;refine af (c8 (k:=j) om) ?_;refine aT (S.length-(j+1)) om ⟨rfl,j+1,rfl,by omega,dO.trans iR,hM,aw⟩
    ·exact⟨rfl,0,rfl,Nat.zero_le _,Ext.refl _,aw⟩
   ·obtain rfl:j=S.length:=om;have d2:decide (((S.length:Nat):Int)<((S.length:Nat):Int))=false:=by simp
    rw[List.drop_length]at hM;refine af (An @dE @d2) ?_;refine ah ae ?_;refine af ae ?_;refine aO ae ?_;exact(⟨by rw[hM];rfl,By⟩)
  ·exact⟨rfl,0,rfl,Nat.zero_le _,Ext.refl _,rfl,aw⟩
 obtain⟨w,H',h,rfl,hE⟩:=key;exact⟨H',h,hE⟩
end
end
end Go.Sh
