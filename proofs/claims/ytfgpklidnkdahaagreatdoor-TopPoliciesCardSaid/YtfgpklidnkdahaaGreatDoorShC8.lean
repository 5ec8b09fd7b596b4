/-
  The writer of trees writes the source of the nodes. No conditions beyond those that stand in the theorems.
-/
import Derived.Test.YtfgpklidnkdahaaGreatDoorShC6
import Derived.Test.YtfgpklidnkdahaaGreatDoorShC7
set_option linter.all false
set_option maxHeartbeats 20000000
set_option maxRecDepth 10000
namespace Go.Sh
section
theorem Bd.ax {B0 bb:Nat} {H H':ag} {acc:List Nat} (h:Bd B0 H bb acc) (hE:Ext H H') (hb:bb<H.next):Bd B0 H' bb acc:=by
 rcases h with⟨h0,h|h⟩|⟨h0,sb,h1,h2,h3,h4,h5⟩
 ·exact .inl ⟨h0,.inl ((hE.2 bb hb).trans h)⟩
 ·exact .inl ⟨h0,.inr ((hE.2 bb hb).trans h)⟩
 ·exact .inr ⟨h0,sb,h1,Nat.lt_of_lt_of_le h2 hE.1,h3,(hE.2 bb hb).trans h4,(hE.2 sb h2).trans h5⟩
def F0 (B bb:Nat) (H H':ag):Prop:=H.next<=H'.next/\∀c,c<H.next->c≠bb->(c<B\/NB H c)->H'.get c=H.get c
theorem F0.refl (B bb:Nat) (H:ag):F0 B bb H H:=⟨Nat.le_refl _,fun _ _ _ _=>rfl⟩
theorem F0.trans {B bb:Nat} {H1 H2 H3:ag} (h:F0 B bb H1 H2) (g:F0 B bb H2 H3):F0 B bb H1 H3:=⟨Nat.le_trans h.1 g.1,fun c hc hb hd=>by
 have e:=h.2 c hc hb hd;refine(g.2 c (Nat.lt_of_lt_of_le hc h.1) hb (hd.imp id fun hn cs=>?_)).trans e;rw[e];exact hn cs⟩
theorem Ext.f0 {B bb:Nat} {H H':ag} (h:Ext H H'):F0 B bb H H':=⟨h.1,fun c hc _ _=>h.2 c hc⟩
theorem Fr.f0 {B bb:Nat} {H H':ag} (h:Fr B bb H H') (hn:H.next<=H'.next):F0 B bb H H':=⟨hn,h⟩
theorem Rg.f0 {B bb:Nat} {H H':ag} {v:SV} {z:Nat} {L:List (List SV)} (h:Rg (· <B) H v z L) (g:F0 B bb H H') (hB:B<=bb):Rg (· <B) H' v z L:=h.ax g.1 fun b hb hn=>⟨hb,g.2 b hn om (.inl hb)⟩
theorem F0.row {B bb:Nat} {H H':ag} (h:F0 B bb H H') {b:Nat} {cs:List SV} {e:TypeId} {ex ro:Bool} {frz:Nat} (hb:b<H.next) (aP:b≠bb) (hg:H.get b=some (.row cs e ex ro frz)) (he:e≠5):H'.get b=some (.row cs e ex ro frz):=
 (h.2 b hb aP (.inr fun iO e1=>by
  rw[hg]at e1;exact he (congrArg (fun o:Option cz=>match o with|some (.row _ ty _ _ _)=>ty|_=>0) e1))).trans hg
theorem NL.lower {H:ag} {v:SV} {K:List AN} (h:NL (fun _=>True) H v K):NL (· <H.next) H v K:=h.ax (Nat.le_refl _) fun b _ hb=>⟨hb,rfl⟩
theorem Nd.lower {H:ag} {c:List SV} {n:AN} (h:Nd (fun _=>True) H c n):Nd (· <H.next) H c n:=h.ax (Nat.le_refl _) fun b _ hb=>⟨hb,rfl⟩
def yI (lf:Nat) (f B bb:Nat) (H0:ag) (x:SV) (s:List Nat) (k:Nat):Prop:=∀(n:Nat) (H:ag) (acc:List Nat),F0 B bb H0 H->Bd B H bb acc->bb<H.next->acc.length+s.length<500000->3*s.length+k<=n->
 ∃v H',aj ak lf n f [.ptr bb 0,x] H=some (v,H')/\Bd B H' bb (acc++s)/\F0 B bb H H'
theorem GJ {K:List AN} {i:Nat} {a:AN} (h:K[i]? =some a):(aL (K.take i)).length+a.s.length<=(aL K).length/\aL (K.take (i+1))=aL (K.take i)++a.s:=by
 have fT:K.take (i+1)=K.take i++[a]:=by rw[List.take_succ,h];rfl
 refine⟨?_,by rw[fT,AD,uE]⟩;have e1:K=K.take i++([a]++K.drop (i+1)):=by
  conv=>lhs;rw[<-List.take_append_drop (i+1) K,fT,List.append_assoc]
 conv=>rhs;rw[e1]
 simp only[AD,uE,List.length_append];omega
@[reducible] def ZO (H0:ag) (B bb:Nat) (v:SV) (K:List AN) (acc:List Nat) (m:Nat) (ts:T) (D:DS) (H':ag):Prop:=
  D=[]/\∃i:Nat,m=K.length-i/\i<=K.length/\Bd B H' bb (acc++aL (K.take i))/\F0 B bb H0 H'/\∃z:Nat->SV,ts=((.ptr bb 0)::zz z 1 5 ((v)::(.int .i64 (K.length:Int))::(.int .i64 (i:Int))::zz z 9 7 []):T)/\(True)
section
variable {lf:Nat}
theorem DG {B bb:Nat} {H0:ag} {v:SV} {C:List (List SV)} {K:List AN} (hB:B<=bb) (hC:Rg (· <B) H0 v 5 C) (hl:C.length=K.length) (bV:∀c∈C,c.all SV.one=true) (hK:K.length<=(aL K).length)
 (hP:∀(i:Nat) (c:List SV) (nd:AN),C[i]? =some c->K[i]? =some nd->yI lf 372 B bb H0 (.agg c) nd.s 9) (aC:600000<lf):yI lf 325 B bb H0 v (aL K) 10:=by
 intro n H acc hF oU dz gx hn;obtain⟨n,rfl⟩:=aN (n:=n);have aW:=hC.cA;rw[hl]at aW;have key:∃w H',aj ak lf (n+1) 325 [.ptr bb 0,v] H=some (w,H')/\Bd B H' bb (acc++aL K)/\F0 B bb H H':=by
  refine cx P5.1 ?_;refine af @aW ?_;refine bH (I:=ZO H B bb v K acc) ?_ K.length ?_ om
  ·rintro m ts D H' ⟨rfl,i,rfl,hi,wS,tJ,⟨z,rfl, -⟩⟩;by_cases bw:i<K.length
   ·have d1:decide (((i:Nat):Int)<((K.length:Nat):Int))=true:=dt;have jI:K[i]? =some K[i]:=List.getElem?_eq_getElem bw;have ja:C[i]? =some C[i]:=List.getElem?_eq_getElem om;have BC:=hF.trans tJ;obtain⟨b,o,x1,hbB,bU,x2,bO⟩:=(hC.f0 BC hB).at_ ja;have ve:=hP i _ _ ja jI;have BX:=bV _ (List.mem_of_getElem? ja);obtain⟨y1,y2⟩:=GJ jI;generalize K[i]=nd at jI ve y1 y2;generalize C[i]=c at ja x2 ve BX bO;obtain⟨H5,bg⟩:∃H5,(H'.push (.row [iN 0,iN 0,.str [],.ao,.ao] 301 true false 0)).put H'.next (.row c 301 true false 0)=H5:=⟨_,rfl⟩;have bm:Ext H' H5:=by rw[<-bg];exact((Ext.refl H').push _).put (Nat.le_refl _) _
    have fw:H5.get H'.next=some (.row c 301 true false 0):=by rw[<-bg];exact bT _ _
    have iH:c7 5 (.ptr H'.next 0) c (H'.push (.row [iN 0,iN 0,.str [],.ao,.ao] 301 true false 0))=some H5:=by
     rw[iL bO,iq,bd,im (by rw[bO];exact Nat.le_refl _) (Nat.le_refl _) BX,<-bg,bO];simp
    have x3:aq ((H'.push (.row [iN 0,iN 0,.str [],.ao,.ao] 301 true false 0)).get b) o 5=some c:=by rw[cU bU];exact x2
    have r5:aq (H5.get H'.next) 0 5=some c:=by rw[fw,jl om,List.drop_zero,<-bO,List.take_length]
    have bn:(SV.agg c).cells=c:=rfl;have BT:bb<H'.next:=Nat.lt_of_lt_of_le dz tJ.1;have jf:F0 B bb H' H5:=bm.f0;obtain⟨w,H6,cP,E6,mY⟩:=ve n H5 _ (BC.trans jf) (wS.ax bm BT) (Nat.lt_of_lt_of_le BT bm.1) (by rw[List.length_append];omega) om;refine af @d1 ?_;refine ar ae ?_;refine af (An @x1 (An @x2 (An @x3 (An @bn (An @iH @r5))))) ?_;refine ai ae cP ?_;refine af (c8 (k:=i) om) ?_;refine aT (K.length-(i+1)) om ⟨rfl,i+1,rfl,by omega,by rw[y2,<-List.append_assoc];exact E6,tJ.trans (jf.trans mY),aw⟩
   ·have bw:i=K.length:=om;subst bw;have d1:decide (((K.length:Nat):Int)<((K.length:Nat):Int))=false:=by simp
    rw[List.take_length]at wS;refine af @d1 ?_;refine ah ae ?_;refine af ae ?_;refine cF bQ ?_;exact(⟨wS,tJ⟩)
  ·exact⟨rfl,0,rfl,Nat.zero_le _,by simpa[aL]using oU,F0.refl _ _ _,aw⟩
 exact key
theorem ku {n B bb:Nat} {H:ag} {acc s:List Nat} (h:Bd B H bb acc) (hB:B<=bb) (dz:bb<H.next) (hl:acc.length+s.length<1000000) (hn:2<=n):
 ∃v H',aj ak lf n 21 [.ptr bb 0,.str s] H=some (v,H')/\Bd B H' bb (acc++s)/\F0 B bb H H'/\bb<H'.next:=by
 obtain⟨v,H',h1,h2,h3,h4⟩:=amd (lf:=lf) (n:=n) h om dz hl hn;exact⟨v,H',h1,h2,h4.f0 h3,by omega⟩
theorem Y4 {n B bb c:Nat} {H:ag} {acc:List Nat} (h:Bd B H bb acc) (hB:B<=bb) (dz:bb<H.next) (hl:acc.length+1<1000000) (hn:2<=n):
 ∃v H',aj ak lf n 301 [.ptr bb 0,.int .u8 (c:Int)] H=some (v,H')/\Bd B H' bb (acc++[c])/\F0 B bb H H'/\bb<H'.next:=by
 obtain⟨v,H',h1,h2,h3,h4⟩:=al6 (lf:=lf) (n:=n) (c:=c) h om dz hl hn;exact⟨v,H',h1,h2,h4.f0 h3,by omega⟩
end
end
section
@[reducible] def ZX (H0:ag) (B bb nb k:Nat) (av:SV) (A:List AA) (acc:List Nat) (m:Nat) (ts:T) (D:DS) (H':ag):Prop:=
  D=[]/\∃i:Nat,m=A.length-i/\i<=A.length/\Bd B H' bb (acc++bN (A.take i))/\F0 B bb H0 H'/\∃z:Nat->SV,ts=((.ptr bb 0)::z 1::(.int .i64 (k:Int))::zz z 3 14 ((av)::(.int .i64 (A.length:Int))::(.int .i64 (i:Int))::zz z 20 22 []):T)/\(True)
section
variable {lf:Nat}
theorem amb {B bb k:Nat} {H0:ag} {kv av:SV} {D:List (List SV)} {K:List AN} {A:List AA} (hB:B<=bb) (hk:k=2\/k=3) (FK:SV.one kv=true) (hK:yI lf 325 B bb H0 kv (aL K) 10) (hD:Rg (· <B) H0 av 3 D) (hA:D.length=A.length)
 (ha:∀(i:Nat) (d:List SV) (a:AA),D[i]? =some d->A[i]? =some a->∃nv vv,d=[.bool a.1,nv,vv]/\SV.one nv=true/\SV.one vv=true/\yI lf 325 B bb H0 nv (aL a.2.1) 10/\yI lf 325 B bb H0 vv (aL a.2.2) 10) (aC:600000<lf)
 {n:Nat} {H:ag} {acc:List Nat} (hF:F0 B bb H0 H) (oU:Bd B H bb acc) (dz:bb<H.next) (gx:acc.length+((aL K).length+(bN A).length+2*k)<500000) (hn:3*((aL K).length+(bN A).length)+12<=n):
 ∃v H',aj ak lf n 401 [.ptr bb 0,.agg [iN (k+2),iN 0,.str [],kv,av],iN k] H=some (v,H')/\Bd B H' bb (acc++(List.replicate k 123++aL K++bN A++List.replicate k 125))/\F0 B bb H H':=by
 obtain⟨n,rfl⟩:=aN (n:=n);obtain⟨H1,ay⟩:∃H1,H.push (.row [iN (k+2),iN 0,.str [],kv,av] 301 true false 0)=H1:=⟨_,rfl⟩;have aB:Ext H H1:=by rw[<-ay];exact(Ext.refl H).push _
 have ca:H1.next=H.next+1:=by rw[<-ay];rfl
 have bP:H1.get H.next=some (.row [iN (k+2),iN 0,.str [],kv,av] 301 true false 0):=by rw[<-ay];exact bd _
 have bn:(SV.agg [iN (k+2),iN 0,.str [],kv,av]).cells=[iN (k+2),iN 0,.str [],kv,av]:=rfl;have Tv:F0 B bb H H1:=aB.f0;obtain⟨w2,H2,aH,nN,ib,eo⟩:=ku (lf:=lf) (n:=n) (s:=List.replicate k 123) (oU.ax aB dz) hB om (by rw[List.length_replicate];omega) om;have gg:k<=3:=om;have bE:([123,123,123]:List Nat).take (k-0)=List.replicate k 123:=by rcases hk with rfl|rfl<;>rfl
 have MO:([125,125,125]:List Nat).take (k-0)=List.replicate k 125:=by rcases hk with rfl|rfl<;>rfl
 have Uv:(acc++List.replicate k 123).length=acc.length+k:=by rw[List.length_append,List.length_replicate]
 have bB:=ib.row (b:=H.next) om om bP (by decide);obtain⟨w3,H3,bf,KY,je⟩:=hK n H2 _ (hF.trans (Tv.trans ib)) nN eo (by rw[Uv];omega) om;have iS:bb<H3.next:=Nat.lt_of_lt_of_le eo je.1;have dA:=je.row (b:=H.next) (by have:=ib.1;omega) om bB (by decide);have Ty:F0 B bb H H3:=Tv.trans (ib.trans je);have r3:aq (H2.get H.next) 3 1=some [kv]:=by rw[bB];rfl
 have r4:aq (H3.get H.next) 4 1=some [av]:=by rw[dA];rfl
 have aW:=hD.cA;rw[hA]at aW;have e3:((3:Nat):Int)=((([123,123,123]:List Nat).length:Nat):Int):=rfl;have Uw:(acc++List.replicate k 123++aL K).length=acc.length+k+(aL K).length:=by rw[List.length_append,Uv]
 have fP:=qz A;have key:∃w H',aj ak lf (n+1) 401 [.ptr bb 0,.agg [iN (k+2),iN 0,.str [],kv,av],iN k] H=some (w,H')/\Bd B H' bb (acc++(List.replicate k 123++aL K++bN A++List.replicate k 125))/\F0 B bb H H':=by
  refine cx Qp.1 ?_;refine af (An @bn (An @ay @bE)) ?_;refine ai ae aH ?_;refine af @r3 ?_;refine ai ae bf ?_;refine af (An @r4 @aW) ?_;refine bH (I:=ZX H3 B bb H.next k av A (acc++List.replicate k 123++aL K)) ?_ A.length ?_ om
  ·rintro m ts D' H' ⟨rfl,i,rfl,hi,wS,tJ,⟨z,rfl, -⟩⟩;have BT:bb<H'.next:=Nat.lt_of_lt_of_le iS tJ.1;by_cases bw:i<A.length
   ·have d1:decide (((i:Nat):Int)<((A.length:Nat):Int))=true:=dt;have qM:A[i]? =some A[i]:=List.getElem?_eq_getElem bw;have tG:D[i]? =some D[i]:=List.getElem?_eq_getElem om;have BC:=hF.trans (Ty.trans tJ);obtain⟨b,o,x1,hbB,bU,x2,bO⟩:=(hD.f0 BC hB).at_ tG;obtain⟨nv,vv,hd,on,ov,cn,cv⟩:=ha i _ _ tG qM;rw[hd]at x2;obtain⟨y1,y2⟩:=En qM;have y3:bN (A.take (i+1))=bN (A.take i)++gL A[i]:=by rw[y2,vT];simp[bN]
    generalize A[i]=a at qM cn cv y1 y3 x2;have Bx:(gL a).length=1+((if a.1 then(aL a.2.1).length+1 else 0)+(aL a.2.2).length):=by
     unfold gL;split<;>simp<;>omega
    obtain⟨H5,bg⟩:∃H5,(H'.push (.row [.bool false,.ao,.ao] 331 true false 0)).put H'.next (.row [.bool a.1,nv,vv] 331 true false 0)=H5:=⟨_,rfl⟩;have bm:Ext H' H5:=by rw[<-bg];exact((Ext.refl H').push _).put (Nat.le_refl _) _
    have iG:H5.next=H'.next+1:=by rw[<-bg];rfl
    have fw:H5.get H'.next=some (.row [.bool a.1,nv,vv] 331 true false 0):=by rw[<-bg];exact bT _ _
    have iH:c7 3 (.ptr H'.next 0) [.bool a.1,nv,vv] (H'.push (.row [.bool false,.ao,.ao] 331 true false 0))=some H5:=by
     rw[iL (n:=3) (cs:=[.bool a.1,nv,vv]) rfl,iq,bd,im (Nat.le_refl _) (Nat.le_refl _) (by simp only[List.all_cons,on,ov,List.all_nil];rfl),<-bg];rfl
    have x3:aq ((H'.push (.row [.bool false,.ao,.ao] 331 true false 0)).get b) o 3=some [.bool a.1,nv,vv]:=by rw[cU bU];exact x2
    have aec:(SV.agg [.bool a.1,nv,vv]).cells=[.bool a.1,nv,vv]:=rfl;have jf:F0 B bb H' H5:=bm.f0;have zu:(acc++List.replicate k 123++aL K++bN (A.take i)).length=acc.length+k+(aL K).length+(bN (A.take i)).length:=by rw[List.length_append,Uw]
    obtain⟨w6,H6,cP,E6,mY,iC⟩:=Y4 (lf:=lf) (n:=n) (c:=124) (wS.ax bm BT) hB om (by rw[zu];omega) om;have ie:=mY.row (b:=H'.next) om om fw (by decide);obtain⟨nb,lG⟩:∃nb,H'.next=nb:=⟨_,rfl⟩;rw[lG]at iH ie iG;have FU:nb<H6.next:=by have:=mY.1;omega
    have Ml:nb≠bb:=om;have z0:aq (H6.get nb) 0 1=some [.bool a.1]:=by rw[ie];rfl
    have z1:aq (H6.get nb) 1 1=some [nv]:=by rw[ie];rfl
    have Tz:=BC.trans (jf.trans mY);refine af @d1 ?_;refine ar ae ?_;refine af (An @x1 (An @x2 (An @x3 (An @aec (An @lG @iH))))) ?_;refine ai ae cP ?_;refine af @z0 ?_;refine nJ (fun ts H7=>Bd B H7 bb (acc++List.replicate k 123++aL K++bN (A.take i)++[124]++(if a.1 then aL a.2.1++[61]else[]))/\F0 B bb H6 H7/\∃z:Nat->SV,ts=((.ptr bb 0)::z 1::(.int .i64 (k:Int))::zz z 3 4 ((.ptr nb 0)::zz z 8 9 ((av)::(.int .i64 (A.length:Int))::(.int .i64 (i:Int))::zz z 20 22 [])):T)/\(True)) ?_ (fun aA H7 gR=>?_)
    ·cases fF:a.1 with
     |false=>
      refine ah @fF ?_;refine af ae ?_;exact⟨rfl,rfl,by simpa using E6,F0.refl _ _ _,aw⟩
     |true=>
      rw[fF,if_pos rfl]at Bx;obtain⟨w7,H7,iD,KZ,pR⟩:=cn n H6 _ Tz E6 iC (by rw[List.length_append,zu];simp only[List.length_cons,List.length_nil];omega) om;obtain⟨w8,H8,mr,adF,Fg,pV⟩:=Y4 (lf:=lf) (n:=n) (c:=61) KZ hB (Nat.lt_of_lt_of_le iC pR.1) (by rw[List.length_append,List.length_append,zu];simp only[List.length_cons,List.length_nil];omega) om;refine ar @fF ?_;refine af @z1 ?_;refine ai ae iD ?_;refine af ae ?_;refine ai ae mr ?_;refine af ae ?_;refine⟨rfl,rfl,?_,pR.trans Fg,aw⟩;rw[if_pos rfl,<-List.append_assoc];exact adF
    ·obtain⟨KZ,pR,⟨z,rfl, -⟩⟩:=gR;have gU:=pR.row (b:=nb) FU Ml ie (by decide);have z2:aq (H7.get nb) 2 1=some [vv]:=by rw[gU];rfl
     obtain⟨w9,H9,sA,E7,K4⟩:=cv n H7 _ (Tz.trans pR) KZ (Nat.lt_of_lt_of_le iC pR.1) (by
      rw[List.length_append,List.length_append,zu];simp only[List.length_cons,List.length_nil];split<;>simp_all<;>omega) om
     refine af @z2 ?_;refine ai ae sA ?_;refine af (c8 (k:=i) om) ?_;refine aT (A.length-(i+1)) om ⟨rfl,i+1,rfl,by omega,?_,tJ.trans (jf.trans (mY.trans (pR.trans K4))),aw⟩;rw[y3,show gL a=[124]++((if a.1 then aL a.2.1++[61]else[])++aL a.2.2)from rfl];simp only[<-List.append_assoc]at E7 ⊢;exact E7
   ·have bw:i=A.length:=om;subst bw;have d1:decide (((A.length:Nat):Int)<((A.length:Nat):Int))=false:=by simp
    rw[List.take_length]at wS;obtain⟨w9,H9,sA,E7,K4,_⟩:=ku (lf:=lf) (n:=n) (s:=List.replicate k 125) wS hB BT (by rw[List.length_append,Uw,List.length_replicate];omega) om;refine af @d1 ?_;refine ah ae ?_;refine af @MO ?_;refine ai ae sA ?_;refine af ae ?_;refine cF bQ ?_;exact(⟨by simpa only[List.append_assoc]using E7,Ty.trans (tJ.trans K4)⟩)
  ·exact⟨rfl,0,rfl,Nat.zero_le _,by simpa[bN]using KY,F0.refl _ _ _,aw⟩
 exact key
theorem alo {n g:Nat} {H:ag} (hg:g=1\/g=2\/g=3) (hn:1<=n):aj ak lf n 402 [iN g] H=some (.str (cV g),H):=by
 obtain⟨n,rfl⟩:=aN (n:=n);have key:∃w H',aj ak lf (n+1) 402 [iN g] H=some (w,H')/\w=.str (cV g)/\H'=H:=by
  rcases hg with rfl|rfl|rfl
  ·have d1:decide (((1:Nat):Int)=((1:Nat):Int))=true:=by decide
   refine cx DW.1 ?_;refine af @d1 ?_;refine ar ae ?_;refine af ae ?_;refine aO ae ?_;exact(⟨rfl,rfl⟩)
  ·have d1:decide (((2:Nat):Int)=((1:Nat):Int))=false:=by decide
   have d2:decide (((2:Nat):Int)=((2:Nat):Int))=true:=by decide
   refine cx DW.1 ?_;refine af @d1 ?_;refine ah ae ?_;refine af @d2 ?_;refine ar ae ?_;refine af ae ?_;refine aO ae ?_;exact(⟨rfl,rfl⟩)
  ·have d1:decide (((3:Nat):Int)=((1:Nat):Int))=false:=by decide
   have d2:decide (((3:Nat):Int)=((2:Nat):Int))=false:=by decide
   have d3:decide (((3:Nat):Int)=((3:Nat):Int))=true:=by decide
   refine cx DW.1 ?_;refine af @d1 ?_;refine ah ae ?_;refine af @d2 ?_;refine ah ae ?_;refine af @d3 ?_;refine ar ae ?_;refine af ae ?_;refine aO ae ?_;exact(⟨rfl,rfl⟩)
 obtain⟨w,H',h,rfl,rfl⟩:=key;exact h
theorem agB (k j:Nat):decide (((k:Nat):Int)=((j:Nat):Int))=decide (k=j):=by
 by_cases h:k=j
 ·subst h;simp
 ·rw[decide_eq_false h,decide_eq_false om]
theorem amc {B bb:Nat} {H0:ag} {c:List SV} {nd:AN} (hB:B<=bb) (h:Nd (· <B) H0 c nd) (aC:600000<lf):yI lf 372 B bb H0 (.agg c) nd.s 9:=by
 induction h with
 |text s h=>
  intro n H acc hF oU dz gx hn;obtain⟨n,rfl⟩:=aN (n:=n);have aB:Ext H (H.push (.row [iN 1,iN 0,.str s,.ao,.ao] 301 true false 0)):=(Ext.refl H).push _;obtain⟨w2,H2,aH,nN,ib,eo⟩:=ku (lf:=lf) (n:=n) (s:=s) (oU.ax aB dz) hB (Nat.lt_of_lt_of_le dz aB.1) (by simp only[]at gx;omega) om;have key:∃w H',aj ak lf (n+1) 372 [.ptr bb 0,.agg [iN 1,iN 0,.str s,.ao,.ao]] H=some (w,H')/\Bd B H' bb (acc++s)/\F0 B bb H H':=by
   have d1:decide (((1:Nat):Int)=((1:Nat):Int))=true:=by decide
   refine cx wc.1 ?_;refine af @d1 ?_;refine ar ae ?_;refine af ae ?_;refine ar ae ?_;refine af ae ?_;refine ai ae aH ?_;refine af ae ?_;refine cF bQ ?_;exact(⟨nN,aB.f0.trans ib⟩)
  exact key
 |comment s h=>
  intro n H acc hF oU dz gx hn;obtain⟨n,rfl⟩:=aN (n:=n);have aB:Ext H (H.push (.row [iN 2,iN 0,.str s,.ao,.ao] 301 true false 0)):=(Ext.refl H).push _;obtain⟨w2,H2,aH,nN,ib,eo⟩:=ku (lf:=lf) (n:=n) (s:=s) (oU.ax aB dz) hB (Nat.lt_of_lt_of_le dz aB.1) (by simp only[]at gx;omega) om;have key:∃w H',aj ak lf (n+1) 372 [.ptr bb 0,.agg [iN 2,iN 0,.str s,.ao,.ao]] H=some (w,H')/\Bd B H' bb (acc++s)/\F0 B bb H H':=by
   have d1:decide (((2:Nat):Int)=((1:Nat):Int))=false:=by decide
   have d2:decide (((2:Nat):Int)=((2:Nat):Int))=true:=by decide
   refine cx wc.1 ?_;refine af @d1 ?_;refine ah ae ?_;refine af @d2 ?_;refine ar ae ?_;refine af ae ?_;refine ai ae aH ?_;refine af ae ?_;refine cF bQ ?_;exact(⟨nN,aB.f0.trans ib⟩)
  exact key
 |sR s=>
  intro n H acc hF oU dz gx hn;obtain⟨n,rfl⟩:=aN (n:=n);have aB:Ext H (H.push (.row [iN 3,iN 0,.str s,.ao,.ao] 301 true false 0)):=(Ext.refl H).push _;have hl:(eB++s++gB).length=s.length+17:=by simp[eB,gB]<;>omega
  simp only[]at gx;obtain⟨w2,H2,aH,nN,ib,eo⟩:=ku (lf:=lf) (n:=n) (s:=eB++s++gB) (oU.ax aB dz) hB (Nat.lt_of_lt_of_le dz aB.1) om om;have a1:bX .add (.str [60,110,111,119,105,107,105,62]) (.str s)=some (.str (eB++s)):=eT (by simp;omega);have a2:bX .add (.str (eB++s)) (.str [60,47,110,111,119,105,107,105,62])=some (.str (eB++s++gB)):=eT (by simp[eB];omega);have key:∃w H',aj ak lf (n+1) 372 [.ptr bb 0,.agg [iN 3,iN 0,.str s,.ao,.ao]] H=some (w,H')/\Bd B H' bb (acc++(eB++s++gB))/\F0 B bb H H':=by
   have dF:∀j:Nat,j≠3->decide (((3:Nat):Int)=((j:Nat):Int))=false:=fun j hj=>by simp only[decide_eq_false_iff_not];omega
   have dT:decide (((3:Nat):Int)=((3:Nat):Int))=true:=by decide
   refine cx wc.1 ?_;refine af @dF ?_;refine ah ae ?_;refine af @dF ?_;refine ah ae ?_;refine af @dT ?_;refine ar ae ?_;refine af (An @a1 @a2) ?_;refine ai ae aH ?_;refine af ae ?_;refine cF bQ ?_;exact(⟨nN,aB.f0.trans ib⟩)
  exact key
 |qC k hk kv av C D K A nC vC hC hl nu hD hA ha h1 h2 ih zR zS=>
  intro n H acc hF oU dz gx hn;obtain⟨n,rfl⟩:=aN (n:=n);have hlen:(List.replicate k 123++aL K++bN A++List.replicate k 125).length=(aL K).length+(bN A).length+2*k:=by simp;omega
  simp only[]at gx hn ih zR zS;rw[hlen]at gx hn;have jj:=Nd.qC (ok:=(· <B)) k hk kv av C D K A nC vC hC hl nu hD hA ha h1 h2;have Mw:∀(L:List (List SV)) (M:List AN),bG (Nd (· <B) H0) L M->(∀c∈L,c.all SV.one=true)/\M.length<=(aL M).length:=fun L M h=>⟨fun c hc=>by
   obtain⟨b,_,hr⟩:=h.vD c hc;exact hr.one,xV fun m hm=>by
   obtain⟨b,_,hr⟩:=h.mem m hm;exact hr.ne⟩
  have hK:=Mw _ _ (bG.of hl nu);obtain⟨H1,ay⟩:∃H1,H.push (.row [iN (k+2),iN 0,.str [],kv,av] 301 true false 0)=H1:=⟨_,rfl⟩;have aB:Ext H H1:=by rw[<-ay];exact(Ext.refl H).push _
  have bP:H1.get H.next=some (.row [iN (k+2),iN 0,.str [],kv,av] 301 true false 0):=by rw[<-ay];exact bd _
  have bn:(SV.agg [iN (k+2),iN 0,.str [],kv,av]).cells=[iN (k+2),iN 0,.str [],kv,av]:=rfl;have r0:aq (H1.get H.next) 0 1=some [iN (k+2)]:=by rw[bP];rfl
  have r5:aq (H1.get H.next) 0 5=some [iN (k+2),iN 0,.str [],kv,av]:=by rw[bP];rfl
  obtain⟨w2,H2,aH,nN,ib⟩:=amb (lf:=lf) (n:=n) hB hk hC.one (DG hB hC hl hK.1 hK.2 ih aC) hD hA (fun i d a hd nf=>by
   obtain⟨nv,vv,e,q1,q2,q3,q4⟩:=ha i d a hd nf;have hN:=Mw _ _ (bG.of q2 fun j c n=>h1 i j a c n nf);have hV:=Mw _ _ (bG.of q4 fun j c n=>h2 i j a c n nf);exact⟨nv,vv,e,q1.one,q3.one,DG hB q1 q2 hN.1 hN.2 (fun j c n hc hn=>zR i j a c n nf hc hn) aC,DG hB q3 q4 hV.1 hV.2 (fun j c n hc hn=>zS i j a c n nf hc hn) aC⟩) aC (hF.trans aB.f0) (oU.ax aB dz) (Nat.lt_of_lt_of_le dz aB.1) om om
  have key:∃w H',aj ak lf (n+1) 372 [.ptr bb 0,.agg [iN (k+2),iN 0,.str [],kv,av]] H=some (w,H')/\Bd B H' bb (acc++(List.replicate k 123++aL K++bN A++List.replicate k 125))/\F0 B bb H H':=by
   have dk:=fun j=>agB (k+2) j
   rcases hk with rfl|rfl
   ·have dF:∀j:Nat,j≠4->decide (((2+2:Nat):Int)=((j:Nat):Int))=false:=fun j hj=>by simp only[decide_eq_false_iff_not];omega
    have dT:decide (((2+2:Nat):Int)=((4:Nat):Int))=true:=by decide
    refine cx wc.1 ?_;refine af (An @bn (An @ay (An @r0 @dF))) ?_;refine ah ae ?_;refine af @dF ?_;refine ah ae ?_;refine af @dF ?_;refine ah ae ?_;refine af @dT ?_;refine ar ae ?_;refine af @r5 ?_;refine ai ae aH ?_;refine af ae ?_;refine cF bQ ?_;exact(⟨nN,aB.f0.trans ib⟩)
   ·have dF:∀j:Nat,j≠5->decide (((3+2:Nat):Int)=((j:Nat):Int))=false:=fun j hj=>by simp only[decide_eq_false_iff_not];omega
    have dT:decide (((3+2:Nat):Int)=((5:Nat):Int))=true:=by decide
    refine cx wc.1 ?_;refine af (An @bn (An @ay (An @r0 @dF))) ?_;refine ah ae ?_;refine af @dF ?_;refine ah ae ?_;refine af @dF ?_;refine ah ae ?_;refine af @dF ?_;refine ah ae ?_;refine af @dT ?_;refine ar ae ?_;refine af @r5 ?_;refine ai ae aH ?_;refine af ae ?_;refine cF bQ ?_;exact(⟨nN,aB.f0.trans ib⟩)
  exact key
 |tag g hg kv C K hC hl nu ih=>
  intro n H acc hF oU dz gx hn;obtain⟨n,rfl⟩:=aN (n:=n);have qY:(bR g).length<=13/\(bS g).length<=14/\11<=(bR g).length/\11<=(bS g).length/\(cV g).length<=11:=by rcases hg with rfl|rfl|rfl<;>decide
  have hlen:(bR g++aL K++bS g).length=(aL K).length+(bR g).length+(bS g).length:=by simp;omega
  simp only[]at gx hn ih;rw[hlen]at gx hn;have hK:(∀c∈C,c.all SV.one=true)/\K.length<=(aL K).length:=⟨fun c hc=>by
   obtain⟨b,_,hr⟩:=(bG.of hl nu).vD c hc;exact hr.one,xV fun m hm=>by
   obtain⟨b,_,hr⟩:=(bG.of hl nu).mem m hm;exact hr.ne⟩
  obtain⟨H1,ay⟩:∃H1,H.push (.row [iN 6,iN g,.str [],kv,.ao] 301 true false 0)=H1:=⟨_,rfl⟩;have aB:Ext H H1:=by rw[<-ay];exact(Ext.refl H).push _
  have ca:H1.next=H.next+1:=by rw[<-ay];rfl
  have bP:H1.get H.next=some (.row [iN 6,iN g,.str [],kv,.ao] 301 true false 0):=by rw[<-ay];exact bd _
  have bn:(SV.agg [iN 6,iN g,.str [],kv,.ao]).cells=[iN 6,iN g,.str [],kv,.ao]:=rfl;have r0:aq (H1.get H.next) 0 1=some [iN 6]:=by rw[bP];rfl
  have r1:aq (H1.get H.next) 1 1=some [iN g]:=by rw[bP];rfl
  have og:=alo (lf:=lf) (n:=n) (H:=H1) hg om;have aP:cV g≠[]:=by rcases hg with rfl|rfl|rfl<;>decide
  have d0:decide (cV g=[])=false:=decide_eq_false aP;obtain⟨w2,H2,aH,nN,ib,eo⟩:=ku (lf:=lf) (n:=n) (s:=bR g) (oU.ax aB dz) hB om om om;have bB:=ib.row (b:=H.next) om om bP (by decide);have r3:aq (H2.get H.next) 3 1=some [kv]:=by rw[bB];rfl
  obtain⟨w3,H3,bf,KY,je⟩:=DG hB hC hl hK.1 hK.2 ih aC n H2 _ (hF.trans (aB.f0.trans ib)) nN eo (by rw[List.length_append];omega) om;obtain⟨w4,H4,fx,adE,pQ,k8⟩:=ku (lf:=lf) (n:=n) (s:=bS g) KY hB (Nat.lt_of_lt_of_le eo je.1) (by rw[List.length_append,List.length_append];omega) om;have a1:bX .add (.str [60]) (.str (cV g))=some (.str ([60]++cV g)):=eT (by simp;omega);have a2:bX .add (.str ([60]++cV g)) (.str [62])=some (.str (bR g)):=eT (by simp;omega);have a3:bX .add (.str [60,47]) (.str (cV g))=some (.str ([60,47]++cV g)):=eT (by simp;omega);have a4:bX .add (.str ([60,47]++cV g)) (.str [62])=some (.str (bS g)):=eT (by simp;omega);have key:∃w H',aj ak lf (n+1) 372 [.ptr bb 0,.agg [iN 6,iN g,.str [],kv,.ao]] H=some (w,H')/\Bd B H' bb (acc++(bR g++aL K++bS g))/\F0 B bb H H':=by
   have dF:∀j:Nat,j≠6->decide (((6:Nat):Int)=((j:Nat):Int))=false:=fun j hj=>by simp only[decide_eq_false_iff_not];omega
   have dT:decide (((6:Nat):Int)=((6:Nat):Int))=true:=by decide
   obtain⟨o1,Mv⟩:∃o,[60]++cV g=o:=⟨_,rfl⟩;obtain⟨o2,ig⟩:∃o,[60,47]++cV g=o:=⟨_,rfl⟩;rw[Mv]at a1 a2;rw[ig]at a3 a4;generalize cV g=tn at og d0 a1 a3;refine cx wc.1 ?_;refine af (An @bn (An @ay (An @r0 @dF))) ?_;refine ah ae ?_;refine af @dF ?_;refine ah ae ?_;refine af @dF ?_;refine ah ae ?_;refine af @dF ?_;refine ah ae ?_;refine af @dF ?_;refine ah ae ?_;refine af @dT ?_;refine ar ae ?_;refine af @r1 ?_;refine ai ae og ?_;refine af @d0 ?_;refine ah ae ?_;refine af (An @a1 @a2) ?_;refine ai ae aH ?_;refine af @r3 ?_;refine ai ae bf ?_;refine af (An @a3 @a4) ?_;refine ai ae fx ?_;refine af ae ?_;refine cF bQ ?_;exact(⟨by simpa only[List.append_assoc]using adE,aB.f0.trans (ib.trans (je.trans pQ))⟩)
  exact key
end
end
end Go.Sh
