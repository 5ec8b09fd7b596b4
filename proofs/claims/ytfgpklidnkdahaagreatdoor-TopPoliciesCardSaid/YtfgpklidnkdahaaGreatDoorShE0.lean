/-
  The program decides a change as the plain law says. No conditions beyond those that stand in the theorems.
-/
import Derived.Test.YtfgpklidnkdahaaGreatDoorShD5
import Derived.Test.YtfgpklidnkdahaaGreatDoorShD6
set_option linter.all false
set_option maxHeartbeats 20000000
set_option maxRecDepth 10000
namespace Go.Sh
section
section
variable {lf n:Nat} {H:ag}
@[reducible] def Zt (H1:ag) (v:SV) (s:List Nat) (L:List cW) (m:Nat) (ts:T) (D:DS) (H':ag):Prop:=
  D=[]/\Ext H1 H'/\∃i:Nat,m=L.length-i/\i<=L.length/\oT L s=iz (fun x=>decide (x.title=s)) (L.drop i) i/\∃z:Nat->SV,ts=(z 0::(.str s)::zz z 2 8 ((v)::(.int .i64 (L.length:Int))::(.int .i64 (i:Int))::zz z 13 10 []):T)/\(True)
theorem acP {v:SV} {L:List cW} {t:List Nat} (hL:br H v 5 (L.map dL)) (hl:L.length<100000) (ht:eE t) (fU:t.length<1000) (hn:4<=n) (aC:600000<lf):
 ∃i H',aj ak lf n 115 [v,.str t] H=some (.aJ [iN i,.bool (oT L (mM t)).isSome],H')/\Ext H H'/\∀j,oT L (mM t)=some j->i=j:=by
 obtain⟨n,rfl⟩:=aN (n:=n);obtain⟨H1,aV,aB⟩:=yu (lf:=lf) (n:=n) (H:=H) ht om om om om;have MY:(b9 isSp t).dropWhile isSp=mM t:=rfl;rw[MY]at aV;generalize mM t=s at aV ⊢;have Fi:=hL.ax aB;have aW:=hL.cA;rw[List.length_map]at aW;have key:∃w H',aj ak lf (n+1) 115 [v,.str t] H=some (w,H')/\∃i,w=.aJ [iN i,.bool (oT L s).isSome]/\Ext H H'/\∀j,oT L s=some j->i=j:=by
  refine cx Pq.1 ?_;refine af ae ?_;refine ai ae aV ?_;refine af @aW ?_;refine bH (I:=Zt H1 v s L) ?_ L.length ?_ om
  ·rintro m ts D H' ⟨rfl,aF,i,rfl,hi,hf,⟨z,rfl, -⟩⟩;by_cases bw:i<L.length
   ·have d1:decide (((i:Nat):Int)<((L.length:Nat):Int))=true:=dt;have hx:L[i]? =some L[i]:=List.getElem?_eq_getElem bw;have eX:(L.map dL)[i]? =some (dL L[i]):=by simp[bw]
    obtain⟨b,o,h1,h2,h3,_⟩:=(Fi.ax aF).at_ eX;rw[EW hx]at hf;generalize L[i]=x at hx eX h3 hf;obtain⟨x1,x2,x3,x4,x5⟩:=x;have bj:aq (H'.get b) o 5=some [iN x1,.str x2,iN x3,iN x4,iN x5]:=h3;obtain⟨H5,bg⟩:∃H5,(H'.push (.row [iN 0,.str [],iN 0,iN 0,iN 0] 184 true false 0)).put H'.next (.row [iN x1,.str x2,iN x3,iN x4,iN x5] 184 true false 0)=H5:=⟨_,rfl⟩;have bm:Ext H' H5:=by rw[<-bg];exact((Ext.refl H').push _).put (Nat.le_refl _) _
    have fS:H5.get H'.next=some (.row [iN x1,.str x2,iN x3,iN x4,iN x5] 184 true false 0):=by rw[<-bg];exact bT _ _
    by_cases hc:x2=s
    ·rw[if_pos (by simpa using hc)]at hf;have d2:decide (x2=s)=true:=by simpa using hc
     refine af @d1 ?_;refine ar ae ?_;refine af (An @h1 (An @bj (An @bg (An @fS @d2)))) ?_;refine ar ae ?_;refine af ae ?_;refine cD ae ?_;exact(⟨i,by rw[hf];rfl,aB.trans (aF.trans bm),fun j hj=>by rw[hf]at hj;exact Option.some.inj hj⟩)
    ·rw[if_neg (by simpa using hc)]at hf;have d2:decide (x2=s)=false:=by simpa using hc
     refine af @d1 ?_;refine ar ae ?_;refine af (An @h1 (An @bj (An @bg (An @fS @d2)))) ?_;refine ah ae ?_;refine af ae ?_;refine aT (L.length-(i+1)) om ⟨rfl,aF.trans bm,i+1,rfl,by omega,hf,aw⟩
   ·have gV:i=L.length:=om;subst gV;have d1:decide (((L.length:Nat):Int)<((L.length:Nat):Int))=false:=by simp
    rw[EV]at hf;refine af @d1 ?_;refine ah ae ?_;refine af ae ?_;refine cD ae ?_;exact(⟨0,by rw[hf];rfl,aB.trans aF,fun j hj=>by rw[hf]at hj;cases hj⟩)
  ·exact⟨rfl,Ext.refl _,0,rfl,Nat.zero_le _,rfl,aw⟩
 obtain⟨w,H',h,i,rfl,h1,h2⟩:=key;exact⟨i,H',h,h1,h2⟩
theorem aaL {s:List Nat} {i:Nat} {x:cW} (hs:eE s) (hlen:s.length<=8192) (hi:(lR s)[i]? =some x) (hn:3*s.length+16<=n) (aC:600000<lf):
 ∃H',aj ak lf n 186 [.str s,iN i] H=some (.aJ [.agg (dL x),iN 0],H')/\Ext H H':=by
 obtain⟨n,rfl⟩:=aN (n:=n);obtain⟨H0,jt⟩:∃H0,H.push (.row [iN 0,.str [],iN 0,iN 0,iN 0] 184 true false 0)=H0:=⟨_,rfl⟩;have nO:Ext H H0:=by rw[<-jt];exact(Ext.refl H).push _
 have kL:H0.next=H.next+1:=by rw[<-jt];rfl
 have qX:H0.get H.next=some (.row [iN 0,.str [],iN 0,iN 0,iN 0] 184 true false 0):=by rw[<-jt];exact bd _
 obtain⟨w,H1,aV,aB,ml⟩:=X3 (lf:=lf) (n:=n) (H:=H0) hs hlen om aC;have zi:=ml.aQ (yi _);have aW:=zi.cA;rw[List.length_map]at aW;have bw:i<(lR s).length:=(List.getElem?_eq_some_iff.1 hi).1;have bE:=OG s;have eX:((lR s).map dL)[i]? =some (dL x):=by rw[List.getElem?_map,hi];rfl
 obtain⟨b,o,h1,h2,h3,_⟩:=zi.at_ eX;obtain⟨x1,x2,x3,x4,x5⟩:=x;have bj:aq (H1.get b) o 5=some [iN x1,.str x2,iN x3,iN x4,iN x5]:=h3;have bP:=(aB.2 H.next om).trans qX;have d0:decide (((0:Nat):Int)≠((0:Nat):Int))=false:=by decide
 have d1:decide (((i:Nat):Int)<((0:Nat):Int))=false:=df;have d2:decide (((i:Nat):Int)>=(((lR s).length:Nat):Int))=false:=df;have key:∃w H',aj ak lf (n+1) 186 [.str s,iN i] H=some (w,H')/\w=.aJ [.agg [iN x1,.str x2,iN x3,iN x4,iN x5],iN 0]/\Ext H H':=by
  refine cx PG.1 ?_;refine af @jt ?_;refine ai ae aV ?_;refine af @d0 ?_;refine ah ae ?_;refine af (An @d1 (An @aW @d2)) ?_;refine ah ae ?_;refine af (An @h1 (An @bj @bP)) ?_;refine cD ae ?_;exact(⟨rfl,(nO.trans aB).put (Nat.le_refl _) _⟩)
 obtain⟨w,H',h,rfl,hE⟩:=key;exact⟨H',h,hE⟩
theorem akM {s:List Nat} {i:Nat} {x:cW} (hs:eE s) (hlen:s.length<=8192) (hi:(lR s)[i]? =some x) (hn:3*s.length+17<=n) (aC:600000<lf):
 ∃H',aj ak lf n 116 [.str s,iN i] H=some (.aJ [.str ((s.drop x.aw).take (x.to-x.aw)),iN 0],H')/\Ext H H':=by
 obtain⟨n,rfl⟩:=aN (n:=n);obtain⟨H1,aV,aB⟩:=aaL (lf:=lf) (n:=n) (H:=H) hs hlen hi om aC;obtain⟨k1,k2⟩:=X2 (List.mem_of_getElem? hi);obtain⟨x1,x2,x3,x4,x5⟩:=x;have aV:aj ak lf n 186 [.str s,iN i] H=some (.aJ [.agg [iN x1,.str x2,iN x3,iN x4,iN x5],iN 0],H1):=aV;have k1:x3<=x5:=k1;have k2:x5<=s.length:=k2;obtain⟨H5,bg⟩:∃H5,(H1.push (.row [iN 0,.str [],iN 0,iN 0,iN 0] 184 true false 0)).put H1.next (.row [iN x1,.str x2,iN x3,iN x4,iN x5] 184 true false 0)=H5:=⟨_,rfl⟩;have bm:Ext H1 H5:=by rw[<-bg];exact((Ext.refl H1).push _).put (Nat.le_refl _) _
 have fS:H5.get H1.next=some (.row [iN x1,.str x2,iN x3,iN x4,iN x5] 184 true false 0):=by rw[<-bg];exact bT _ _
 have key:∃w H',aj ak lf (n+1) 116 [.str s,iN i] H=some (w,H')/\w=.aJ [.str ((s.drop x3).take (x5-x3)),iN 0]/\Ext H H':=by
  refine cx Pr.1 ?_;refine af ae ?_;refine ai ae aV ?_;refine af (An @bg @fS) ?_;refine cD ae ?_;exact(⟨rfl,aB.trans bm⟩)
 obtain⟨w,H',h,rfl,hE⟩:=key;exact⟨H',h,hE⟩
theorem WV {s t:List Nat} (hs:eE s) (hlen:s.length<=8192) (ht:eE t) (fU:t.length<1000) (hn:3*s.length+18<=n) (aC:600000<lf):
 ∃H',aj ak lf n 71 [.str s,.str t] H=some (.aJ [.str (lr s t).1,.bool (lr s t).2],H')/\Ext H H':=by
 obtain⟨n,rfl⟩:=aN (n:=n);obtain⟨w,H1,aV,aB,ml⟩:=X3 (lf:=lf) (n:=n) (H:=H) hs hlen om aC;have bE:=OG s;obtain⟨i,H2,aH,aF,hf⟩:=acP (lf:=lf) (n:=n) (ml.aQ (yi _)) om ht fU om aC;have d0:decide (((0:Nat):Int)≠((0:Nat):Int))=false:=by decide
 have key:∃w H',aj ak lf (n+1) 71 [.str s,.str t] H=some (w,H')/\w=.aJ [.str (lr s t).1,.bool (lr s t).2]/\Ext H H':=by
  unfold lr;cases tY:oT (lR s) (mM t)with
  |none=>
   rw[tY]at aH;replace aH:aj ak lf n 115 [w,.str t] H1=some (.aJ [iN i,.bool false],H2):=aH;refine cx I0.1 ?_;refine af ae ?_;refine ai ae aV ?_;refine af @d0 ?_;refine ah ae ?_;refine af ae ?_;refine ai ae aH ?_;refine af ae ?_;refine ar ae ?_;refine af ae ?_;refine cD ae ?_;exact(⟨rfl,aB.trans aF⟩)
  |some j=>
   rw[tY]at aH;replace aH:aj ak lf n 115 [w,.str t] H1=some (.aJ [iN i,.bool true],H2):=aH;obtain rfl:=hf j tY;obtain⟨_,x,hx,_⟩:=KL tY;rw[Nat.sub_zero]at hx;obtain⟨H3,bf,aS⟩:=akM (lf:=lf) (n:=n) (H:=H2) hs hlen hx om aC;simp only[hx];refine cx I0.1 ?_;refine af ae ?_;refine ai ae aV ?_;refine af @d0 ?_;refine ah ae ?_;refine af ae ?_;refine ai ae aH ?_;refine af ae ?_;refine ah ae ?_;refine af ae ?_;refine ai ae bf ?_;refine af ae ?_;refine cD ae ?_;exact(⟨rfl,aB.trans (aF.trans aS)⟩)
 obtain⟨w,H',h,rfl,hE⟩:=key;exact⟨H',h,hE⟩
end
end
section
theorem Kx (a b:Bool):hY false [(0,0)] (.bool a) (.bool b)=some (decide (a=b)):=by cases a<;>cases b<;>rfl
section
variable {lf n:Nat} {H:ag}
theorem abX {x:Gd} {o w:List Nat} (hx:eE x.s/\x.s.length<=3) (ho:eE o) (kM:o.length<=8192) (hw:eE w) (oh:w.length<=8192) (hn:30000<=n) (aC:600000<lf):
 ∃H',aj ak lf n 42 [.agg (iA x),.str o,.str w] H=some (.bool (lA x.s o w),H')/\Ext H H':=by
 obtain⟨n,rfl⟩:=aN (n:=n);obtain⟨st,g,⟨t1,t2⟩,s⟩:=x;obtain⟨hs,bE⟩:=hx;have hs:eE s:=hs;have bE:s.length<=3:=bE;obtain⟨H1,ay⟩:∃H1,H.push (.row [.bool st,.str g,iN t1,.str t2,.str s] 58 true false 0)=H1:=⟨_,rfl⟩;have aB:Ext H H1:=by rw[<-ay];exact(Ext.refl H).push _
 have ca:H1.next=H.next+1:=by rw[<-ay];rfl
 have bP:H1.get H.next=some (.row [.bool st,.str g,iN t1,.str t2,.str s] 58 true false 0):=by rw[<-ay];exact bd _
 obtain⟨H2,aH,aF⟩:=WV (lf:=lf) (n:=n) (H:=H1) ho kM hs om om aC;obtain⟨H3,bf,aS⟩:=WV (lf:=lf) (n:=n) (H:=H2) hw oh hs om om aC;have bB:=(aF.2 H.next om).trans bP;have key:∃v H',aj ak lf (n+1) 42 [.agg [.bool st,.str g,iN t1,.str t2,.str s],.str o,.str w] H=some (v,H')/\v=.bool (lA s o w)/\Ext H H':=by
  unfold lA;by_cases h0:s=[]
  ·subst h0;have d0:decide (([]:List Nat)=[])=true:=rfl;rw[if_pos rfl];refine cx DX.1 ?_;refine af (An @ay (An @bP @d0)) ?_;refine ar ae ?_;refine af ae ?_;refine aO ae ?_;exact(⟨rfl,aB⟩)
  ·have d0:decide (s=[])=false:=decide_eq_false h0;rw[if_neg h0];generalize lr o s=p at aH ⊢;generalize lr w s=q at bf ⊢;obtain⟨p1,p2⟩:=p;obtain⟨q1,q2⟩:=q;have he:=Kx p2 q2;by_cases rj:p2=q2
   ·subst rj;rw[decide_eq_true rfl]at he;refine cx DX.1 ?_;refine af (An @ay (An @bP @d0)) ?_;refine ah ae ?_;refine af @bP ?_;refine ai ae aH ?_;refine af @bB ?_;refine ai ae bf ?_;refine af @he ?_;refine aO ae ?_;exact(⟨by simp,aB.trans (aF.trans aS)⟩)
   ·rw[decide_eq_false rj]at he;refine cx DX.1 ?_;refine af (An @ay (An @bP @d0)) ?_;refine ah ae ?_;refine af @bP ?_;refine ai ae aH ?_;refine af @bB ?_;refine ai ae bf ?_;refine af @he ?_;refine aO ae ?_;exact(⟨by simp[rj],aB.trans (aF.trans aS)⟩)
 obtain⟨v,H',h,rfl,hE⟩:=key;exact⟨H',h,hE⟩
@[reducible] def ZA (H1:ag) (p5 p7:Nat) (sv dv:SV) (S:List (List Nat)) (t:Tt) (o w:List Nat) (E:List Gd) (m:Nat) (ts:T) (D:DS) (H':ag):Prop:=
  D=[]/\Ext H1 H'/\∃i r:Nat,m=E.length-i/\i<=E.length/\jE S t o w E 1=jE S t o w (E.drop i) r/\∃z:Nat->SV,ts=(z 0::(sv)::z 2::(.str o)::(.str w)::(.ptr p5 0)::z 6::(.ptr p7 0)::zz z 8 3 ((.int .i64 (r:Int))::zz z 12 3 ((dv)::(.int .i64 (E.length:Int))::(.int .i64 (i:Int))::zz z 18 24 [])):T)/\(True)
theorem Te {k:Nat} {x:Gd} (h:qy k x):eE x.s/\x.s.length<=3:=(XV _ h.s).2
theorem abD {k:Nat} {gv rv dv sv:SV} {G:List Gr} {R:List Rl} {E:List Gd} {S:List (List Nat)} {t:Tt} {o w:List Nat} (hp:g' (br H) k gv rv dv G R E) (hS:br H sv 1 (bZ S)) (xj:S.length<100000)
 (ho:eE o) (kM:o.length<=8192) (hw:eE w) (oh:w.length<=8192) (hn:30001<=n) (aC:600000<lf):
 ∃H',aj ak lf n 14 [.agg [gv,rv,dv],sv,tC t,.str o,.str w] H=some (.int .i64 ((jE S t o w E 1:Nat):Int),H')/\Ext H H':=by
 obtain⟨n,rfl⟩:=aN (n:=n);obtain⟨t1,t2⟩:=t;obtain⟨H1,ay⟩:∃H1,H.push (.row [gv,rv,dv] 29 true false 0)=H1:=⟨_,rfl⟩;have aB:Ext H H1:=by rw[<-ay];exact(Ext.refl H).push _
 have ca:H1.next=H.next+1:=by rw[<-ay];rfl
 have bP:H1.get H.next=some (.row [gv,rv,dv] 29 true false 0):=by rw[<-ay];exact bd _
 obtain⟨H2,aY⟩:∃H2,H1.push (.row [iN t1,.str t2] 40 true false 0)=H2:=⟨_,rfl⟩;have aF:Ext H1 H2:=by rw[<-aY];exact(Ext.refl H1).push _
 have dc:H2.next=H1.next+1:=by rw[<-aY];rfl
 have bB:H2.get H1.next=some (.row [iN t1,.str t2] 40 true false 0):=by rw[<-aY];exact bd _
 have FC:=(aF.2 H.next om).trans bP;have B4:=(hp.ds.ax aB).ax aF;have iB:=(hS.ax aB).ax aF;have aW:=hp.ds.cA;rw[List.length_map]at aW;have BB:=hp.se;have key:∃v H',aj ak lf (n+1) 14 [.agg [gv,rv,dv],sv,.agg [iN t1,.str t2],.str o,.str w] H=some (v,H')/\v=.int .i64 ((jE S (t1,t2) o w E 1:Nat):Int)/\Ext H H':=by
  refine cx Pw.1 ?_;refine af (An @ay (An @ca (An @aY (An @FC @aW)))) ?_;refine bH (I:=ZA H2 H.next (H.next+1) sv dv S (t1,t2) o w E) ?_ E.length ?_ om
  ·rintro m ts D H' ⟨rfl,aS,i,r,rfl,hi,hf,⟨z,rfl, -⟩⟩;by_cases bw:i<E.length
   ·have d1:decide (((i:Nat):Int)<((E.length:Nat):Int))=true:=dt;have eX:(E.map iA)[i]? =some (iA E[i]):=by simp[bw]
    have cZ:=Te (hp.qG _ (List.getElem_mem bw));obtain⟨b,ob,h1,h2,h3,_⟩:=(B4.ax aS).at_ eX;have dA:=(aS.2 (H.next+1) om).trans (ca▸bB);rw[List.drop_eq_getElem_cons bw,jE]at hf;generalize E[i]=x at eX cZ h3 hf;obtain⟨st,g,⟨u1,u2⟩,s⟩:=x;have bj:aq (H'.get b) ob 5=some [.bool st,.str g,iN u1,.str u2,.str s]:=h3;obtain⟨H5,bg⟩:∃H5,(H'.push (.row [.bool false,.str [],iN 0,.str [],.str []] 58 true false 0)).put H'.next (.row [.bool st,.str g,iN u1,.str u2,.str s] 58 true false 0)=H5:=⟨_,rfl⟩;have bm:Ext H' H5:=by rw[<-bg];exact((Ext.refl H').push _).put (Nat.le_refl _) _
    have fS:H5.get H'.next=some (.row [.bool st,.str g,iN u1,.str u2,.str s] 58 true false 0):=by rw[<-bg];exact bT _ _
    have iG:H5.next=H'.next+1:=by rw[<-bg];rfl
    have dw:=(bm.2 (H.next+1) (by have:=aS.1;omega)).trans dA;have heq:hY true [(0,1),(1,2)] (.agg [iN u1,.str u2]) (.agg [iN t1,.str t2])=some (decide ((u1,u2)=(t1,t2))):=EL (u1,u2) (t1,t2);have sC:=Dg (lf:=lf) (n:=n) (s:=g) ((iB.ax aS).ax bm) xj om aC;obtain⟨H6,cP,cL⟩:=abX (lf:=lf) (n:=n) (H:=H5) (x:=⟨st,g,(u1,u2),s⟩) cZ ho kM hw oh om aC;have cP:aj ak lf n 42 [.agg [.bool st,.str g,iN u1,.str u2,.str s],.str o,.str w] H5=some (.bool (lA s o w),H6):=cP;have ug:=(cL.2 _ om).trans fS;have hf:jE S (t1,t2) o w E 1=if(decide ((u1,u2)≠(t1,t2))||decide (g∈S)||!lA s o w)=true then jE S (t1,t2) o w (E.drop (i+1)) r else if st=true then 3 else jE S (t1,t2) o w (E.drop (i+1)) 2:=hf
    by_cases aV:(u1,u2)=(t1,t2)
    ·rw[decide_eq_true aV]at heq;by_cases aH:g∈S
     ·rw[if_pos (by simp[aH])]at hf;rw[decide_eq_true aH]at sC;refine af @d1 ?_;refine ar ae ?_;refine af (An @h1 (An @bj (An @bg (An @fS (An @dw @heq))))) ?_;refine ai ae sC ?_;refine af ae ?_;refine ar ae ?_;refine af ae ?_;refine aT (E.length-(i+1)) om ⟨rfl,aS.trans bm,i+1,r,rfl,by omega,hf,aw⟩
     ·rw[decide_eq_false aH]at sC;cases bf:lA s o w with
      |false=>
       rw[bf]at cP;rw[if_pos (by simp[bf])]at hf;refine af @d1 ?_;refine ar ae ?_;refine af (An @h1 (An @bj (An @bg (An @fS (An @dw @heq))))) ?_;refine ai ae sC ?_;refine af @fS ?_;refine ai ae cP ?_;refine af ae ?_;refine ar ae ?_;refine af ae ?_;refine aT (E.length-(i+1)) om ⟨rfl,aS.trans (bm.trans cL),i+1,r,rfl,by omega,hf,aw⟩
      |true=>
       rw[bf]at cP;rw[if_neg (by simp[aV,aH,bf])]at hf;cases st with
       |true=>
        rw[if_pos rfl]at hf;refine af @d1 ?_;refine ar ae ?_;refine af (An @h1 (An @bj (An @bg (An @fS (An @dw @heq))))) ?_;refine ai ae sC ?_;refine af @fS ?_;refine ai ae cP ?_;refine af ae ?_;refine ah ae ?_;refine af @ug ?_;refine ar ae ?_;refine af ae ?_;refine aO ae ?_;exact(⟨by rw[hf],aB.trans (aF.trans (aS.trans (bm.trans cL)))⟩)
       |false=>
        rw[if_neg (by simp)]at hf;refine af @d1 ?_;refine ar ae ?_;refine af (An @h1 (An @bj (An @bg (An @fS (An @dw @heq))))) ?_;refine ai ae sC ?_;refine af @fS ?_;refine ai ae cP ?_;refine af ae ?_;refine ah ae ?_;refine af @ug ?_;refine ah ae ?_;refine af ae ?_;refine aT (E.length-(i+1)) om ⟨rfl,aS.trans (bm.trans cL),i+1,2,rfl,by omega,hf,aw⟩
    ·rw[decide_eq_false aV]at heq;rw[if_pos (by simp only[ne_eq,aV,not_false_eq_true,decide_true,Bool.true_or])]at hf;refine af @d1 ?_;refine ar ae ?_;refine af (An @h1 (An @bj (An @bg (An @fS (An @dw @heq))))) ?_;refine ar ae ?_;refine af ae ?_;refine aT (E.length-(i+1)) om ⟨rfl,aS.trans bm,i+1,r,rfl,by omega,hf,aw⟩
   ·have gV:i=E.length:=om;subst gV;have d1:decide (((E.length:Nat):Int)<((E.length:Nat):Int))=false:=by simp
    rw[List.drop_length,jE]at hf;refine af @d1 ?_;refine ah ae ?_;refine af ae ?_;refine aO ae ?_;exact(⟨by rw[hf],aB.trans (aF.trans aS)⟩)
  ·exact⟨rfl,Ext.refl _,0,1,rfl,Nat.zero_le _,rfl,aw⟩
 obtain⟨v,H',h,rfl,hE⟩:=key;exact⟨H',h,hE⟩
end
end
section
theorem VN (x:Nat):isSp x=(decide (x=9)||decide (x=32)):=by
 by_cases h1:x=9<;>by_cases h2:x=32<;>simp[isSp,h1,h2]
theorem dI (x k:Nat):decide (((x:Nat):Int)=((k:Nat):Int))=decide (x=k):=by
 by_cases h:x=k
 ·subst h;simp
 ·have:¬((x:Int)=(k:Int)):=om;simp[h,this]
section
variable {lf n:Nat} {H:ag}
theorem YP {s:List Nat} (hlen:s.length<100000) (hn:1<=n) (aC:600000<lf):aj ak lf n 259 [.str s] H=some (.str (b9 isSp s),H):=by
 obtain⟨n,rfl⟩:=aN (n:=n);have key:∃v H',aj ak lf (n+1) 259 [.str s] H=some (v,H')/\v=.str (b9 isSp s)/\H'=H:=by
  refine cx PX.1 ?_;refine af ae ?_;refine bH (I:=fun m ts D H'=>∃s':List Nat,m=s'.length/\s'.length<=s.length/\b9 isSp s'=b9 isSp s/\D=[]/\H'=H/\∃z:Nat->SV,ts=((.str s')::zz z 1 27 []:T)/\(True)) ?_ s.length ?_ om
  ·rintro m ts D H' ⟨s',rfl,hle,gy,rfl,rfl,⟨z,rfl, -⟩⟩;rcases List.eq_nil_or_concat s' with rfl|⟨r,x,rfl⟩
   ·have hd:decide (((0:Nat):Int)>((0:Nat):Int))=false:=by simp
    refine af @hd ?_;refine ah ae ?_;refine af ae ?_;refine aO ae ?_;exact(⟨by rw[<-gy];rfl,rfl⟩)
   ·rw[List.concat_eq_append]at*;have fB:(r++[x]).length=r.length+1:=List.length_append;rw[fB]at hle;have j9:(r++[x])[r.length]? =some x:=by simp
    have og:((r.length:Int)+1-1).toNat=r.length:=om;have hd:decide ((r.length:Int)+1>((0:Nat):Int))=true:=dt;have d9:=dI x 9;have d32:=dI x 32;have gh:=VN x;by_cases h9:x=9
    ·rw[decide_eq_true h9]at d9 gh;refine af (An @fB (An @j9 (An @Int.natCast_add (An @Int.natCast_one (An @og (An @hd @d9)))))) ?_;refine ar ae ?_;refine af (An @fB (An @Int.natCast_add (An @Int.natCast_one (An @og (An @Nat.sub_zero @List.take_left.{0}))))) ?_
     refine aT r.length om ⟨r,rfl,by omega,by rw[<-gy,Dw r (by rw[gh];rfl)],rfl,rfl,aw⟩
    ·rw[decide_eq_false h9]at d9 gh;by_cases Bv:x=32
     ·rw[decide_eq_true Bv]at d32 gh;refine af (An @fB (An @j9 (An @Int.natCast_add (An @Int.natCast_one (An @og (An @hd (An @d9 @d32))))))) ?_;refine ar ae ?_;refine af (An @fB (An @Int.natCast_add (An @Int.natCast_one (An @og (An @Nat.sub_zero @List.take_left.{0}))))) ?_
      refine aT r.length om ⟨r,rfl,by omega,by rw[<-gy,Dw r (by rw[gh];rfl)],rfl,rfl,aw⟩
     ·rw[decide_eq_false Bv]at d32 gh;refine af (An @fB (An @j9 (An @Int.natCast_add (An @Int.natCast_one (An @og (An @hd (An @d9 @d32))))))) ?_;refine ah ae ?_;refine af ae ?_;refine aO ae ?_;exact(⟨by rw[<-gy,vY r (by rw[gh];rfl)],rfl⟩)
  ·exact⟨s,rfl,Nat.le_refl _,rfl,rfl,rfl,aw⟩
 obtain⟨v,H',h,rfl,rfl⟩:=key;exact h
theorem YW {p:Nat->Bool}:∀(l:List Nat),∀x∈l.takeWhile p,p x=true
 |[],x,hx=>by simp at hx
 |y::l,x,hx=>by
  rw[List.takeWhile_cons]at hx;split at hx
  ·rcases List.mem_cons.1 hx with rfl|hx
   ·assumption
   ·exact YW l x hx
  ·simp at hx
theorem alP (s:List Nat):b9 isSp (s.dropWhile isSp)=(b9 isSp s).dropWhile isSp:=by
 rcases List.eq_nil_or_concat (s.reverse.dropWhile isSp)with h|⟨r,x,h⟩
 ·have h1:b9 isSp s=[]:=by unfold b9;rw[h];rfl
  have gS:∀x∈s,isSp x=true:=fun x hx=>dropWhile_nil h x (by simpa using hx)
  have h2:s.dropWhile isSp=[]:=by
   clear h h1
   induction s with
   |nil=>rfl
   |cons y s ih=>rw[List.dropWhile_cons,if_pos (gS y (by simp))];exact ih fun x hx=>gS x (by simp[hx])
  rw[h1,h2];rfl
 ·have Vf:s=b9 isSp s++(s.reverse.takeWhile isSp).reverse:=by
   have:=congrArg List.reverse (List.takeWhile_append_dropWhile (p:=isSp) (l:=s.reverse));rw[List.reverse_append,List.reverse_reverse]at this;exact this.symm
  obtain⟨A,hA⟩:∃A,b9 isSp s=A:=⟨_,rfl⟩;obtain⟨B,hB⟩:∃B,(s.reverse.takeWhile isSp).reverse=B:=⟨_,rfl⟩;have adC:∀x∈B.reverse,isSp x=true:=by
   rw[<-hB,List.reverse_reverse];intro x hx;exact YW _ x hx
  have Tl:b9 isSp A=A:=by
   rw[<-hA];unfold b9;rw[List.reverse_reverse];congr 1;have:∀l:List Nat,(l.dropWhile isSp).dropWhile isSp=l.dropWhile isSp:=by
    intro l
    induction l with
    |nil=>rfl
    |cons y l ih=>
     rw[List.dropWhile_cons];split
     ·exact ih
     ·rename_i hy;rw[List.dropWhile_cons,if_neg hy]
   exact this _
  rw[hA,hB]at Vf;rw[hA];have aeg:∀C:List Nat,b9 isSp (C++B)=b9 isSp C:=by
   intro C;unfold b9;rw[List.reverse_append,List.dropWhile_append_of_pos adC]
  have adB:A≠[]:=by
   rw[<-hA];unfold b9;rw[h];simp
  by_cases hd:A.dropWhile isSp=[]
  ·exfalso;have gS:=dropWhile_nil hd;have:b9 isSp A=[]:=by
    unfold b9;have:∀l:List Nat,(∀x∈l,isSp x=true)->l.dropWhile isSp=[]:=by
     intro l hl
     induction l with
     |nil=>rfl
     |cons y l ih=>rw[List.dropWhile_cons,if_pos (hl y (by simp))];exact ih fun x hx=>hl x (by simp[hx])
    rw[this _ fun x hx=>gS x (by simpa using hx)];rfl
   exact adB (Tl.symm.trans this)
  ·rw[Vf,List.dropWhile_append];have gV:(A.dropWhile isSp).isEmpty=false:=by
    cases hq:A.dropWhile isSp with
    |nil=>exact absurd hq hd
    |cons a b=>rfl
   rw[gV,if_neg (by simp),aeg];obtain⟨P,hP⟩:∃P,A=P++A.dropWhile isSp:=⟨A.takeWhile isSp,(List.takeWhile_append_dropWhile ..).symm⟩;obtain⟨r',y,MJ⟩:=(List.eq_nil_or_concat (A.dropWhile isSp)).resolve_left hd;rw[List.concat_eq_append]at MJ;have hy:isSp y=false:=by
    cases hyy:isSp y with
    |false=>rfl
    |true=>
     exfalso;rw[MJ,<-List.append_assoc]at hP;have e1:b9 isSp A=b9 isSp (P++r'):=by rw[hP];exact Dw _ hyy
     have e2:=AM isSp (P++r');rw[<-e1,Tl,hP]at e2;simp at e2;omega
   rw[MJ];exact vY r' hy
theorem Xz {s:List Nat} (hlen:s.length<100000) (hn:2<=n) (aC:600000<lf):aj ak lf n 190 [.str s] H=some (.str (mM s),H):=by
 obtain⟨n,rfl⟩:=aN (n:=n);have sE:(s.dropWhile isSp).length<=s.length:=(List.dropWhile_sublist _).length_le;have CD:=YP (lf:=lf) (n:=n) (H:=H) (s:=s.dropWhile isSp) om om aC;rw[alP]at CD;have key:∃v H',aj ak lf (n+1) 190 [.str s] H=some (v,H')/\v=.str (mM s)/\H'=H:=by
  refine cx PN.1 ?_;refine af ae ?_;refine bH (I:=fun m ts D H'=>∃s':List Nat,m=s'.length/\s'.length<=s.length/\s'.dropWhile isSp=s.dropWhile isSp/\D=[]/\H'=H/\∃z:Nat->SV,ts=((.str s')::zz z 1 19 []:T)/\(True)) ?_ s.length ?_ om
  ·rintro m ts D H' ⟨s',rfl,hle,gy,rfl,rfl,⟨z,rfl, -⟩⟩;cases s' with
   |nil=>
    have hd:decide (((0:Nat):Int)>((0:Nat):Int))=false:=by simp
    have MX:aj ak lf n 259 [.str []] H'=some (.str (mM s),H'):=by rw[<-gy]at CD;exact CD
    refine af @hd ?_;refine ah ae ?_;refine af ae ?_;refine ai ae MX ?_;refine af ae ?_;refine aO ae ?_;exact(⟨rfl,rfl⟩)
   |cons x r=>
    have hd:decide (((r.length+1:Nat):Int)>((0:Nat):Int))=true:=by simp
    have d9:=dI x 9;have d32:=dI x 32;have gh:=VN x;rw[List.dropWhile_cons]at gy;rw[List.length_cons]at hle;by_cases h9:x=9
    ·rw[decide_eq_true h9]at d9 gh;rw[if_pos (c:=isSp x=true) (by rw[gh];rfl)]at gy;refine af (An @hd @d9) ?_;refine ar ae ?_;refine af (An @Nat.add_sub_cancel @List.take_length.{0}) ?_
     refine aT r.length (by simp) ⟨r,rfl,by omega,gy,rfl,rfl,aw⟩
    ·rw[decide_eq_false h9]at d9 gh;by_cases Bv:x=32
     ·rw[decide_eq_true Bv]at d32 gh;rw[if_pos (c:=isSp x=true) (by rw[gh];rfl)]at gy;refine af (An @hd (An @d9 @d32)) ?_;refine ar ae ?_;refine af (An @Nat.add_sub_cancel @List.take_length.{0}) ?_
      refine aT r.length (by simp) ⟨r,rfl,by omega,gy,rfl,rfl,aw⟩
     ·rw[decide_eq_false Bv]at d32 gh;rw[if_neg (c:=isSp x=true) (by rw[gh];simp)]at gy;have MX:aj ak lf n 259 [.str (x::r)] H'=some (.str (mM s),H'):=by rw[<-gy]at CD;exact CD
      refine af (An @hd (An @d9 @d32)) ?_;refine ah ae ?_;refine af ae ?_;refine ai ae MX ?_;refine af ae ?_;refine aO ae ?_;exact(⟨rfl,rfl⟩)
  ·exact⟨s,rfl,Nat.le_refl _,rfl,rfl,rfl,aw⟩
 obtain⟨v,H',h,rfl,rfl⟩:=key;exact h
theorem TU {v:SV} {S:List (List Nat)} {s:List Nat} (hS:br H v 1 (bZ S)) (hl:S.length<100000) (hn:1<=n) (aC:600000<lf):
 aj ak lf n 40 [v,.str s] H=some (.bool (decide (s∈S)),H):=by
 obtain⟨n,rfl⟩:=aN (n:=n);have aW:=hS.cA;rw[kt]at aW;have hm:=KK (s:=s) (L:=S) (k:=0);have key:∃w H',aj ak lf (n+1) 40 [v,.str s] H=some (w,H')/\w=.bool (decide (s∈S))/\H'=H:=by
  rw[<-hm];refine cx Qo.1 ?_;refine af ae ?_;refine bH (I:=fun m ts D H'=>D=[]/\H'=H/\∃i:Nat,m=S.length-i/\i<=S.length/\iz (fun x=>decide (x=s)) S 0=iz (fun x=>decide (x=s)) (S.drop i) i/\∃z:Nat->SV,ts=((v)::(.str s)::zz z 2 3 ((.int .i64 (i:Int))::zz z 6 12 []):T)/\(True)) ?_ S.length ?_ om
  ·rintro m ts D H' ⟨rfl,rfl,i,rfl,hi,hf,⟨z,rfl, -⟩⟩;by_cases bw:i<S.length
   ·have d1:decide (((i:Nat):Int)<((S.length:Nat):Int))=true:=dt;have hx:S[i]? =some S[i]:=List.getElem?_eq_getElem bw;have eX:(bZ S)[i]? =some [.str S[i]]:=yn hx;obtain⟨b,o,h1,h2,h3,_⟩:=hS.at_ eX;rw[EW hx]at hf;generalize S[i]=x at hx eX h3 hf;by_cases hc:x=s
    ·rw[if_pos (by simpa using hc)]at hf;have d2:decide (x=s)=true:=by simpa using hc
     refine af (An @aW @d1) ?_;refine ar ae ?_;refine af (An @h1 (An @h3 @d2)) ?_;refine ar ae ?_;refine af ae ?_;refine aO ae ?_;exact(⟨by rw[hf];rfl,rfl⟩)
    ·rw[if_neg (by simpa using hc)]at hf;have d2:decide (x=s)=false:=by simpa using hc
     refine af (An @aW @d1) ?_;refine ar ae ?_;refine af (An @h1 (An @h3 @d2)) ?_;refine ah ae ?_;refine af ae ?_;refine aT (S.length-(i+1)) om ⟨rfl,rfl,i+1,rfl,by omega,hf,aw⟩
   ·have gV:i=S.length:=om;subst gV;have d1:decide (((S.length:Nat):Int)<((S.length:Nat):Int))=false:=by simp
    rw[EV]at hf;refine af (An @aW @d1) ?_;refine ah ae ?_;refine af ae ?_;refine aO ae ?_;exact(⟨by rw[hf];rfl,rfl⟩)
  ·exact⟨rfl,rfl,0,rfl,Nat.zero_le _,rfl,aw⟩
 obtain⟨w,H',h,rfl,rfl⟩:=key;exact h
end
end
section
theorem Dx {p:Nat->Bool}:∀(l:List Nat) (j x:Nat),l[j]? =some x->(j<(l.takeWhile p).length->p x=true)/\(j=(l.takeWhile p).length->p x=false)
 |y::l,j,x,h=>by
  rw[List.takeWhile_cons];cases hy:p y with
  |false=>
   rw[if_neg (by simp)];refine⟨fun hj=>by simp at hj,fun hj=>?_⟩;simp at hj;subst hj;simp at h;subst h;exact hy
  |true=>
   rw[if_pos rfl,List.length_cons];cases j with
   |zero=>simp at h;subst h;exact⟨fun _=>hy,fun e=>by omega⟩
   |succ j=>
    have:=Dx (p:=p) l j x (by simpa using h);exact⟨fun e=>this.1 om,fun e=>this.2 om⟩
theorem Dy {p:Nat->Bool} (l:List Nat):l.length-(l.dropWhile p).length=(l.takeWhile p).length/\(l.takeWhile p).length<=l.length:=by
 have:=congrArg List.length (List.takeWhile_append_dropWhile (p:=p) (l:=l));rw[List.length_append]at this;omega
theorem I9 {call:cb} {lf:Nat} {c:er} {ts:T} {H:ag} {R:fa->T->DS->ag->Prop} {id:Nat} (P:T->ag->Prop) (h1:EC call lf c ts [] H fun x aA D' H'=>x=.exit id/\D'=[]/\P aA H') (h2:∀aA H',P aA H'->R (.exit id) aA [] H'):EC call lf c ts [] H R:=
 A3 (fun x aA D' H' h=>by
  obtain⟨rfl,rfl,hp⟩:=h;exact h2 _ _ hp) h1
def za (l:List Nat):Nat:=(l.reverse.takeWhile isEq).length
theorem Ku (l:List Nat):l.length-(b9 isEq l).length=za l/\za l<=l.length:=by
 have:=Dy (p:=isEq) l.reverse;unfold b9 za;rw[List.length_reverse]at this ⊢;exact this
section
variable {lf n:Nat} {H:ag}
def zn (line:List Nat):Nat×List Nat:=if(fm line).2.2=true then((fm line).1,(fm line).2.1)else(0,[])
@[reducible] def ZF (l:List Nat) (H:ag) (f:Nat) (m:Nat) (ts:T) (D:DS) (H':ag):Prop:=
  D=[]/\H'=H/\∃i:Nat,m=l.length-i/\i<=f/\∃z:Nat->SV,ts=((.str l)::zz z 1 3 ((.int .i64 (i:Int))::(.int .i64 ((0:Nat):Int))::zz z 6 59 []):T)/\(True)
@[reducible] def Z9 (l:List Nat) (H:ag) (f b:Nat) (m:Nat) (ts:T) (D:DS) (H':ag):Prop:=
  D=[]/\H'=H/\∃i:Nat,m=l.length-i/\i<=b/\∃z:Nat->SV,ts=((.str l)::zz z 1 3 ((.int .i64 (f:Int))::(.int .i64 (i:Int))::zz z 6 59 []):T)/\(True)
theorem aju {line:List Nat} (hlen:line.length<100000) (hn:3<=n) (aC:600000<lf):
 aj ak lf n 189 [.str line] H=some (.aJ [.int .i64 ((zn line).1:Int),.str (zn line).2],H):=by
 obtain⟨n,rfl⟩:=aN (n:=n);have h1:=YP (lf:=lf) (n:=n) (H:=H) (s:=line) hlen om aC;have dE:=AM isSp line;have iF:fm line=(let l:=b9 isSp line
  let f:=l.length-(l.dropWhile isEq).length
  let b:=l.length-(b9 isEq l).length
  if f=0\/b=0\/f=l.length then(0,[],false)
  else
   let v:=min (min 6 f) b
   let name:=(b9 isSp ((l.drop v).take (l.length-v-v))).dropWhile isSp
   (v,name,decide (name≠[]))):=rfl
 have key:∃v H',aj ak lf (n+1) 189 [.str line] H=some (v,H')/\v=.aJ [.int .i64 ((zn line).1:Int),.str (zn line).2]/\H'=H:=by
  unfold zn;generalize b9 isSp line=l at h1 dE iF;obtain⟨f,hf⟩:∃f,(l.takeWhile isEq).length=f:=⟨_,rfl⟩;obtain⟨b,hb⟩:∃b,za l=b:=⟨_,rfl⟩;have qW:=(Dy (p:=isEq) l).2;have eI:=(Ku l).2;simp only[(Dy (p:=isEq) l).1,(Ku l).1,hf,hb]at iF;rw[hf]at qW;rw[hb]at eI;refine cx PJ.1 ?_;refine af ae ?_;refine ai ae h1 ?_;refine af ae ?_;refine bH (I:=ZF l H f) ?_ l.length ?_ om
  ·rintro m ts D H' ⟨rfl,rfl,i,rfl,hi,⟨z,rfl, -⟩⟩;by_cases bw:i<f
   ·have hx:l[i]? =some l[i]:=List.getElem?_eq_getElem om;have qe:=(Dx (p:=isEq) l i _ hx).1 om;generalize l[i]=x at hx qe;have d1:decide (((i:Nat):Int)<((l.length:Nat):Int))=true:=dt;have d2:decide (((x:Nat):Int)=((61:Nat):Int))=true:=by rw[dI];exact qe
    refine af (An @d1 (An @hx @d2)) ?_;refine ar ae ?_;refine af ae ?_;refine aT (l.length-(i+1)) om ⟨rfl,rfl,i+1,rfl,by omega,aw⟩
   ·obtain rfl:i=f:=om;refine I9 (id:=0) (fun ts jB=>jB=H'/\∃z:Nat->SV,ts=((.str l)::zz z 1 3 ((.int .i64 (i:Int))::(.int .i64 ((0:Nat):Int))::zz z 6 59 []):T)/\(True)) ?_ (fun aA H7 gR=>?_)
    ·by_cases aeC:i<l.length
     ·have hx:l[i]? =some l[i]:=List.getElem?_eq_getElem aeC;have qe:=(Dx (p:=isEq) l i _ hx).2 om;generalize l[i]=x at hx qe;have d1:decide (((i:Nat):Int)<((l.length:Nat):Int))=true:=dt;have d2:decide (((x:Nat):Int)=((61:Nat):Int))=false:=by rw[dI];exact qe
      refine af (An @d1 (An @hx @d2)) ?_;refine ah ae ?_;refine af ae ?_;exact⟨rfl,rfl,rfl,aw⟩
     ·have d1:decide (((i:Nat):Int)<((l.length:Nat):Int))=false:=df;refine af @d1 ?_;refine ah ae ?_;refine af ae ?_;exact⟨rfl,rfl,rfl,aw⟩
    ·obtain⟨rfl,⟨z,rfl, -⟩⟩:=gR;refine xR (wv (ly ?_));refine af ae ?_;refine bH (I:=Z9 l H7 i b) ?_ l.length ?_ om
     ·rintro m ts D H' ⟨rfl,rfl,j,rfl,hj,⟨z,rfl, -⟩⟩;by_cases kI:j<b
      ·have dp:l[l.length-1-j]? =l.reverse[j]? :=by rw[List.getElem?_reverse om]
       obtain⟨x,hx⟩:∃x,l.reverse[j]? =some x:=⟨_,List.getElem?_eq_getElem (by rw[List.length_reverse];omega)⟩;have qe:=(Dx (p:=isEq) l.reverse j _ hx).1 (by show j<za l;omega);rw[hx]at dp;have d1:decide (((j:Nat):Int)<((l.length:Nat):Int))=true:=dt;have d2:decide (((x:Nat):Int)=((61:Nat):Int))=true:=by rw[dI];exact qe
       have hk:((l.length:Nat):Int)-((1:Nat):Int)-((j:Nat):Int)=((l.length-1-j:Nat):Int):=om;refine af (An @d1 (An @hk (An @dp @d2))) ?_;refine ar ae ?_;refine af ae ?_;refine aT (l.length-(j+1)) om ⟨rfl,rfl,j+1,rfl,by omega,aw⟩
      ·obtain rfl:j=b:=om;refine I9 (id:=2) (fun ts jB=>jB=H'/\∃z:Nat->SV,ts=((.str l)::zz z 1 3 ((.int .i64 (i:Int))::(.int .i64 (j:Int))::zz z 6 59 []):T)/\(True)) ?_ (fun aA H8 nc=>?_)
       ·by_cases an2:j<l.length
        ·have dp:l[l.length-1-j]? =l.reverse[j]? :=by rw[List.getElem?_reverse om]
         obtain⟨x,hx⟩:∃x,l.reverse[j]? =some x:=⟨_,List.getElem?_eq_getElem (by rw[List.length_reverse];omega)⟩;have qe:=(Dx (p:=isEq) l.reverse j _ hx).2 (by show j=za l;omega);rw[hx]at dp;have d1:decide (((j:Nat):Int)<((l.length:Nat):Int))=true:=dt;have d2:decide (((x:Nat):Int)=((61:Nat):Int))=false:=by rw[dI];exact qe
         have hk:((l.length:Nat):Int)-((1:Nat):Int)-((j:Nat):Int)=((l.length-1-j:Nat):Int):=om;refine af (An @d1 (An @hk (An @dp @d2))) ?_;refine ah ae ?_;refine af ae ?_;exact⟨rfl,rfl,rfl,aw⟩
        ·have d1:decide (((j:Nat):Int)<((l.length:Nat):Int))=false:=df;refine af @d1 ?_;refine ah ae ?_;refine af ae ?_;exact⟨rfl,rfl,rfl,aw⟩
       ·obtain⟨rfl,⟨z,rfl, -⟩⟩:=nc;refine xR (wv (ly ?_));have c1:=dI i 0;have c2:=dI j 0;have c3:=dI i l.length;by_cases k1:i=0
        ·rw[decide_eq_true k1]at c1;rw[if_pos (.inl k1)]at iF;refine af @c1 ?_;refine ar ae ?_;refine af ae ?_;refine cD ae ?_;exact(⟨by rw[iF];rfl,rfl⟩)
        ·rw[decide_eq_false k1]at c1;by_cases k2:j=0
         ·rw[decide_eq_true k2]at c2;rw[if_pos (.inr (.inl k2))]at iF;refine af (An @c1 @c2) ?_;refine ar ae ?_;refine af ae ?_;refine cD ae ?_;exact(⟨by rw[iF];rfl,rfl⟩)
         ·rw[decide_eq_false k2]at c2;by_cases k3:i=l.length
          ·rw[decide_eq_true k3]at c3;rw[if_pos (.inr (.inr k3))]at iF;refine af (An @c1 (An @c2 @c3)) ?_;refine ar ae ?_;refine af ae ?_;refine cD ae ?_;exact(⟨by rw[iF];rfl,rfl⟩)
          ·rw[decide_eq_false k3]at c3;rw[if_neg (by simp only[k1,k2,k3,or_self,not_false_eq_true])]at iF;have zy:=YR (p:=isEq) (l:=l) (by
            intro e;have:=(Dy (p:=isEq) l).1;rw[e,hf]at this;simp at this;omega)
           rw[(Dy (p:=isEq) l).1,hf]at zy;have dz:=(Ku l).1;rw[hb]at dz;obtain⟨v,hv⟩:∃v,min (min 6 i) j=v:=⟨_,rfl⟩;have kh:min (min i j) 6=v:=om;have hvl:v+v<=l.length:=om;have sL:((l.length:Int)-(v:Int))=((l.length-v:Nat):Int):=om;rw[hv]at iF;have Uy:((l.drop v).take (l.length-v-v)).length<=l.length:=by simp;omega
           have h2:=Xz (lf:=lf) (n:=n) (H:=H8) (s:=(l.drop v).take (l.length-v-v)) om om aC;have MY:mM ((l.drop v).take (l.length-v-v))=(b9 isSp ((l.drop v).take (l.length-v-v))).dropWhile isSp:=rfl;rw[<-MY]at iF;generalize mM ((l.drop v).take (l.length-v-v))=nm at h2 iF;refine af (An @c1 (An @c2 @c3)) ?_;refine ah ae ?_;refine af (An @kh @sL) ?_;refine ai ae h2 ?_;by_cases k4:nm=[]
           ·have c4:decide (nm=[])=true:=decide_eq_true k4;refine af @c4 ?_;refine ar ae ?_;refine af ae ?_;refine cD ae ?_;exact(⟨by rw[iF];simp[k4],rfl⟩)
           ·have c4:decide (nm=[])=false:=decide_eq_false k4;refine af @c4 ?_;refine ah ae ?_;refine af ae ?_;refine cD ae ?_;exact(⟨by rw[iF];simp[k4],rfl⟩)
     ·exact⟨rfl,rfl,0,rfl,Nat.zero_le _,aw⟩
  ·exact⟨rfl,rfl,0,rfl,Nat.zero_le _,aw⟩
 obtain⟨v,H',h,rfl,rfl⟩:=key;exact h
@[reducible] def Zu (H:ag) (v:SV) (t s:List Nat) (L:List cW) (m:Nat) (ts:T) (D:DS) (H':ag):Prop:=
  D=[]/\H'=H/\∃i:Nat,m=L.length-i/\i<=L.length/\oT L s=iz (fun x=>decide (x.title=s)) (L.drop i) i/\∃z:Nat->SV,ts=((v)::(.str t)::zz z 2 4 ((.int .i64 (i:Int))::zz z 7 15 []):T)/\(True)
theorem ajs {v:SV} {L:List cW} {t:List Nat} (hL:br H v 5 (L.map dL)) (hl:L.length<100000) (fU:t.length<1000) (hn:4<=n) (aC:600000<lf):
 ∃i,aj ak lf n 118 [v,.str t] H=some (.aJ [iN i,.bool (oT L (mM t)).isSome],H)/\∀j,oT L (mM t)=some j->i=j:=by
 obtain⟨n,rfl⟩:=aN (n:=n);have aV:=Xz (lf:=lf) (n:=n) (H:=H) (s:=t) om om aC;generalize mM t=s at aV ⊢;have aW:=hL.cA;rw[List.length_map]at aW;have key:∃w H',aj ak lf (n+1) 118 [v,.str t] H=some (w,H')/\∃i,w=.aJ [iN i,.bool (oT L s).isSome]/\H'=H/\∀j,oT L s=some j->i=j:=by
  refine cx Pt.1 ?_;refine af ae ?_;refine bH (I:=Zu H v t s L) ?_ L.length ?_ om
  ·rintro m ts D H' ⟨rfl,rfl,i,rfl,hi,hf,⟨z,rfl, -⟩⟩;by_cases bw:i<L.length
   ·have d1:decide (((i:Nat):Int)<((L.length:Nat):Int))=true:=dt;have hx:L[i]? =some L[i]:=List.getElem?_eq_getElem bw;have eX:(L.map dL)[i]? =some (dL L[i]):=by simp[bw]
    obtain⟨b,o,h1,h2,h3,_⟩:=hL.at_ eX;rw[EW hx]at hf;generalize L[i]=x at hx eX h3 hf;have r1:aq (H'.get b) (o+1) 1=some [.str x.title]:=lx h3 (i:=1) (m:=1) om;refine af (An @aW @d1) ?_;refine ar ae ?_;refine s8 (ly (mN ?_));refine A1 ?_;refine mN ?_;refine dG rfl ?_;refine af (An @h1 @r1) ?_;refine dH (by exact aZ trivial) aV bW ?_;refine af ae ?_;refine dB ?_ ?_
    ·exact dh (An @h1 @r1)
    ·by_cases hc:x.title=s
     ·rw[if_pos (by simpa using hc)]at hf;have d2:decide (x.title=s)=true:=by simpa using hc
      refine af @d2 ?_;refine ar @d2 ?_;refine af ae ?_;refine cD ae ?_;exact(⟨i,by rw[hf];rfl,rfl,fun j hj=>by rw[hf]at hj;exact Option.some.inj hj⟩)
     ·rw[if_neg (by simpa using hc)]at hf;have d2:decide (x.title=s)=false:=by simpa using hc
      refine af @d2 ?_;refine ah @d2 ?_;refine af ae ?_;refine aT (L.length-(i+1)) om ⟨rfl,rfl,i+1,rfl,by omega,hf,aw⟩
   ·have gV:i=L.length:=om;subst gV;have d1:decide (((L.length:Nat):Int)<((L.length:Nat):Int))=false:=by simp
    rw[EV]at hf;refine af (An @aW @d1) ?_;refine ah ae ?_;refine af ae ?_;refine cD ae ?_;exact(⟨0,by rw[hf];rfl,rfl,fun j hj=>by rw[hf]at hj;cases hj⟩)
  ·exact⟨rfl,rfl,0,rfl,Nat.zero_le _,rfl,aw⟩
 obtain⟨w,H',h,i,rfl,rfl,h2⟩:=key;exact⟨i,h,h2⟩
end
end
end Go.Sh
