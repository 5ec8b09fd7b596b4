/-
  The call of TopPolicies answers true in every world that fits. No conditions beyond those that stand in the theorems.
-/
import Derived.Test.YtfgpklidnkdahaaGreatDoorShH3
import Derived.Test.YtfgpklidnkdahaaGreatDoorShH6
import Derived.Test.YtfgpklidnkdahaaGreatDoorShE3
import Derived.Test.YtfgpklidnkdahaaGreatDoorShC3
import Derived.Test.YtfgpklidnkdahaaGreatDoorShH9
import Derived.Test.YtfgpklidnkdahaaGreatDoorShH7
set_option linter.all false
set_option maxHeartbeats 20000000
set_option maxRecDepth 10000
namespace Go.Sh
section
def uN (H:ag) (v:SV):Prop:=v=.ao\/∃(lb lo len:Nat) (cap:Option Nat) (cs:List SV) (e:TypeId) (ex ro:Bool) (frz:Nat),v=.slice lb lo len cap 1/\lb<H.next/\H.get lb=some (.row cs e ex ro frz)/\len<140737488355328/\
    (∀i,i<len->∃x:Int,cs[lo+i]? =some (.int .i64 x))
theorem uN.one {H:ag} {v:SV} (h:uN H v):SV.one v=true:=by
 rcases h with rfl|⟨_,_,_,_,_,_,_,_,_,rfl,_⟩<;>rfl
theorem uN.tape {H:ag} {v:SV} (h:uN H v):cY (H.next+1) (H.push (.row [v,.int .i64 ((0:Nat):Int)] 48 true false 0)) H.next:=by
 refine⟨Nat.lt_succ_self _,Nat.le_refl _,v,0,bd _,by omega,?_⟩;rcases h with rfl|⟨lb,lo,len,cap,cs,e,ex,ro,frz,rfl,h1,h2,h3,h4⟩
 ·exact .inl rfl
 ·exact .inr ⟨lb,lo,len,cap,cs,e,ex,ro,frz,rfl,by omega,Nat.lt_succ_of_lt h1,by rw[cU h1];exact h2,h3,h4⟩
theorem br.tq {H:ag} {v:SV} {z:Nat} {L:List (List SV)} (h:br H v z L) {M kb:Nat} (hT:cY M H kb) (hL:∀w a,L.flatten=[w,.int .i64 a]->∃s,w=.str s\/w=.bool s.isEmpty):RQ kb H v z L:=by
 obtain⟨_,_,lv,a,hg,_,hr⟩:=hT;refine⟨h.1,?_⟩;rcases h.2 with h|⟨b,c,e,ex,ro,frz,h1,hc,h2,h3⟩
 ·exact .inl h
 ·refine .inr ⟨b,c,e,ex,ro,frz,h1,hc,fun hb=>?_,h2,h3⟩;subst hb;rw[hg]at h3;have h4:[lv,.int .i64 a]=L.flatten:=congrArg (fun o:Option cz=>match o with|some (.row cs _ _ _ _)=>cs|_=>[]) h3;obtain⟨s,hs⟩:=hL lv a h4.symm;rcases hr with rfl|⟨_,_,_,_,_,_,_,_,_,rfl,_⟩<;>rcases hs with hs|hs<;>cases hs
theorem Yx {L:List (List Nat)} (w:SV) (a:Int) (h:(bZ L).flatten=[w,.int .i64 a]):∃s:List Nat,w=.str s\/w=.bool s.isEmpty:=by
 rw[vU]at h
 match L,h with
 |[x,y],h=>cases h
theorem g'.rq {H:ag} {k M kb:Nat} {gv rv dv:SV} {G:List Gr} {R:List Rl} {E:List Gd} (h:g' (br H) k gv rv dv G R E) (hT:cY M H kb):g' (RQ kb H) k gv rv dv G R E:=by
 refine⟨h.n3,h.gs.tq hT fun w a e=>?_,fun g hg=>(h.zd g hg).tq hT Yx,h.tD,h.tE,h.pO,h.rs.tq hT fun w a e=>?_,h.sU,h.uy,h.ds.tq hT fun w a e=>?_,h.se,h.qG⟩
 ·match G,e with
  |g::r,e=>exact⟨g.1,.inl ((List.cons.inj e).1).symm⟩
 ·match R,e with
  |x::r,e=>
   have:=congrArg List.length e;simp[gD]at this
 ·match E,e with
  |x::r,e=>
   have:=congrArg List.length e;simp[iA]at this
theorem GS.cq {M kb:Nat} {H H':ag} (h:GS M kb H H'):cf kb H H':=⟨h.1,fun b hb hn=>h.2.1 b hb hn⟩
section
variable {lf n:Nat} {H:ag}
theorem alD {v:SV} (hd:uN H v) (hn:30002<=n) (aC:600000<lf):∃H',aj ak lf n 3 [v] H=some (.bool true,H'):=by
 obtain⟨n,rfl⟩:=aN (n:=n);have sx:=ajP aC;have mB:=ahc (lf:=lf) (n:=n) (H:=H) hd.one om;have nR:=hd.tape;obtain⟨H1,ay⟩:∃H1,H.push (.row [v,.int .i64 ((0:Nat):Int)] 48 true false 0)=H1:=⟨_,rfl⟩;rw[ay]at mB nR;obtain⟨kb,rf⟩:∃kb,H.next=kb:=⟨_,rfl⟩;rw[rf]at mB nR;have ca:H1.next=kb+1:=by rw[<-ay,<-rf];rfl
 obtain⟨pv,H2,eP,bB,k,gv,rv,dv,G,R,E,rfl,hpB⟩:=ai7 (lf:=lf) (n:=n) nR om om;have FN:=bB.1;have bK:g' (RQ kb H2) k gv rv dv G R E:=(hpB.r.imp fun _ _ _ h=>h.aQ).rq bB.2.2;have go:=bK.gs.aQ.one;have ro:=bK.rs.aQ.one;have do_:=bK.ds.aQ.one;obtain⟨H3,ez,dJ,fo,dA⟩:=iw (H:=H2) (zs:=[.ao,.ao,.ao]) (ty:=29) (z:=3) rfl (cs:=[gv,rv,dv]) rfl (by simp only[List.all_cons,go,ro,do_,List.all_nil];rfl);have r3:aq (H3.get H2.next) 0 3=some [gv,rv,dv]:=by rw[dA];rfl
 have ct:=bK.imp fun _ _ _ h=>h.ext dJ
 obtain⟨H4,cP,js⟩:=ac4 (lf:=lf) (n:=n) (ct.imp fun _ _ _ h=>h.aQ) om om;have fb:=ct.imp fun _ _ _ h=>h.ext js
 obtain⟨fO,gE,gu,G',H5,iD,mX,pT,_⟩:=ai8 (lf:=lf) (n:=n) (H:=H4) fb om aC;have jJ:=fb.imp fun _ _ _ h=>h.ext mX
 have To:=dJ.trans (js.trans mX);have Gs:∀{A B:ag},cY (kb+1) A kb->Ext A B->cY (kb+1) B kb:=fun h hE=>h.ax hE.1 fun b hb=>hE.2 b (by have:=h.2.1;omega)
 have tQ:=Gs bB.2.2 To;have pT:=pT.rq tQ;have qo:=pT.gs.aQ.one;have qr:=pT.rs.aQ.one;have qd:=pT.ds.aQ.one;obtain⟨H6,lJ,nQ,xB,ie⟩:=iw (H:=H5) (zs:=[.ao,.ao,.ao]) (ty:=29) (z:=3) rfl (cs:=[fO,gE,gu]) rfl (by simp only[List.all_cons,qo,qr,qd,List.all_nil];rfl);have BM:=Gs tQ nQ;have fv:=jJ.imp fun _ _ _ h=>h.ext nQ
 have hQ6:=pT.imp fun _ _ _ h=>h.ext nQ
 obtain⟨u,H7,sA,hu,gU⟩:=al2 (lf:=lf) (n:=n) BM om;have gR:=fv.imp fun _ _ _ h=>h.cq gU.cq
 have BJ:=hQ6.imp fun _ _ _ h=>h.cq gU.cq
 obtain⟨nM,H8,gl,mr,tH,qY,Uj⟩:=adk (lf:=lf) (n:=n) (BJ.imp fun _ _ _ h=>h.aQ) hu om aC;have vf:=Gs gU.2.2 tH;have hL8:RQ kb H8 nM 1 (bZ gl):=qY.tq vf Yx;have nc:=gR.imp fun _ _ _ h=>h.ext tH
 have hQ8:=BJ.imp fun _ _ _ h=>h.ext tH
 obtain⟨sp,nm,H9,LB,gh,fR,vk⟩:=O0 (lf:=lf) (n:=n) vf om;have LB:aj ak lf n 10 [.ptr kb 0] H8=some (.agg [.int .i64 (sp:Int),.str nm],H9):=LB;have ht:(sp,nm)∈gn:=OZ sp (CY gh) nm fR;obtain⟨HA,afq,Ts,hnA,hgA⟩:=iw (H:=H9) (zs:=[.int .i64 ((0:Nat):Int),.str []]) (ty:=40) (z:=2) rfl (cs:=[.int .i64 (sp:Int),.str nm]) rfl rfl;have hTA:=Gs vk.2.2 Ts;obtain⟨old,HB,ad8,kM,LQ⟩:=YJ (lf:=lf) (n:=n) hTA om om;obtain⟨now,HC,ad9,Ms,zp⟩:=YJ (lf:=lf) (n:=n) LQ.2.2 om om;have I3:cf kb H8 HC:=vk.cq.trans (Ts.cq.trans (LQ.cq.trans zp.cq));have hPC:=nc.imp fun _ _ _ h=>h.cq I3
 have hQC:=hQ8.imp fun _ _ _ h=>h.cq I3
 have hLC:=hL8.cq I3;have Y':cf kb H6 HC:=gU.cq.trans (tH.cq.trans I3);have Za:cf kb HA HC:=LQ.cq.trans zp.cq;have b4:HC.get H2.next=some (.row [gv,rv,dv] 29 true false 0):=by
  rw[Y'.2 _ (by have:=(js.trans mX).1;omega) om,nQ.2 _ (by have:=(js.trans mX).1;omega),(js.trans mX).2 _ om];exact dA
 have an9:=To.1;have b7:HC.get H5.next=some (.row [fO,gE,gu] 29 true false 0):=by
  rw[Y'.2 _ om om];exact ie
 have UH:=tH.1;have aoa:=gU.1;have aob:=vk.1;have bA:HC.get H9.next=some (.row [.int .i64 (sp:Int),.str nm] 40 true false 0):=by
  rw[Za.2 _ om om];exact hgA
 have aoc:=Za.1;have q7:aq (H6.get H5.next) 0 3=some [fO,gE,gu]:=by rw[ie];rfl
 have q7':aq (H7.get H5.next) 0 3=some [fO,gE,gu]:=by rw[gU.cq.2 _ om om];exact q7
 have bq1:bD gv gv=true:=bK.gs.aQ.bq;have bq2:bD rv rv=true:=bK.rs.aQ.bq;have bq3:bD dv dv=true:=bK.ds.aQ.bq;have bq4:bD fO fO=true:=pT.gs.aQ.bq;have bq5:bD gE gE=true:=pT.rs.aQ.bq;have bq6:bD gu gu=true:=pT.ds.aQ.bq;have YO:∀{a b c:SV},(∃H L z,br H a z L)->(∃H L z,br H b z L)->(∃H L z,br H c z L)->bD (.agg [a,b,c]) (.agg [a,b,c])=true:=fun⟨_,_,_,_,q1⟩ ⟨_,_,_,_,q2⟩ ⟨_,_,_,_,q3⟩=>by
  rcases q1 with⟨_,rfl⟩|⟨b1,c1,e1,x1,r1,f1,rfl,_⟩<;>rcases q2 with⟨_,rfl⟩|⟨b2,c2,e2,x2,r2,f2,rfl,_⟩<;>rcases q3 with⟨_,rfl⟩|⟨b3,c3,e3,x3,r3,f3,rfl,_⟩<;>simp[bD,eg,eF]
 have bp:bD (.agg [gv,rv,dv]) (.agg [gv,rv,dv])=true:=YO ⟨_,_,_,bK.gs.aQ⟩ ⟨_,_,_,bK.rs.aQ⟩ ⟨_,_,_,bK.ds.aQ⟩;have bq:bD (.agg [fO,gE,gu]) (.agg [fO,gE,gu])=true:=YO ⟨_,_,_,pT.gs.aQ⟩ ⟨_,_,_,pT.rs.aQ⟩ ⟨_,_,_,pT.ds.aQ⟩;have bt:bD (.agg [.int .i64 (sp:Int),.str nm]) (.agg [.int .i64 (sp:Int),.str nm])=true:=by simp[bD,eF,eg,gG]
 have ph:tC (sp,nm)=.agg [.int .i64 (sp:Int),.str nm]:=rfl;have key:∃w H',aj ak lf (n+1) 3 [v] H=some (w,H')/\w=.bool true:=by
  have d0:=vK;refine cx x3.1 ?_;refine af ae ?_;refine ai ae mB ?_;refine af ae ?_;refine ai ae eP ?_;refine af (An @ez @r3) ?_;refine ai ae cP ?_;refine af ae ?_;refine ai ae iD ?_;refine af @lJ ?_;refine dG rfl ?_;refine af @q7 ?_;refine dH (by exact aZ trivial) sA bW ?_;refine af ae ?_;refine dH (by exact aZ trivial) mr bW ?_;refine af ae ?_;refine dB ?_ ?_
  ·exact dh (An @q7 (An @q7' @bq))
  ·refine af @d0 ?_;refine ah ae ?_;refine af ae ?_;refine ai ae LB ?_;refine af @afq ?_;refine ai ae ad8 ?_;refine af ae ?_;refine ai ae ad9 ?_;refine af ae ?_;refine bH (I:=fun m ts D Q=>D=[]/\∃i:Nat,m=6-i/\1<=i/\i<=6/\Ext HC Q/\∃z:Nat->SV,ts=(zz z 0 4 ((.ptr H2.next 0)::z 5::z 6::(.ptr H5.next 0)::z 8::z 9::(nM)::(.ptr H9.next 0)::(.str old)::(.str now)::(.int .i64 (i:Int))::zz z 15 62 []):T)/\(True)) ?_ 5 ?_ om
   ·rintro m ts D Q ⟨rfl,i,rfl,h1,h6,dO,⟨z,rfl, -⟩⟩;have y4:aq (Q.get H2.next) 0 3=some [gv,rv,dv]:=by rw[dO.2 _ om,b4];rfl
    have y7:aq (Q.get H5.next) 0 3=some [fO,gE,gu]:=by rw[dO.2 _ om,b7];rfl
    have yA:aq (Q.get H9.next) 0 2=some [.int .i64 (sp:Int),.str nm]:=by rw[dO.2 _ om,bA];rfl
    have Lh:=hPC.imp fun _ _ _ h=>(h.ext dO).aQ
    have Lm:=hQC.imp fun _ _ _ h=>(h.ext dO).aQ
    have Fj:=(hLC.ext dO).aQ;by_cases Un:i<6
    ·have d1:decide (((i:Nat):Int)<((6:Nat):Int))=true:=dt;obtain⟨Q1,ke,ia⟩:=agS (lf:=lf) (n:=n) (gv:=fO) (dv:=gu) (right:=i) Lm.rs Lm.sU Fj Uj ht h1 om om aC;obtain⟨Q2,nX,Fe⟩:=ajy (lf:=lf) (n:=n) (H:=Q1) (gv:=gv) (dv:=dv) (right:=i) (Lh.rs.ax ia) Lh.sU (Fj.ax ia) Uj ht h1 om om aC;rw[ph]at ke nX;have z4:aq (Q1.get H2.next) 0 3=some [gv,rv,dv]:=by rw[ia.2 _ (by have:=dO.1;omega)];exact y4
     have zA:aq (Q1.get H9.next) 0 2=some [.int .i64 (sp:Int),.str nm]:=by rw[ia.2 _ (by have:=dO.1;omega)];exact yA
     have he:=Kx (nA R gl i (qm (sp,nm))) (nA R gl i (qm (sp,nm)));rw[decide_eq_true rfl]at he;generalize nA R gl i (qm (sp,nm))=mm at ke nX he;refine af @d1 ?_;refine ar ae ?_;refine af ae ?_;refine dG rfl ?_;refine af (An @y7 @yA) ?_;refine dH (by exact aZ trivial) ke bW ?_;refine af (An @z4 @zA) ?_;refine dH (by exact aZ trivial) nX bW ?_;refine af @he ?_;refine dB ?_ ?_
     ·exact dh (An @y7 (An @yA (An @y4 (An @z4 (An @zA (An @bq (An @bt @bp)))))))
     ·refine af ae ?_;refine ah ae ?_;refine af (c8 (k:=i) om) ?_;refine aT (6-(i+1)) om ⟨rfl,i+1,rfl,by omega,by omega,dO.trans (ia.trans Fe),aw⟩
    ·obtain rfl:i=6:=om;have d1:decide (((6:Nat):Int)<((6:Nat):Int))=false:=by decide
     obtain⟨Q1,ke,ia⟩:=abD (lf:=lf) (n:=n) (t:=(sp,nm)) (o:=old) (w:=now) Lm Fj om kM.2 (by have:=kM.1;omega) Ms.2 (by have:=Ms.1;omega) om aC;obtain⟨Q2,nX,Fe⟩:=ajg sx (n:=n) (H:=Q1) (t:=(sp,nm)) (o:=old) (w:=now) (Lh.imp fun _ _ _ h=>h.ax ia) (Fj.ax ia) om (by have:=kM.1;omega) (by have:=Ms.1;omega) om aC;rw[ph]at ke nX;have z4:aq (Q1.get H2.next) 0 3=some [gv,rv,dv]:=by rw[ia.2 _ (by have:=dO.1;omega)];exact y4
     have zA:aq (Q1.get H9.next) 0 2=some [.int .i64 (sp:Int),.str nm]:=by rw[ia.2 _ (by have:=dO.1;omega)];exact yA
     have afj:aj ak lf n 16 [] Q2=some (.bool true,Q2):=oB ak0 rfl agv om Q2;generalize jE gl (sp,nm) old now E 1=cc at ke nX;have he:decide (((cc:Nat):Int)=((cc:Nat):Int))=true:=by simp
     refine af @d1 ?_;refine ah ae ?_;refine af ae ?_;refine dG rfl ?_;refine af (An @y7 @yA) ?_;refine dH (by exact aZ trivial) ke bW ?_;refine af (An @z4 @zA) ?_;refine dH (by exact aZ trivial) nX bW ?_;refine af @he ?_;refine dH (by exact aZ trivial) afj bW ?_;refine af ae ?_;refine dB ?_ ?_
     ·exact dh (An @y7 (An @yA (An @y4 (An @z4 (An @zA (An @bq (An @bt (An @bp @he))))))))
     ·refine af ae ?_;refine aO ae ?_;exact(rfl)
   ·exact⟨rfl,1,rfl,by omega,by omega,Ext.refl _,aw⟩
 obtain⟨w,H',h,rfl⟩:=key;exact⟨H',h⟩
end
end
section
open Go.Proofs
open Go.RowKit (Below)
theorem O4 {v:SV} {H:ag} (hd:uN H v):∀φ B w (args':Array Value),aE φ [v] args'.toList->HG ground φ B H w->
 Calls Tryz.prog 3 args' w fun e w'=>e=.returned (.bool true)/\Below B w w':=by
 intro φ B w args' ha hh;obtain⟨H',hw⟩:=alD (lf:=600001) (n:=30002) (H:=H) hd om om;refine((X9 Wk aln 600001 30002 3 [v] H _ H' hw).2 φ B w args' ha hh).mono ?_;rintro e w' ⟨_,bh,u,_,rfl,hu,_,eI⟩;cases hu;exact⟨rfl,eI⟩
theorem adh {W:World} (hsh:W.ShapedOpen Tryz.prog):ground.p (fun _=>none) W.heap.size W:=by
 obtain⟨m,hm⟩:=Tryz.Ny.s1_3 W hsh;have zC:W.cell? ⟨0,0,none⟩=some (.int .i64 m):=hm;refine⟨?_,m,zC⟩;have:=World.block_lt_of_cell? _ _ zC;simpa using this
theorem top_calls {W:World} (hsh:W.ShapedOpen Tryz.prog) {v0:Value}
 (h0:v0=.slice none 0 0\/∃(a:Addr) (len cap:Nat) (zs:List Int),v0=.slice (some a) len cap/\a.spot=none/\len<=cap/\len<140737488355328/\zs.length=cap/\∀i,i<zs.length->W.cell? (a.add i)=some (.int .i64 (zs.getD i 0))):
 Calls Tryz.prog 3 #[v0] W fun e W'=>e=.returned (.bool true)/\Below W.heap.size W W':=by
 have hg:=adh hsh;have Mp:HR (fun _=>none) W.heap.size ⟨0,.leaf⟩ W:=⟨(fun _ _ e=>(by cases e)),(fun _ _ _ _ e=>(by cases e)),(fun _ _ e=>(by cases e)),Nat.le_refl _⟩;rcases h0 with rfl|⟨a,len,cap,zs,rfl,gh,hlc,T7,hzl,hcell⟩
 ·exact O4 (H:=⟨0,.leaf⟩) (.inl rfl) (fun _=>none) W.heap.size W _ (.cons .ao .nil) ⟨Mp,hg⟩
 ·by_cases lE:cap=0
  ·subst lE;obtain rfl:len=0:=om;have hd:uN ((⟨0,.leaf⟩:ag).push (.row [] 0 false true 0)) (.slice 0 0 0 none 1):=.inr ⟨0,0,0,none,[],0,false,true,0,rfl,by decide,bd _,by decide,fun i hi=>absurd hi (Nat.not_lt_zero i)⟩;have hr:HR (fun _=>none) W.heap.size ((⟨0,.leaf⟩:ag).push (.row [] 0 false true 0)) W:=⟨(fun _ _ e=>(by cases e)),(fun _ _ _ _ e=>(by cases e)),(fun _ _ e=>(by cases e)),Nat.le_refl _⟩;exact O4 hd (fun _=>none) W.heap.size W _ (.cons (.kQ (fun k e=>(by cases e))) .nil) ⟨hr,hg⟩
  ·obtain⟨oP,off,spot⟩:=a;simp only at gh;subst gh;have gb:∀i,(⟨oP,off,none⟩:Addr).add i=⟨oP,off+i,none⟩:=fun i=>rX _ _ _
   have LO:=hcell 0 om;rw[gb,Nat.add_zero]at LO;have Fu:oP<W.heap.size:=by
    have:=World.block_lt_of_cell? _ _ LO;simpa using this
   obtain⟨C,e,f1,f2,hb⟩:∃C e f1 f2,W.heap[oP]? =some (.cells C e (f1,f2)):=by
    have h1:=LO;simp only[World.cell?]at h1;cases hw:W.heap[oP]? with
    |none=>rw[hw]at h1;simp at h1
    |some o=>
     rw[hw]at h1;cases o with
     |cells C e f=>exact⟨C,e,f.1,f.2,rfl⟩
     |_=>simp at h1
   have hC:∀i,i<cap->C[off+i]? =some (.int .i64 (zs.getD i 0)):=fun i hi=>by
    have h1:=hcell i om;have h2:=wy W oP (off+i) C e (f1,f2) hb;rw[gb]at h1;rw[<-h2];exact h1
   have dY:off+cap<=C.size:=by
    have h1:=hC (cap-1) om;have:=(Array.getElem?_eq_some_iff.1 h1).1;omega
   obtain⟨cs,hcs⟩:∃cs:List SV,cs=zs.map (SV.int .i64):=⟨_,rfl⟩;have bO:cs.length=cap:=by rw[hcs,List.length_map,hzl]
   have T5:∀i,i<cap->cs[i]? =some (.int .i64 (zs.getD i 0)):=fun i hi=>by
    rw[hcs,List.getElem?_map,List.getD_eq_getElem?_getD,List.getElem?_eq_getElem om];rfl
   obtain⟨H,hH⟩:∃H,(⟨0,.leaf⟩:ag).push (.row cs e false true 0)=H:=⟨_,rfl⟩;have jt:H.get 0=some (.row cs e false true 0):=by rw[<-hH];exact bd (H:=⟨0,.leaf⟩) _
   have hHn:H.next=1:=by rw[<-hH];rfl
   obtain⟨φ,VG⟩:∃φ:aI,φ=fun b=>if b=0 then some ⟨oP,off,C.size,Go.undef⟩else none:=⟨_,rfl⟩
   have afF:φ 0=some ⟨oP,off,C.size,Go.undef⟩:=by rw[VG];rfl
   have Gj:∀b l,φ b=some l->b=0/\l=⟨oP,off,C.size,Go.undef⟩:=fun b l h=>by
    rw[VG]at h;simp only at h;split at h
    ·rename_i gT;cases h;exact⟨gT,rfl⟩
    ·exact(by cases h)
   have hr:HR φ W.heap.size H W:=by
    refine⟨fun b l h=>?_,fun b b' l l' h h' _ _ _=>?_,fun b l h=>?_,Nat.le_refl _⟩
    ·obtain⟨rfl,rfl⟩:=Gj b l h;exact⟨by omega,Fu⟩
    ·rw[(Gj b l h).1,(Gj b' l' h').1]
    ·obtain⟨rfl,rfl⟩:=Gj b l h;rw[jt];refine .row hb rfl (fun i x hx=>?_) (by rw[bO];exact dY) (fun h=>(by cases h)) (fun h=>(by cases h)) (fun h=>(by cases h));have hi:i<cap:=by
      have:=(List.getElem?_eq_some_iff.1 hx).1;omega
     rw[T5 i hi]at hx;cases hx;exact⟨_,hC i hi,.int _ _⟩
   have hd:uN H (.slice 0 0 len none 1):=.inr ⟨0,0,len,none,cs,e,false,true,0,rfl,by omega,jt,by omega,fun i hi=>⟨_,by rw[Nat.zero_add];exact T5 i om⟩⟩;have xI:VR φ (.slice 0 0 len none 1) (.slice (some ⟨oP,off,none⟩) len cap):=.slice (l:=⟨oP,off,C.size,Go.undef⟩) afF (fun k h=>(by cases h)) hlc (by simpa using dY);exact O4 hd φ W.heap.size W _ (.cons xI .nil) ⟨hr,hg⟩
end
end Go.Sh
