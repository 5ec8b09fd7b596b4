/-
  The program parser gives the nodes of the plain law. No conditions beyond those that stand in the theorems.
-/
import Derived.Test.YtfgpklidnkdahaaGreatDoorShC9
import Derived.Test.YtfgpklidnkdahaaGreatDoorShD1
set_option linter.all false
set_option maxHeartbeats 20000000
set_option maxRecDepth 10000
namespace Go.Sh
section
theorem yJ (n:AN) (st:List AE):(fW n st).length=st.length:=by cases st<;>rfl
theorem pG (s:List Nat) (st:List AE):(bI s st).length=st.length:=yJ _ _
theorem Rb:∀(l:List AN) (st:List AE),(dj l st).length=st.length
 |[],st=>rfl
 |n::l,st=>by
  show(dj l (fW n st)).length=_;rw[Rb l,yJ]
theorem aai (st:List AE):(rU st).length=st.length:=by
 cases st with
 |nil=>rfl
 |cons e r=>
  show(if e.kind=3 then _ else _:List AE).length=_;split
  ·rfl
  ·exact pG _ _
theorem aao (st:List AE):(jo st).length=st.length:=by
 cases st with
 |nil=>rfl
 |cons e r=>
  by_cases h:e.args=[]
  ·rw[Ra h,pG]
  ·obtain⟨A,a,h⟩:=HK h;rw[Jo h];split
   ·rfl
   ·exact pG _ _
theorem aak (st:List AE):(td st).length<=st.length:=by
 cases st with
 |nil=>exact Nat.le_refl _
 |cons e r=>
  show(if e.kind=1 then _ else _:List AE).length<=_;split
  ·rw[pG,Rb,pG];simp
  ·rw[pG];exact Nat.le_refl _
theorem aam {st:List AE} (k:Nat) (x:List Nat) (h:bC st):(kT k x st).length<=st.length:=by
 unfold kT;split
 ·rw[pG];exact Nat.le_refl _
 ·rename_i j hj;obtain⟨e,he,hk,_⟩:=Gv hj;obtain⟨e',r,h1,_,_,_,_,_,h7,_⟩:=tz h he om;rw[h1];show(fW _ r).length<=_;rw[yJ];omega
theorem Q9:∀(f c:Nat) (st:List AE),bC st->c<f->(eL f c st).length<=st.length
 |0,c,st,h,hf=>by omega
 |f+1,c,st,h,hf=>by
  unfold eL;split
  ·rename_i hc;split
   ·rw[pG];exact Nat.le_refl _
   ·rename_i j hj;obtain⟨e,he,hk⟩:=z6 hj;obtain⟨e',r,h1,h2,h3,_,_,h6,h7,_⟩:=tz h he om;rw[h1];have hm:2<=e'.count:=by rcases(h6.head h2).2 with h|h|h<;>omega
    obtain⟨k1,_,_⟩:=zX c e'.count hc hm;have hb:=(A6 h6 h2 (h3.trans hk) hc).1;have ih:=Q9 f (c-cQ c e'.count) _ hb om;have hl:(jC c (e'::r)).length<=r.length+1:=by
     unfold jC;dsimp only;split
     ·simp
     ·split
      ·rw[yJ,pG];omega
      ·rw[yJ];omega
    refine Nat.le_trans ih ?_;omega
  ·rw[pG];exact Nat.le_refl _
theorem aas {st:List AE} (e:AE) (x:List Nat) (h:st.length<=21):(lY e x st).length<=21:=by
 unfold lY;split
 ·rw[pG];exact h
 ·rename_i hh;simp;omega
theorem aau {st:List AE} (k:Nat) (x:List Nat) (aD:bC st) (h:st.length<=21):(jV st k x).length<=21:=by
 unfold jV;split<;>first
  |(rw[yJ];exact h)
  |exact aas _ _ h
  |(rw[aai];exact h)
  |(rw[aao];exact h)
  |exact Nat.le_trans (aak _) h
  |exact Nat.le_trans (aam _ _ aD) h
  |exact Nat.le_trans (Q9 _ _ _ aD om) h
  |(rw[pG];exact h)
theorem YB:ak 266=some (.code wa.1):=by kernel_rfl
theorem alq {g:Nat} (hg:g=1\/g=2\/g=3):c9 bR (bR g)=g/\c9 bS (bS g)=g:=by rcases hg with rfl|rfl|rfl<;>exact⟨rfl,rfl⟩
section
variable {lf n:Nat} {H:ag}
theorem Ia {f:FuncId} (hf:ak f=some (.code wa.1)) {s:List Nat} {t:Tok} (h1:t.2.1<=t.2.2) (h2:t.2.2<=s.length) (hn:1<=n):∃H',aj ak lf n f [.str s,.agg (cr t)] H=some (.str (cB s t),H')/\Ext H H':=by
 obtain⟨n,rfl⟩:=aN (n:=n);have key:∃w H',aj ak lf (n+1) f [.str s,.agg (cr t)] H=some (w,H')/\w=.str (cB s t)/\Ext H H':=by
  obtain⟨k,a,b⟩:=t;obtain⟨H1,ay⟩:∃H1,H.push (.row (cr (k,a,b)) 294 true false 0)=H1:=⟨_,rfl⟩;have aB:Ext H H1:=by rw[<-ay];exact(Ext.refl H).push _
  have hg:H1.get H.next=some (.row (cr (k,a,b)) 294 true false 0):=by rw[<-ay];exact bd _
  have r1:aq (H1.get H.next) 1 1=some [iN a]:=by rw[hg];rfl
  have r2:aq (H1.get H.next) 2 1=some [iN b]:=by rw[hg];rfl
  have bn:(SV.agg (cr (k,a,b))).cells=cr (k,a,b):=rfl;have d1:decide (((a:Nat):Int)<((0:Nat):Int))=false:=df;have d2:decide (((a:Nat):Int)>((b:Nat):Int))=false:=by simp only[decide_eq_false_iff_not];simp only[]at h1;omega
  have d3:decide (((b:Nat):Int)>((s.length:Nat):Int))=false:=by simp only[decide_eq_false_iff_not];simp only[]at h2;omega
  simp only[]at h1 h2;refine Ew hf (by simp only[wa,az,go_sem,List.reduceReplicate,Nat.reduceAdd,Nat.reduceSub];exact rfl) ?_;simp only[wa,az];refine af (An @bn (An @ay (An @r1 (An @r2 (An @d1 (An @d2 @d3)))))) ?_;refine ah ae ?_;refine af (An @r1 @r2) ?_;refine aO ae ?_;exact(⟨rfl,aB⟩)
 obtain⟨w,H',h,rfl,h2⟩:=key;exact⟨H',h,h2⟩
theorem alw {s:List Nat} {t:Tok} {g:Nat} (hg:g=1\/g=2\/g=3) (h1:t.2.1<=t.2.2) (h2:t.2.2<=s.length) (hk:(t.1=11/\cB s t=bR g)\/(t.1=12/\cB s t=bS g)) (hn:4<=n) (aC:10<lf):∃H',aj ak lf n 270 [.str s,.agg (cr t)] H=some (iN g,H')/\Ext H H':=by
 obtain⟨n,rfl⟩:=aN (n:=n);have key:∃w H',aj ak lf (n+1) 270 [.str s,.agg (cr t)] H=some (w,H')/\w=iN g/\Ext H H':=by
  obtain⟨H1,ay⟩:∃H1,H.push (.row (cr t) 294 true false 0)=H1:=⟨_,rfl⟩;have aB:Ext H H1:=by rw[<-ay];exact(Ext.refl H).push _
  have ni:H1.get H.next=some (.row (cr t) 294 true false 0):=by rw[<-ay];exact bd _
  have r0:aq (H1.get H.next) 0 1=some [iN t.1]:=by rw[ni];rfl
  have r3:aq (H1.get H.next) 0 3=some (cr t):=by rw[ni];rfl
  have bn:(SV.agg (cr t)).cells=cr t:=rfl;obtain⟨H2,aH,aF⟩:=Ia (lf:=lf) (n:=n) (H:=H1) YB h1 h2 om;obtain⟨w1,w2⟩:=alq hg;have qX:g≠0:=om;rcases hk with⟨hk,hx⟩|⟨hk,hx⟩
  ·obtain⟨H3,bf,aS⟩:=HW (lf:=lf) (n:=n) (H:=H2) (s:=cB s t) Ph om aC;have e1:kR bR (c9 bR (cB s t))=(cB s t).length:=by rw[hx,w1];unfold kR;rw[if_neg qX]
   have e2:c9 bR (cB s t)=g:=by rw[hx,w1]
   rw[e1,e2]at bf;have d1:decide (((t.1:Nat):Int)=((11:Nat):Int))=true:=by rw[hk];decide
   have d2:decide ((((cB s t).length:Nat):Int)=(((cB s t).length:Nat):Int))=true:=by simp
   generalize cB s t=x at aH bf d2;generalize cr t=tc at ay r3 bn aH;refine cx IF.1 ?_;refine af (An @bn (An @ay (An @r0 @d1))) ?_;refine ar ae ?_;refine af @r3 ?_;refine ai ae aH ?_;refine af ae ?_;refine ai ae bf ?_;refine af @d2 ?_;refine ar ae ?_;refine af ae ?_;refine aO ae ?_;exact(⟨rfl,aB.trans (aF.trans aS)⟩)
  ·obtain⟨H3,bf,aS⟩:=HW (lf:=lf) (n:=n) (H:=H2) (s:=cB s t) Pg om aC;have e1:kR bS (c9 bS (cB s t))=(cB s t).length:=by rw[hx,w2];unfold kR;rw[if_neg qX]
   have e2:c9 bS (cB s t)=g:=by rw[hx,w2]
   rw[e1,e2]at bf;have d1:decide (((t.1:Nat):Int)=((11:Nat):Int))=false:=by rw[hk];decide
   have d3:decide (((t.1:Nat):Int)=((12:Nat):Int))=true:=by rw[hk];decide
   have d2:decide ((((cB s t).length:Nat):Int)=(((cB s t).length:Nat):Int))=true:=by simp
   generalize cB s t=x at aH bf d2;generalize cr t=tc at ay r3 bn aH;refine cx IF.1 ?_;refine af (An @bn (An @ay (An @r0 @d1))) ?_;refine ah ae ?_;refine af @d3 ?_;refine ar ae ?_;refine af @r3 ?_;refine ai ae aH ?_;refine af ae ?_;refine ai ae bf ?_;refine af @d2 ?_;refine ar ae ?_;refine af ae ?_;refine aO ae ?_;exact(⟨rfl,aB.trans (aF.trans aS)⟩)
 obtain⟨w,H',h,rfl,h2⟩:=key;exact⟨H',h,h2⟩
end
end
section
section
variable {lf n:Nat} {H:ag} {own:Nat->Nat}
theorem alu {p:Nat} {s:List Nat} {t:Tok} {st:List AE} (h:PS own H p st) (aD:bC st) (hr:st.length<=21) (h1:t.2.1<t.2.2) (h2:t.2.2<=s.length) (hg:pB t.1 (cB s t)) (hb:(aU st).length+(cB s t).length<=70000) (hn:8<=n) (aC:200000<lf):
 ∃au H',aj ak lf n 200 [.ptr p 0,.str s,.agg (cr t)] H=some (.aJ [],H')/\PS au H' p (jV st t.1 (cB s t))/\bM own H au H':=by
 obtain⟨n,rfl⟩:=aN (n:=n);have key:∃w H',aj ak lf (n+1) 200 [.ptr p 0,.str s,.agg (cr t)] H=some (w,H')/\w=.aJ []/\∃au,PS au H' p (jV st t.1 (cB s t))/\bM own H au H':=by
  obtain⟨H1,ay⟩:∃H1,H.push (.row (cr t) 294 true false 0)=H1:=⟨_,rfl⟩;have aB:Ext H H1:=by rw[<-ay];exact(Ext.refl H).push _
  have ni:H1.get H.next=some (.row (cr t) 294 true false 0):=by rw[<-ay];exact bd _
  have r3:aq (H1.get H.next) 0 3=some (cr t):=by rw[ni];rfl
  have bn:(SV.agg (cr t)).cells=cr t:=rfl;obtain⟨H2,aH,aF⟩:=Ia (lf:=lf) (n:=n) (H:=H1) YB (Nat.le_of_lt h1) h2 om;have cG:=aB.trans aF;have r0:aq (H2.get H.next) 0 1=some [iN t.1]:=by rw[aF.2 _ (by rw[<-ay];exact Nat.lt_succ_self _),ni];rfl
  have vP:aq (H2.get H.next) 0 3=some (cr t):=by rw[aF.2 _ (by rw[<-ay];exact Nat.lt_succ_self _)];exact r3
  have eO:=h.ext cG;have ga:=cG.bY own;have lK:cB s t≠[]:=by
   intro e;have:=congrArg List.length e;simp only[cB,List.length_take,List.length_drop,List.length_nil]at this;omega
  have ru:∀g:Nat,(g=1\/g=2\/g=3)->(t.1=11/\cB s t=bR g)\/(t.1=12/\cB s t=bS g)->∃H',aj ak lf n 270 [.str s,.agg (cr t)] H2=some (iN g,H')/\Ext H2 H':=fun g hg hk=>alw hg (Nat.le_of_lt h1) h2 hk om om
  obtain⟨x,hx⟩:∃x,cB s t=x:=⟨_,rfl⟩;rw[hx]at aH hg hb lK ru ⊢;obtain⟨k,hk⟩:∃k,t.1=k:=⟨_,rfl⟩;rw[hk]at r0 hg ru ⊢;generalize cr t=tc at ay ni r3 bn aH vP ru;have L8:k=1\/k=2\/k=3\/k=4\/k=5\/k=6\/k=7\/k=8\/k=9\/k=10\/k=11\/k=12:=by
   unfold pB at hg;split at hg<;>first|omega|exact hg.elim
  rcases L8 with rfl|rfl|rfl|rfl|rfl|rfl|rfl|rfl|rfl|rfl|rfl|rfl
  ·have dF:∀j:Nat,j≠1->decide (((1:Nat):Int)=((j:Nat):Int))=false:=fun j hj=>by simp only[decide_eq_false_iff_not];omega
   have dT:decide (((1:Nat):Int)=((1:Nat):Int))=true:=by decide
   obtain⟨eC,H3,bf,fE,ct⟩:=oG (lf:=lf) (n:=n) (s:=x) eO aD om om om;refine cx nI.1 ?_;refine af (An @bn (An @ay @r3)) ?_;refine ai ae aH ?_;refine af (An @r0 @dT) ?_;refine ar ae ?_;refine af ae ?_;refine ar ae ?_;refine af ae ?_;refine ai ae bf ?_;refine af ae ?_;refine cF bQ ?_;exact(⟨rfl,eC,fE,ga.trans ct⟩)
  ·have dF:∀j:Nat,j≠2->decide (((2:Nat):Int)=((j:Nat):Int))=false:=fun j hj=>by simp only[decide_eq_false_iff_not];omega
   have dT:decide (((2:Nat):Int)=((2:Nat):Int))=true:=by decide
   obtain⟨eC,H3,bf,fE,ct⟩:=oG (lf:=lf) (n:=n) (s:=x) eO aD om om om;refine cx nI.1 ?_;refine af (An @bn (An @ay @r3)) ?_;refine ai ae aH ?_;refine af (An @r0 @dF) ?_;refine ah ae ?_;refine af @dT ?_;refine ar ae ?_;refine af ae ?_;refine ai ae bf ?_;refine af ae ?_;refine cF bQ ?_;exact(⟨rfl,eC,fE,ga.trans ct⟩)
  ·have dF:∀j:Nat,j≠3->decide (((3:Nat):Int)=((j:Nat):Int))=false:=fun j hj=>by simp only[decide_eq_false_iff_not];omega
   have dT:decide (((3:Nat):Int)=((3:Nat):Int))=true:=by decide
   obtain⟨H3,ch⟩:∃H3,H2.push (.row [iN 3,iN 0,iN x.length,.ao,.ao] 289 true false 0)=H3:=⟨_,rfl⟩;have aS:Ext H2 H3:=by rw[<-ch];exact(Ext.refl H2).push _
   have fo:H3.next=H2.next+1:=by rw[<-ch];rfl
   have dA:H3.get H2.next=some (.row [iN 3,iN 0,iN x.length,.ao,.ao] 289 true false 0):=by rw[<-ch];exact bd _
   obtain⟨fj,bK⟩:=eO.res aS (b:=H2.next) (Nat.le_refl _) om;obtain⟨ux,H4,fx,mj,fb⟩:=N1 (lf:=lf) (n:=n) (eb:=H2.next) (e:=⟨3,0,x.length,[],[]⟩) (x:=x) fj aD dA rfl rfl om (xS ..) (by simp only[];omega) om om om;refine cx nI.1 ?_;refine af (An @bn (An @ay @r3)) ?_;refine ai ae aH ?_;refine af (An @r0 @dF) ?_;refine ah ae ?_;refine af @dF ?_;refine ah ae ?_;refine af @dF ?_;refine ah ae ?_;refine af @dF ?_;refine ah ae ?_;refine af @dT ?_;refine ar ae ?_;refine af @ch ?_;refine ai ae fx ?_;refine af ae ?_;refine cF bQ ?_;exact(⟨rfl,ux,mj,ga.trans (bK.trans fb)⟩)
  ·have dF:∀j:Nat,j≠4->decide (((4:Nat):Int)=((j:Nat):Int))=false:=fun j hj=>by simp only[decide_eq_false_iff_not];omega
   have dT:decide (((4:Nat):Int)=((4:Nat):Int))=true:=by decide
   obtain⟨eC,H3,bf,fE,ct⟩:=abG (lf:=lf) (n:=n) (c0:=x.length) eO aD om om om aC;refine cx nI.1 ?_;refine af (An @bn (An @ay @r3)) ?_;refine ai ae aH ?_;refine af (An @r0 @dF) ?_;refine ah ae ?_;refine af @dF ?_;refine ah ae ?_;refine af @dF ?_;refine ah ae ?_;refine af @dF ?_;refine ah ae ?_;refine af @dF ?_;refine ah ae ?_;refine af @dF ?_;refine ah ae ?_;refine af @dF ?_;refine ah ae ?_;refine af @dF ?_;refine ah ae ?_;refine af @dF ?_;refine ah ae ?_;refine af @dF ?_;refine ah ae ?_;refine af @dF ?_;refine ah ae ?_;refine af @dT ?_;refine ar ae ?_;refine af ae ?_;refine ai ae bf ?_;refine af ae ?_;refine cF bQ ?_;exact(⟨rfl,eC,fE,ga.trans ct⟩)
  ·have dF:∀j:Nat,j≠5->decide (((5:Nat):Int)=((j:Nat):Int))=false:=fun j hj=>by simp only[decide_eq_false_iff_not];omega
   have dT:decide (((5:Nat):Int)=((5:Nat):Int))=true:=by decide
   obtain⟨H3,ch⟩:∃H3,H2.push (.row [iN 1,iN 0,iN 0,.ao,.ao] 289 true false 0)=H3:=⟨_,rfl⟩;have aS:Ext H2 H3:=by rw[<-ch];exact(Ext.refl H2).push _
   have fo:H3.next=H2.next+1:=by rw[<-ch];rfl
   have dA:H3.get H2.next=some (.row [iN 1,iN 0,iN 0,.ao,.ao] 289 true false 0):=by rw[<-ch];exact bd _
   obtain⟨fj,bK⟩:=eO.res aS (b:=H2.next) (Nat.le_refl _) om;obtain⟨ux,H4,fx,mj,fb⟩:=N1 (lf:=lf) (n:=n) (eb:=H2.next) (e:=⟨1,0,0,[],[]⟩) (x:=x) fj aD dA rfl rfl om (xS ..) (by simp only[];omega) om om om;refine cx nI.1 ?_;refine af (An @bn (An @ay @r3)) ?_;refine ai ae aH ?_;refine af (An @r0 @dF) ?_;refine ah ae ?_;refine af @dF ?_;refine ah ae ?_;refine af @dF ?_;refine ah ae ?_;refine af @dF ?_;refine ah ae ?_;refine af @dF ?_;refine ah ae ?_;refine af @dT ?_;refine ar ae ?_;refine af @ch ?_;refine ai ae fx ?_;refine af ae ?_;refine cF bQ ?_;exact(⟨rfl,ux,mj,ga.trans (bK.trans fb)⟩)
  ·have dF:∀j:Nat,j≠6->decide (((6:Nat):Int)=((j:Nat):Int))=false:=fun j hj=>by simp only[decide_eq_false_iff_not];omega
   have dT:decide (((6:Nat):Int)=((6:Nat):Int))=true:=by decide
   obtain⟨eC,H3,bf,fE,ct⟩:=abH (lf:=lf) (n:=n) eO aD om om om aC;refine cx nI.1 ?_;refine af (An @bn (An @ay @r3)) ?_;refine ai ae aH ?_;refine af (An @r0 @dF) ?_;refine ah ae ?_;refine af @dF ?_;refine ah ae ?_;refine af @dF ?_;refine ah ae ?_;refine af @dF ?_;refine ah ae ?_;refine af @dF ?_;refine ah ae ?_;refine af @dF ?_;refine ah ae ?_;refine af @dF ?_;refine ah ae ?_;refine af @dF ?_;refine ah ae ?_;refine af @dF ?_;refine ah ae ?_;refine af @dT ?_;refine ar ae ?_;refine af ae ?_;refine ai ae bf ?_;refine af ae ?_;refine cF bQ ?_;exact(⟨rfl,eC,fE,ga.trans ct⟩)
  ·have dF:∀j:Nat,j≠7->decide (((7:Nat):Int)=((j:Nat):Int))=false:=fun j hj=>by simp only[decide_eq_false_iff_not];omega
   have dT:decide (((7:Nat):Int)=((7:Nat):Int))=true:=by decide
   obtain⟨eC,H3,bf,fE,ct⟩:=aaO (lf:=lf) (n:=n) eO aD om om om;refine cx nI.1 ?_;refine af (An @bn (An @ay @r3)) ?_;refine ai ae aH ?_;refine af (An @r0 @dF) ?_;refine ah ae ?_;refine af @dF ?_;refine ah ae ?_;refine af @dF ?_;refine ah ae ?_;refine af @dF ?_;refine ah ae ?_;refine af @dF ?_;refine ah ae ?_;refine af @dF ?_;refine ah ae ?_;refine af @dF ?_;refine ah ae ?_;refine af @dT ?_;refine ar ae ?_;refine af ae ?_;refine ai ae bf ?_;refine af ae ?_;refine cF bQ ?_;exact(⟨rfl,eC,fE,ga.trans ct⟩)
  ·have dF:∀j:Nat,j≠8->decide (((8:Nat):Int)=((j:Nat):Int))=false:=fun j hj=>by simp only[decide_eq_false_iff_not];omega
   have dT:decide (((8:Nat):Int)=((8:Nat):Int))=true:=by decide
   obtain⟨eC,H3,bf,fE,ct⟩:=acy (lf:=lf) (n:=n) eO aD om om om;refine cx nI.1 ?_;refine af (An @bn (An @ay @r3)) ?_;refine ai ae aH ?_;refine af (An @r0 @dF) ?_;refine ah ae ?_;refine af @dF ?_;refine ah ae ?_;refine af @dF ?_;refine ah ae ?_;refine af @dF ?_;refine ah ae ?_;refine af @dF ?_;refine ah ae ?_;refine af @dF ?_;refine ah ae ?_;refine af @dF ?_;refine ah ae ?_;refine af @dF ?_;refine ah ae ?_;refine af @dT ?_;refine ar ae ?_;refine af ae ?_;refine ai ae bf ?_;refine af ae ?_;refine cF bQ ?_;exact(⟨rfl,eC,fE,ga.trans ct⟩)
  ·have dF:∀j:Nat,j≠9->decide (((9:Nat):Int)=((j:Nat):Int))=false:=fun j hj=>by simp only[decide_eq_false_iff_not];omega
   have dT:decide (((9:Nat):Int)=((9:Nat):Int))=true:=by decide
   obtain⟨eC,H3,bf,fE,ct⟩:=C7 (lf:=lf) (n:=n) eO (Nd.comment x lK) rfl aD om om om;refine cx nI.1 ?_;refine af (An @bn (An @ay @r3)) ?_;refine ai ae aH ?_;refine af (An @r0 @dF) ?_;refine ah ae ?_;refine af @dF ?_;refine ah ae ?_;refine af @dT ?_;refine ar ae ?_;refine af ae ?_;refine ai ae bf ?_;refine af ae ?_;refine cF bQ ?_;exact(⟨rfl,eC,fE,ga.trans ct⟩)
  ·have dF:∀j:Nat,j≠10->decide (((10:Nat):Int)=((j:Nat):Int))=false:=fun j hj=>by simp only[decide_eq_false_iff_not];omega
   have dT:decide (((10:Nat):Int)=((10:Nat):Int))=true:=by decide
   obtain⟨y,hy⟩:=hg;have hl:x.length=y.length+17:=by rw[hy];simp[eB,gB]<;>omega
   have e1:((x.length:Nat):Int)-((9:Nat):Int)=((y.length+8:Nat):Int):=om;have bE:(x.drop 8).take (y.length+8-8)=y:=by rw[hy,Nat.add_sub_cancel];simp[eB,gB]
   obtain⟨eC,H3,bf,fE,ct⟩:=C7 (lf:=lf) (n:=n) eO (Nd.sR y) rfl aD om om om;rw[<-hy]at fE;refine cx nI.1 ?_;refine af (An @bn (An @ay @r3)) ?_;refine ai ae aH ?_;refine af (An @r0 @dF) ?_;refine ah ae ?_;refine af @dF ?_;refine ah ae ?_;refine af @dF ?_;refine ah ae ?_;refine af @dT ?_;refine ar ae ?_;refine af (An @bE @e1) ?_;refine ai ae bf ?_;refine af ae ?_;refine cF bQ ?_;exact(⟨rfl,eC,fE,ga.trans ct⟩)
  ·have dF:∀j:Nat,j≠11->decide (((11:Nat):Int)=((j:Nat):Int))=false:=fun j hj=>by simp only[decide_eq_false_iff_not];omega
   have dT:decide (((11:Nat):Int)=((11:Nat):Int))=true:=by decide
   obtain⟨g,nS,rC⟩:=hg;obtain⟨H5,eP,bm⟩:=ru g nS (.inl ⟨rfl,rC⟩);have MT:qv bR x=g:=by rw[rC];exact HT nS
   obtain⟨H3,ch⟩:∃H3,H5.push (.row [iN 2,iN g,iN 0,.ao,.ao] 289 true false 0)=H3:=⟨_,rfl⟩;have aS:Ext H5 H3:=by rw[<-ch];exact(Ext.refl H5).push _
   have fo:H3.next=H5.next+1:=by rw[<-ch];rfl
   have dA:H3.get H5.next=some (.row [iN 2,iN g,iN 0,.ao,.ao] 289 true false 0):=by rw[<-ch];exact bd _
   obtain⟨fj,bK⟩:=(eO.ext bm).res aS (b:=H5.next) (Nat.le_refl _) om;obtain⟨ux,H4,fx,mj,fb⟩:=N1 (lf:=lf) (n:=n) (eb:=H5.next) (e:=⟨2,g,0,[],[]⟩) (x:=x) fj aD dA rfl rfl om (xS ..) (by simp only[];omega) om om om;have jJ:=bm.bY own;refine cx nI.1 ?_;refine af (An @bn (An @ay @r3)) ?_;refine ai ae aH ?_;refine af (An @r0 @dF) ?_;refine ah ae ?_;refine af @dF ?_;refine ah ae ?_;refine af @dF ?_;refine ah ae ?_;refine af @dF ?_;refine ah ae ?_;refine af @dF ?_;refine ah ae ?_;refine af @dF ?_;refine ah ae ?_;refine af @dT ?_;refine ar ae ?_;refine af @vP ?_;refine ai ae eP ?_;refine af @ch ?_;refine ai ae fx ?_;refine af ae ?_;refine cF bQ ?_;exact(⟨rfl,ux,by rw[<-MT]at mj;exact mj,ga.trans (jJ.trans (bK.trans fb))⟩)
  ·have dF:∀j:Nat,j≠12->decide (((12:Nat):Int)=((j:Nat):Int))=false:=fun j hj=>by simp only[decide_eq_false_iff_not];omega
   have dT:decide (((12:Nat):Int)=((12:Nat):Int))=true:=by decide
   obtain⟨g,nS,rC⟩:=hg;obtain⟨H5,eP,bm⟩:=ru g nS (.inr ⟨rfl,rC⟩);have ph:qv bS x=g:=by rw[rC];exact OT nS
   have jJ:=bm.bY own;obtain⟨eC,H3,bf,fE,ct⟩:=abI (lf:=lf) (n:=n) (x:=x) (eO.ext bm) aD nS om om om aC;refine cx nI.1 ?_;refine af (An @bn (An @ay @r3)) ?_;refine ai ae aH ?_;refine af (An @r0 @dF) ?_;refine ah ae ?_;refine af @dF ?_;refine ah ae ?_;refine af @dF ?_;refine ah ae ?_;refine af @dF ?_;refine ah ae ?_;refine af @dF ?_;refine ah ae ?_;refine af @dF ?_;refine ah ae ?_;refine af @dF ?_;refine ah ae ?_;refine af @dF ?_;refine ah ae ?_;refine af @dF ?_;refine ah ae ?_;refine af @dF ?_;refine ah ae ?_;refine af @dT ?_;refine ar ae ?_;refine af @vP ?_;refine ai ae eP ?_;refine af ae ?_;refine ai ae bf ?_;refine af ae ?_;refine cF bQ ?_;exact(⟨rfl,eC,by rw[<-ph]at fE;exact fE,ga.trans (jJ.trans ct)⟩)
 obtain⟨w,H',hc,rfl,au,k1,k2⟩:=key;exact⟨au,H',hc,k1,k2⟩
end
end
section
theorem Rg.any {ok:Nat->Prop} {H:ag} {v:SV} {z:Nat} {L:List (List SV)} (h:Rg ok H v z L):Rg (fun _=>True) H v z L:=h.ax (Nat.le_refl _) fun _ _ _=>⟨trivial,rfl⟩
def kr (s:List Nat) (i:Nat):List AE:=((cw s).take i).foldl (fun st t=>jV st t.1 (cB s t)) [root]
theorem Yn (s:List Nat):kr s 0=[root]:=rfl
theorem OO {s:List Nat} {i:Nat} {t:Tok} (h:(cw s)[i]? =some t):kr s (i+1)=jV (kr s i) t.1 (cB s t):=by
 unfold kr;rw[List.take_succ,h,List.foldl_append];rfl
theorem Ym (s:List Nat):kr s (cw s).length=rW s (cw s):=by unfold kr rW;rw[List.take_length]
theorem OM (s:List Nat) (i:Nat):bC (kr s i)/\(aU (kr s i)).length<=s.length/\(∀t,(cw s)[i]? =some t->(aU (kr s i)).length+(cB s t).length<=s.length):=by
 obtain⟨h1,h2⟩:=Ib s;obtain⟨k1,k2⟩:=Oy s ((cw s).take i) [root] Xt fun x hx=>(h1 x (List.mem_of_mem_take hx)).2.2
 have hs:(((cw s).take i).map (cB s)).flatten.length+(((cw s).drop i).map (cB s)).flatten.length=s.length:=by
  rw[<-List.length_append,<-List.flatten_append,<-List.map_append,List.take_append_drop,h2]
 have e:aU (kr s i)=(((cw s).take i).map (cB s)).flatten:=k2;refine⟨k1,by rw[e];omega,fun t ht=>?_⟩;rw[e];have hd:(cw s).drop i=t::(cw s).drop (i+1):=by
  have hl:=(List.getElem?_eq_some_iff.1 ht).1;rw[List.drop_eq_getElem_cons hl,(List.getElem?_eq_some_iff.1 ht).2]
 rw[hd,List.map_cons,List.flatten_cons,List.length_append]at hs;omega
theorem HO (s:List Nat):∀i,(kr s i).length<=21
 |0=>by rw[Yn];decide
 |i+1=>by
  cases h:(cw s)[i]? with
  |none=>
   have:(cw s).take (i+1)=(cw s).take i:=by rw[List.take_succ,h];simp
   unfold kr;rw[this];exact HO s i
  |some t=>
   rw[OO h];exact aau _ _ (OM s i).1 (HO s i)
@[reducible] def Zv (de:Nat->Nat) (H0:ag) (p:Nat) (s:List Nat) (v:SV) (m:Nat) (ts:T) (D:DS) (H':ag):Prop:=
  D=[]/\∃(i:Nat) (au:Nat->Nat),m=(cw s).length-i/\i<=(cw s).length/\PS au H' p (kr s i)/\bM de H0 au H'/\∃z:Nat->SV,ts=((.str s)::zz z 1 5 ((.ptr p 0)::zz z 7 15 ((v)::(.int .i64 ((cw s).length:Int))::(.int .i64 (i:Int))::zz z 25 21 [])):T)/\(True)
@[reducible] def Z6 (de:Nat->Nat) (H0:ag) (p:Nat) (st:List AE) (m:Nat) (ts:T) (D:DS) (H':ag):Prop:=
  D=[]/\∃(q:Nat) (au:Nat->Nat),m=st.length-1-q/\q+1<=st.length/\PS au H' p (eS q st)/\bM de H0 au H'/\∃z:Nat->SV,ts=(zz z 0 6 ((.ptr p 0)::zz z 7 39 []):T)/\(True)
section
variable {lf n:Nat} {H:ag}
theorem aiV {s:List Nat} (hs:s.length<=8192) (hn:9<=n) (aC:200000<lf):∃v H',aj ak lf n 126 [.str s] H=some (.aJ [v,iN 0],H')/\Ext H H'/\NL (fun _=>True) H' v (oD s):=by
 obtain⟨n,rfl⟩:=aN (n:=n);obtain⟨tv,H1,aV,aB,nR⟩:=akg (lf:=lf) (n:=n) (H:=H) hs om om;have key:∃w H',aj ak lf (n+1) 126 [.str s] H=some (w,H')/\∃v,w=.aJ [v,iN 0]/\Ext H H'/\NL (fun _=>True) H' v (oD s):=by
  have d0:decide (((0:Nat):Int)≠((0:Nat):Int))=false:=by decide
  obtain⟨eb,xp⟩:∃eb,H1.next=eb:=⟨_,rfl⟩;obtain⟨H2,aY⟩:∃H2,((H1.push (.row [iN 0,iN 0,iN 0,.ao,.ao] 289 true false 0)).push (.row [.ptr eb 0] 286 true false 0)).push (.row [.slice (eb+1) 0 1 (some 1) 1] 292 true false 0)=H2:=⟨_,rfl⟩;have aF:Ext H1 H2:=by rw[<-aY];exact(((Ext.refl H1).push _).push _).push _
  have dc:H2.next=eb+3:=by rw[<-aY,<-xp];rfl
  have g1:H2.get eb=some (.row [iN 0,iN 0,iN 0,.ao,.ao] 289 true false 0):=by rw[<-aY,cU (by simp only[dZ];omega),cU (by simp only[dZ];omega),<-xp];exact bd _
  have g2:H2.get (eb+1)=some (.row [.ptr eb 0] 286 true false 0):=by rw[<-aY,cU (by simp only[dZ];omega),<-xp];exact bd (H:=H1.push _) _
  have g3:H2.get (eb+2)=some (.row [.slice (eb+1) 0 1 (some 1) 1] 292 true false 0):=by rw[<-aY,<-xp];exact bd (H:=(H1.push _).push _) _
  obtain⟨de,pf⟩:∃f:Nat->Nat,∀q,f q=if q=eb then 2 else if q=eb+1 then 1 else if q=eb+2 then 1 else 0:=⟨_,fun _=>rfl⟩
  have o1:de eb=2:=by rw[pf,if_pos rfl]
  have o2:de (eb+1)=1:=by rw[pf,if_neg om,if_pos rfl]
  have o3:de (eb+2)=1:=by rw[pf,if_neg om,if_neg om,if_pos rfl]
  have oz:∀q,q<eb\/eb+3<=q->de q=0:=fun q hq=>by rw[pf,if_neg om,if_neg om,if_neg om]
  have adO:PS de H2 (eb+2) [root]:=by
   refine⟨o3,by omega,fun q hq=>oz q om,_,[eb],g3,⟨eb+1,some 1,[.ptr eb 0],true,rfl,fun q h=>by cases h;exact⟨rfl,rfl⟩,fun h=>(by cases h),o2,by omega,g2,rfl⟩,⟨o1,by omega,Nat.zero_le _,.ao,.ao,g1,.inl ⟨rfl,rfl,MN.nil⟩⟩,trivial⟩
  have zj:=(nR.ax aF);have Fp:Rg (fz de) H2 tv 3 (jn (cw s)):=by
   refine⟨nR.1,?_⟩;rcases nR.2 with⟨a,b⟩|⟨b,c,e,ex,ro,frz,a1,a2,a3,a4⟩
   ·exact .inl ⟨a,.inl b⟩
   ·exact .inr ⟨b,c,e,ex,ro,frz,[],[],by simpa using a1,oz b om,by omega,by simpa using(aF.2 b a3).trans a4⟩
  have aW:=Fp.cA;rw[O1]at aW;have fU:(cw s).length<=8192:=by
   have:=OB s (s.length+1) 0 0 (Nat.le_refl _) (Nat.zero_le _) om;unfold cw;omega
  refine cx Il.1 ?_;refine af ae ?_;refine ai ae aV ?_;refine af @d0 ?_;refine ah ae ?_;have fG:eb+1+1=eb+2:=rfl;refine af (An @xp (An @aY @aW)) ?_;refine bH (I:=Zv de H2 (eb+2) s tv) ?_ (cw s).length ?_ om
  ·rintro m ts D H' ⟨rfl,i,au,rfl,hi,eO,hP,⟨z,rfl, -⟩⟩;obtain⟨aD,bE,uq⟩:=OM s i;have tF:=HO s i;by_cases bw:i<(cw s).length
   ·have fQ:=List.getElem?_eq_getElem bw;generalize (cw s)[i]=t at fQ;have hg:=(Ib s).1 t (List.mem_of_getElem? fQ);have zm:(jn (cw s))[i]? =some (cr t):=by simp[jn,fQ]
    obtain⟨bb,oo,x1,_,dz,x2,_⟩:=(Fp.ax hP.1 hP.2).at_ zm;have rh:=uq t fQ;obtain⟨H5,bg⟩:∃H5,(H'.push (.row [iN 0,iN 0,iN 0] 294 true false 0)).put H'.next (.row (cr t) 294 true false 0)=H5:=⟨_,rfl⟩;have bm:Ext H' H5:=by rw[<-bg];exact((Ext.refl H').push _).put (Nat.le_refl _) _
    have fw:H5.get H'.next=some (.row (cr t) 294 true false 0):=by rw[<-bg];exact bT _ _
    have iH:c7 3 (.ptr H'.next 0) (cr t) (H'.push (.row [iN 0,iN 0,iN 0] 294 true false 0))=some H5:=by
     rw[iL (n:=3) (cs:=cr t) rfl,iq,bd,im (Nat.le_refl _) (Nat.le_refl _) rfl,<-bg];rfl
    have x3:aq ((H'.push (.row [iN 0,iN 0,iN 0] 294 true false 0)).get bb) oo 3=some (cr t):=by rw[cU dz];exact x2
    have r5:aq (H5.get H'.next) 0 3=some (cr t):=by rw[fw];rfl
    have bn:(SV.agg (cr t)).cells=cr t:=rfl;obtain⟨Al,H6,cP,xg,fv⟩:=alu (lf:=lf) (n:=n) (s:=s) (t:=t) (eO.ext bm) aD tF hg.1 hg.2.1 hg.2.2 om om aC;have xG:=OO fQ;have d1:decide (((i:Nat):Int)<(((cw s).length:Nat):Int))=true:=dt;generalize cr t=tc at x2 x3 iH r5 bn cP;refine af @d1 ?_;refine ar ae ?_;refine af (An @x1 (An @x2 (An @x3 (An @bn (An @iH @r5))))) ?_;refine ai ae cP ?_;refine af (c8 (k:=i) om) ?_;refine aT ((cw s).length-(i+1)) om ⟨rfl,i+1,Al,rfl,by omega,by rw[xG];exact xg,hP.trans ((bm.bY au).trans fv),aw⟩
   ·have bw:i=(cw s).length:=om;subst bw;have d1:decide ((((cw s).length:Nat):Int)<(((cw s).length:Nat):Int))=false:=by simp
    have sI:oD s=O3 (eS ((kr s (cw s).length).length-1) (kr s (cw s).length)):=by rw[Ym];rfl
    generalize kr s (cw s).length=st at eO aD bE tF sI;have aP:st.length≠0:=by have:=aD.ne;simpa using this
    refine af @d1 ?_;refine ah ae ?_;refine af ae ?_;refine bH (I:=Z6 de H2 (eb+2) st) ?_ (st.length-1) ?_ om
    ·rintro m2 ts D H3 ⟨rfl,q,c5,rfl,hq,fj,bK,⟨z,rfl, -⟩⟩;obtain⟨z1,z2,z3⟩:=uQ (j:=q) aD om;obtain⟨YA,y0,y1,_,_⟩:=fj.elem;rw[z2]at y1;by_cases F4:q+1<st.length
     ·have d4:decide (((st.length-q:Nat):Int)>((1:Nat):Int))=true:=dt;obtain⟨eC,H4,bf,fE,ct⟩:∃eC H4,aj ak lf n 201 [.ptr (eb+2) 0] H3=some (.aJ [],H4)/\PS eC H4 (eb+2) (eS (q+1) st)/\bM c5 H3 eC H4:=by
       rw[A7];cases hh:eS q st with
       |nil=>rw[hh]at z1;exact z1.elim
       |cons e1 r1=>
        rw[hh]at z1 z2 z3 fj;simp only[List.length_cons]at z2;exact KH (lf:=lf) (n:=n) fj (by intro e2;subst e2;simp at z2;omega) z1 (by rw[z3];omega) om om aC
      refine af (An @y0 (An @y1 @d4)) ?_;refine ar ae ?_;refine af ae ?_;refine ai ae bf ?_;refine af ae ?_;refine aT (st.length-1-(q+1)) om ⟨rfl,q+1,eC,rfl,by omega,fE,bK.trans ct,aw⟩
     ·have F4:q=st.length-1:=om;have d4:decide (((st.length-q:Nat):Int)>((1:Nat):Int))=false:=df;rw[<-F4]at sI;cases hh:eS q st with
      |nil=>rw[hh]at z1;exact z1.elim
      |cons e1 r1=>
       rw[hh]at z1 z2 z3 fj sI;simp only[List.length_cons]at z2;obtain rfl:r1=[]:=List.eq_nil_of_length_eq_zero om;obtain⟨_,_,_,sv,ps,h4,h5,h6⟩:=fj
       match ps,h6 with
       |[pb],h6=>
       have iV:=vX (lf:=lf) (n:=n) h4 h5 (by simp) om;obtain⟨⟨_,_,_,lv,av,k4,k5⟩,_⟩:=h6;have r3:aq (H3.get pb) 3 1=some [lv]:=by rw[k4];rfl
       have fy:NL (fun _=>True) H3 lv (oD s):=by
        rw[sI];rcases k5 with⟨_,_,C,hC,hA⟩|⟨D,A,a,nv,vv,b1,b2,_⟩
        ·exact⟨C,hC.rg.any,hA.imp fun _ _ h=>h.ax (Nat.le_refl _) fun _ _ _=>⟨trivial,rfl⟩⟩
        ·have:e1.args=[]:=z1.2;rw[b2]at this;simp at this
       have qP:Ext H H3:=⟨Nat.le_trans (aB.trans aF).1 bK.1,fun b hb=>by
        have hbe:b<eb:=by have:=aB.1;omega
        rw[(bK.2 b (oz b (.inl hbe)) om).2,(aB.trans aF).2 b hb]⟩
       refine af (An @y0 (An @y1 @d4)) ?_;refine ah ae ?_;refine af ae ?_;refine ai ae iV ?_;refine af @r3 ?_;refine cD ae ?_;exact(⟨lv,rfl,qP,fy⟩)
    ·exact⟨rfl,0,au,rfl,by omega,eO,hP,aw⟩
  ·exact⟨rfl,0,de,rfl,Nat.zero_le _,adO,bM.refl _ _,aw⟩
 obtain⟨w,H',h,v,rfl,h2,h3⟩:=key;exact⟨v,H',h,h2,h3⟩
end
end
end Go.Sh
