/-
  The steps of the program parser, second part. No conditions beyond those that stand in the theorems.
-/
import Derived.Test.YtfgpklidnkdahaaGreatDoorShD0
set_option linter.all false
set_option maxHeartbeats 20000000
set_option maxRecDepth 10000
namespace Go.Sh
section
theorem fL.args {own:Nat->Nat} {k:Nat} {H:ag} {pb:Nat} {e:AE} (h:fL own k H pb e):∃lv av L,own pb=k/\pb<H.next/\e.count<=100000/\H.get pb=some (.row [iN e.kind,iN e.tag,iN e.count,lv,av] 289 true false 0)/\MW own k 331 H av 3 L/\L.length=e.args.length/\
 ∀au H',bM own H au H'->(∀b,own b=k->b<H.next->(∃cs ex,H.get b=some (.row cs 301 ex false 0))->au b=0/\H'.get b=H.get b)->NL (fz au) H' lv e.list/\bG (rS (fz au) H') L e.args:=by
 obtain⟨h1,h2,h3,lv,av,h4,h5⟩:=h;rcases h5 with⟨a1,rfl,a3⟩|⟨D,A,a,nv,vv,a1,a2,a3,a4,a5,a6,a7⟩
 ·refine⟨lv,.ao,[],h1,h2,h3,h4,⟨(fun _ h=>by cases h),.inl ⟨rfl,rfl⟩⟩,by rw[a1];rfl,fun au H' g hk=>⟨a3.GK g fun b _=>hk b,by rw[a1];trivial⟩⟩
 ·refine⟨lv,av,_,h1,h2,h3,h4,a4,by rw[a2];simp[a5.len],fun au H' g hk=>⟨a3.bY g,?_⟩⟩;rw[a2];exact(a5.imp fun _ _ h=>h.bY g).snoc ⟨nv,vv,rfl,a6.bY g,a7.GK g fun b _=>hk b⟩
theorem Ra {e:AE} {r:List AE} (h:e.args=[]):jo (e::r)=bI [61] (e::r):=by
 show(match e.args.getLast? with|some a=>if e.kind=3/\a.1=false then{e with args:=ur (fun a=>(true,a.2.2,[])) e.args}::r else bI [61] (e::r)|none=>bI [61] (e::r))=_;rw[h];rfl
theorem Jo {e:AE} {r:List AE} {A:List AA} {a:AA} (h:e.args=A++[a]):jo (e::r)=if e.kind=3/\a.1=false then{e with args:=A++[(true,a.2.2,[])]}::r else bI [61] (e::r):=by
 show(match e.args.getLast? with|some a=>if e.kind=3/\a.1=false then{e with args:=ur (fun a=>(true,a.2.2,[])) e.args}::r else bI [61] (e::r)|none=>bI [61] (e::r))=_;rw[h,List.getLast?_concat,Ae]
def oq (own:Nat->Nat) (k pb nb:Nat):Nat->Nat:=fun q=>if q=nb then k else if own q=k/\q≠pb then 0 else own q
theorem Nw {own:Nat->Nat} {k pb nb:Nat} (h:own pb=k):oq own k pb nb pb=k:=by unfold oq;split<;>first|rfl|(rw[if_neg (fun hh=>hh.2 rfl)];exact h)
theorem Nv (own:Nat->Nat) (k pb nb:Nat):oq own k pb nb nb=k:=if_pos rfl
theorem Nu {own:Nat->Nat} {k pb nb q:Nat} (h:own q=k) (h1:q≠pb) (h2:q≠nb):oq own k pb nb q=0:=by unfold oq;rw[if_neg h2,if_pos ⟨h,h1⟩]
theorem zZ {own:Nat->Nat} {k pb nb q:Nat} (h:own q≠k) (h2:q≠nb):oq own k pb nb q=own q:=by unfold oq;rw[if_neg h2,if_neg (fun hh=>h hh.1)]
section
variable {lf n:Nat} {H:ag} {own:Nat->Nat}
theorem aaO {p:Nat} {st:List AE} (h:PS own H p st) (aD:bC st) (hb:(aU st).length<=90000) (hr:st.length<900) (hn:3<=n):
 ∃au H',aj ak lf n 271 [.ptr p 0] H=some (.aJ [],H')/\PS au H' p (rU st)/\bM own H au H':=by
 obtain⟨n,rfl⟩:=aN (n:=n)
 match st,aD with
 |e::r,aD=>
 have eO:=h;obtain⟨h1,h2,h3,sv,ps,h4,h5,h6⟩:=h
 match ps,h6 with
 |pb::ps,h6=>
 obtain⟨he,jL⟩:=h6;have fG:=jL.len;simp only[List.length_cons]at hr;have iV:=vX (lf:=lf) (n:=n) h4 h5 om om;obtain⟨lv,av,L,g1,g2,g3,g4,g5,g6,g7⟩:=he.args;have r0:aq (H.get pb) 0 1=some [iN e.kind]:=by rw[g4];rfl
 have r4:aq (H.get pb) 4 1=some [av]:=by rw[g4];rfl
 have key:∃w H',aj ak lf (n+1) 271 [.ptr p 0] H=some (w,H')/\w=.aJ []/\∃au,PS au H' p (rU (e::r))/\bM own H au H':=by
  by_cases hk:e.kind=3
  ·have d1:decide (((e.kind:Nat):Int)=((3:Nat):Int))=true:=by rw[hk];decide
   have b8:rU (e::r)={e with args:=e.args++[(false,[],[])]}::r:=if_pos hk;obtain⟨H1,ay⟩:∃H1,H.push (.row [.bool false,.ao,.ao] 331 true false 0)=H1:=⟨_,rfl⟩;have aB:Ext H H1:=by rw[<-ay];exact(Ext.refl H).push _
   have ca:H1.next=H.next+1:=by rw[<-ay];rfl
   have gW:H1.get H.next=some (.row [.bool false,.ao,.ao] 331 true false 0):=by rw[<-ay];exact bd _
   have Lq:MW own (r.length+2) 331 H1 av 3 L:=g5.ax aB.1 fun q hq hn=>⟨hq,aB.2 q hn⟩
   have TE:L.length<=90000:=by
    have:=qz e.args;simp only[aU,List.length_append]at hb;omega
   have ju:=Lq.Ju (bytes:=56) rfl rfl gW om (by decide);rw[ca,g6]at ju;obtain⟨H2,aY⟩:∃H2,(rE H1 av).push (.row (L.flatten++[.bool false,.ao,.ao]) 331 false false 0)=H2:=⟨_,rfl⟩;rw[aY]at ju;have kc:=Nq H1 av;have dc:H2.next=H.next+2:=by rw[<-aY,dZ,kc,ca]
   have bB:H2.get (H.next+1)=some (.row (L.flatten++[.bool false,.ao,.ao]) 331 false false 0):=by
    rw[<-aY];exact E0 (by rw[kc];omega) (by rw[kc];omega)
   have hold:∀q,q<H.next->¬iW av q->H2.get q=H.get q:=fun q hq hi=>by
    rw[<-aY,cU (by rw[kc];omega),Np hi,aB.2 q hq]
   have hpi:¬iW av pb:=fun hi=>by
    obtain⟨_,_,iO,l8,e1⟩:=g5.iW hi;exact absurd (sV g4 e1) (by decide)
   have aep:H2.get pb=some (.row [iN e.kind,iN e.tag,iN e.count,lv,av] 289 true false 0):=(hold pb g2 hpi).trans g4;obtain⟨jr,zl⟩:∃jr,SV.slice (H.next+1) 0 (e.args.length+1) none 3=jr:=⟨_,rfl⟩;obtain⟨H3,ch⟩:∃H3,H2.put pb (.row [iN e.kind,iN e.tag,iN e.count,lv,jr] 289 true false 0)=H3:=⟨_,rfl⟩;have ez:c7 1 (.ptr pb 4) [jr] H2=some H3:=by rw[<-ch];exact gY aep (by rw[<-zl];rfl) (Nat.le_refl _) (Nat.zero_le _)
   have fo:H3.next=H.next+2:=by rw[<-ch];exact dc
   have Cm:∀q,q<H.next->q≠pb->¬iW av q->H3.get q=H.get q:=fun q hq hp hi=>by rw[<-ch,cI hp,hold q hq hi]
   have hS:eR (r.length+2) own H (oq own (r.length+2) pb (H.next+1)) H3:=⟨by omega,fun q hq hk=>⟨zZ hk om,Cm q hq (fun e1=>hk (by rw[e1];exact g1)) fun hi=>hk (g5.iW hi).1⟩⟩;have hP:=hS.bY om;obtain⟨k1,k2⟩:=g7 _ _ hP fun b hb hn ht=>by
    obtain⟨cs,ex,ht⟩:=ht;have Fv:b≠pb:=fun e1=>by rw[e1]at ht;exact absurd (sV ht g4) (by decide)
    refine⟨Nu hb Fv om,Cm b hn Fv fun hi=>?_⟩;obtain⟨_,_,iO,l8,e1⟩:=g5.iW hi;exact absurd (sV ht e1) (by decide)
   have fy:PS (oq own (r.length+2) pb (H.next+1)) H3 p (rU (e::r)):=by
    rw[b8];refine PS.fg h1 h2 h4 h5 jL hS ⟨Nw g1,by omega,g3,lv,jr,by rw[<-ch];exact bT _ _,.inr ⟨L,e.args,(false,[],[]),.ao,.ao,hk,rfl,k1,?_,k2,NL.nil,MN.nil⟩⟩ fun q hq=>?_
    ·rw[<-zl,<-g6];exact MW.C3 g5.1 rfl (fun q h=>by cases h) (fun _=>rfl) (Nv ..) om (by rw[<-ch,cI om];exact bB)
    ·rw[zZ (by rw[h3 q om];omega) om];exact h3 q om
   refine cx IG.1 ?_;refine af ae ?_;refine ai ae iV ?_;refine af (An @r0 @d1) ?_;refine ar ae ?_;have Fs:jr.cells=[jr]:=by rw[<-zl];rfl
   refine af (An @r4 (An @ay (An @ju (An @zl (An @Fs @ez))))) ?_;refine gQ bQ ?_;exact(⟨rfl,_,fy,hP⟩)
  ·have d1:decide (((e.kind:Nat):Int)=((3:Nat):Int))=false:=df;have b8:rU (e::r)=bI [124] (e::r):=if_neg hk;obtain⟨c5,H2,aH,fj,bK⟩:=oG (lf:=lf) (n:=n) (s:=[124]) eO aD (by simp only[List.length_cons,List.length_nil];omega) (by simp only[List.length_cons];omega) om;refine cx IG.1 ?_;refine af ae ?_;refine ai ae iV ?_;refine af (An @r0 @d1) ?_;refine ah ae ?_;refine af ae ?_;refine ai ae aH ?_;refine af ae ?_;refine cF bQ ?_;exact(⟨rfl,c5,by rw[b8];exact fj,bK⟩)
 obtain⟨w,H',hc,rfl,au,k1,k2⟩:=key;exact⟨au,H',hc,k1,k2⟩
theorem acy {p:Nat} {st:List AE} (h:PS own H p st) (aD:bC st) (hb:(aU st).length<=90000) (hr:st.length<900) (hn:3<=n):
 ∃au H',aj ak lf n 272 [.ptr p 0] H=some (.aJ [],H')/\PS au H' p (jo st)/\bM own H au H':=by
 obtain⟨n,rfl⟩:=aN (n:=n)
 match st,aD with
 |e::r,aD=>
 have eO:=h;obtain⟨h1,h2,h3,sv,ps,h4,h5,h6⟩:=h
 match ps,h6 with
 |pb::ps,h6=>
 obtain⟨he,jL⟩:=h6;have fG:=jL.len;simp only[List.length_cons]at hr;have iV:=vX (lf:=lf) (n:=n) h4 h5 om om;obtain⟨c5,H2,aH,fj,bK⟩:=oG (lf:=lf) (n:=n) (s:=[61]) eO aD (by simp only[List.length_cons,List.length_nil];omega) (by simp only[List.length_cons];omega) om;have key:∃w H',aj ak lf (n+1) 272 [.ptr p 0] H=some (w,H')/\w=.aJ []/\∃au,PS au H' p (jo (e::r))/\bM own H au H':=by
  obtain⟨g1,g2,g3,lv,av,g4,g5⟩:=he;have r0:aq (H.get pb) 0 1=some [iN e.kind]:=by rw[g4];rfl
  have r4:aq (H.get pb) 4 1=some [av]:=by rw[g4];rfl
  rcases g5 with⟨a1,rfl,a3⟩|⟨D,A,a,nv,vv,a1,a2,a3,a4,a5,a6,a7⟩
  ·have b8:jo (e::r)=bI [61] (e::r):=Ra a1;have d0:decide (((0:Nat):Int)>((0:Nat):Int))=false:=by decide
   have Ss:decide ((0:Int)>((0:Nat):Int))=false:=by decide
   by_cases hk:e.kind=3
   ·have d1:decide (((e.kind:Nat):Int)=((3:Nat):Int))=true:=by rw[hk];decide
    refine cx AR.1 ?_;refine af ae ?_;refine ai ae iV ?_;refine af (An @r0 (An @r4 (An @d1 (An @d0 @Ss)))) ?_;refine ah ae ?_;refine af ae ?_;refine ai ae aH ?_;refine af ae ?_;refine cF bQ ?_;exact(⟨rfl,c5,by rw[b8];exact fj,bK⟩)
   ·have d1:decide (((e.kind:Nat):Int)=((3:Nat):Int))=false:=df;refine cx AR.1 ?_;refine af ae ?_;refine ai ae iV ?_;refine af (An @r0 (An @r4 (An @d1 (An @d0 @Ss)))) ?_;refine ah ae ?_;refine af ae ?_;refine ai ae aH ?_;refine af ae ?_;refine cF bQ ?_;exact(⟨rfl,c5,by rw[b8];exact fj,bK⟩)
  ·obtain⟨ab,c,ex,rfl,k1,k2,k3,k4,k5,k6,_⟩:=a4.last;have wT:=a5.len;have d1:decide (((e.kind:Nat):Int)=((3:Nat):Int))=true:=by rw[a1];decide
   have d0:decide (((D.length+1:Nat):Int)>((0:Nat):Int))=true:=dt;have hw:((D.length+1:Nat):Int)-((1:Nat):Int)=(D.length:Int):=om;have aW:kn (.slice ab 0 (D.length+1) c 3)=some (.int .i64 ((D.length+1:Nat):Int)):=rfl;have wU:D.length<=90000:=by
    have:=qz e.args;simp only[aU,List.length_append]at hb;rw[a2]at this hb;simp only[List.length_append]at this;omega
   have hi:kN 3 (.slice ab 0 (D.length+1) c 3) (.int .i64 (D.length:Int))=some (.ptr ab (D.length*3)):=by
    rw[qh om om,Nat.zero_add];rfl
   have od:aq (H.get ab) (D.length*3) 3=some [.bool a.1,nv,vv]:=by
    rw[k3,jl (by rw[List.length_append,k6];simp),List.drop_append,List.drop_of_length_le om,k6,Nat.sub_self];rfl
   have q0:aq (H.get ab) (D.length*3) 1=some [.bool a.1]:=by
    have:=lx (i:=0) (m:=1) od (by decide);rw[Nat.add_zero]at this;exact this
   have q2:aq (H.get ab) (D.length*3+2) 1=some [vv]:=lx (i:=2) (m:=1) od (by decide);have CG:vv.cells=[vv]/\SV.one vv=true/\bD vv vv=true:=by
    obtain⟨C,hC,_⟩:=a7;exact⟨hC.rg.cells,hC.rg.one,hC.rg.bq⟩
   obtain⟨CG,Gg,hvb⟩:=CG;have o5:bD (.slice ab 0 (D.length+1) c 3) (.slice ab 0 (D.length+1) c 3)=true:=uT _ _ _ _ _;cases zD:a.1 with
   |true=>
    have b8:jo (e::r)=bI [61] (e::r):=by rw[Jo a2,if_neg (fun hh=>by rw[zD]at hh;cases hh.2)]
    rw[zD]at q0;generalize SV.slice ab 0 (D.length+1) c 3=av at r4 aW hi;refine cx AR.1 ?_;refine af ae ?_;refine ai ae iV ?_;refine af (An @r0 (An @r4 (An @d1 (An @aW (An @d0 (An @hw (An @hi (An @q0 @Bool.not_true)))))))) ?_;refine ah ae ?_;refine af ae ?_;refine ai ae aH ?_;refine af ae ?_;refine cF bQ ?_;exact(⟨rfl,c5,by rw[b8];exact fj,bK⟩)
   |false=>
    have b8:jo (e::r)={e with args:=A++[(true,a.2.2,[])]}::r:=by rw[Jo a2,if_pos ⟨a1,zD⟩]
    rw[zD]at q0;obtain⟨H',tK⟩:∃H',H.put ab (.row (D.flatten++[.bool true,vv,.ao]) 331 ex false 0)=H':=⟨_,rfl⟩;have ez:c7 3 (.ptr ab (D.length*3)) [.bool true,vv,.ao] H=some H':=by
     rw[iL (n:=3) (cs:=[.bool true,vv,.ao]) rfl,iq,k3,im (by rw[List.length_append,k6];simp) (Nat.zero_le _) (by simp only[List.all_cons,Gg,List.all_nil];rfl),<-tK];congr 3;rw[List.take_append_of_le_length om,List.take_of_length_le om,List.drop_of_length_le (by rw[List.length_append,k6];simp)];simp
    have hold:∀q,q≠ab->H'.get q=H.get q:=fun q hq=>by rw[<-tK];exact cI hq
    have nu:H'.next=H.next:=by rw[<-tK];rfl
    have MD:pb≠ab:=fun e1=>by rw[e1]at g4;exact absurd (sV g4 k3) (by decide)
    have hS:eR (r.length+2) own H (oq own (r.length+2) pb ab) H':=⟨by omega,fun q hq hk=>⟨zZ hk (fun e1=>hk (by rw[e1];exact k1)),hold q fun e1=>hk (by rw[e1];exact k1)⟩⟩;have hP:=hS.bY om;have hNL:NL (fz (oq own (r.length+2) pb ab)) H' vv a.2.2:=a7.GK hP fun b _ hb hn ht=>by
     obtain⟨cs,ex,ht⟩:=ht;have Fv:b≠pb:=fun e1=>by rw[e1]at ht;exact absurd (sV ht g4) (by decide)
     have mq:b≠ab:=fun e1=>by rw[e1]at ht;exact absurd (sV ht k3) (by decide)
     exact⟨Nu hb Fv mq,hold b mq⟩
    have fy:PS (oq own (r.length+2) pb ab) H' p (jo (e::r)):=by
     rw[b8];refine PS.fg h1 h2 h4 h5 jL hS ⟨Nw g1,by omega,g3,lv,_,(hold pb MD).trans g4,.inr ⟨D,A,(true,a.2.2,[]),vv,.ao,a1,rfl,a3.bY hP,MW.C3 (fun y hy=>a4.1 y (List.mem_append_left _ hy)) rfl k4 k5 (Nv ..) om (by rw[<-tK];exact bT _ _),a5.imp fun _ _ h=>h.bY hP,hNL,MN.nil⟩⟩ fun q hq=>?_
     rw[zZ (by rw[h3 q om];omega) om];exact h3 q om
    generalize SV.slice ab 0 (D.length+1) c 3=av at r4 aW hi o5;refine cx AR.1 ?_;refine af ae ?_;refine ai ae iV ?_;refine af (An @r0 (An @r4 (An @d1 (An @aW (An @d0 (An @hw (An @hi (An @q0 @Bool.not_false)))))))) ?_;refine ar ae ?_;refine af ae ?_;refine dG rfl ?_;refine af (An @r4 (An @hw (An @hi (An @q2 (An @CG @ez))))) ?_;refine dB ?_ ?_
    ·exact dh (An @r4 (An @o5 (An @q2 @hvb)))
    ·refine af ae ?_;refine gQ bQ ?_;exact(⟨rfl,_,fy,hP⟩)
 obtain⟨w,H',hc,rfl,au,k1,k2⟩:=key;exact⟨au,H',hc,k1,k2⟩
end
end
section
theorem PS.elem {own:Nat->Nat} {H:ag} {p:Nat} {st:List AE} (h:PS own H p st):∃sv,aq (H.get p) 0 1=some [sv]/\kn sv=some (.int .i64 (st.length:Int))/\bD sv sv=true/\
 ∀(i:Nat) (e:AE),st[i]? =some e->∃b o pb lv av,kN 1 sv (.int .i64 ((st.length-1-i:Nat):Int))=some (.ptr b o)/\aq (H.get b) o 1=some [.ptr pb 0]/\H.get pb=some (.row [iN e.kind,iN e.tag,iN e.count,lv,av] 289 true false 0)/\e.count<=100000:=by
 obtain⟨h1,h2,h3,sv,ps,h4,h5,h6⟩:=h;have fG:=h6.len;refine⟨sv,by rw[h4];rfl,by rw[h5.cA,fG],h5.bq,fun i e he=>?_⟩;obtain⟨pb,g1,_,_,g4,lv,av,g5,_⟩:=h6.get he;obtain⟨b,o,k1,k2⟩:=h5.at_ g1;rw[fG]at k1;exact⟨b,o,pb,lv,av,k1,k2,g5,g4⟩
theorem A7:∀(m:Nat) (st:List AE),eS (m+1) st=kz (eS m st)
 |0,st=>rfl
 |m+1,st=>by
  show eS (m+1) (kz st)=kz (eS m (kz st));exact A7 m (kz st)
def lk (st:List AE):Nat:=match gA st with
 |none=>0
 |some j=>st.length-1-j
def vz (k:Nat) (st:List AE):Nat:=match km k st with
 |none=>0
 |some j=>st.length-1-j
theorem uX {st:List AE} {i:Nat} (h:i<st.length):∃e,st[i]? =some e/\st.drop i=e::st.drop (i+1):=⟨st[i],List.getElem?_eq_getElem h,List.drop_eq_getElem_cons h⟩
theorem bC.low {st:List AE} (h:bC st) {e:AE} (he:st[st.length-1]? =some e):e.kind=0:=by
 by_cases hk:e.kind=0
 ·exact hk
 ·have:=h.last he hk;omega
@[reducible] def ZV (H0:ag) (p:Nat) (st:List AE) (m:Nat) (ts:T) (D:DS) (H':ag):Prop:=
  D=[]/\H'=H0/\∃a:Nat,m=a/\a+1<=st.length/\gA st=(gA (st.drop (st.length-1-a))).map (· +(st.length-1-a))/\∃z:Nat->SV,ts=((.ptr p 0)::z 1::z 2::(.int .i64 (a:Int))::zz z 4 35 []:T)/\(True)
theorem GD (o:Option Nat) (i:Nat):(o.map (· +1)).map (· +i)=o.map (· +(i+1)):=by cases o<;>simp;omega
section
variable {lf n:Nat} {H:ag} {own:Nat->Nat}
theorem agC {p:Nat} {st:List AE} (h:PS own H p st) (aD:bC st) (hr:st.length<900) (hn:1<=n) (aC:1000<lf):aj ak lf n 347 [.ptr p 0] H=some (iN (lk st),H):=by
 obtain⟨n,rfl⟩:=aN (n:=n);obtain⟨sv,r0,aW,_,jv⟩:=h.elem;have aP:st.length≠0:=by have:=aD.ne;simpa using this
 have key:∃w H',aj ak lf (n+1) 347 [.ptr p 0] H=some (w,H')/\w=iN (lk st)/\H'=H:=by
  have ny:((st.length:Nat):Int)-((1:Nat):Int)=((st.length-1:Nat):Int):=om;refine cx IQ.1 ?_;refine af (An @r0 (An @aW @ny)) ?_;refine bH (I:=ZV H p st) ?_ (st.length-1) ?_ om
  ·rintro m ts D H' ⟨rfl,rfl,a,rfl,ha,hB,⟨z,rfl, -⟩⟩;by_cases xk:m=0
   ·subst xk;have d0:decide (((0:Nat):Int)>((0:Nat):Int))=false:=by decide
    have pe:gA st=none:=by
     rw[hB];obtain⟨e,h1,h2⟩:=uX (st:=st) (i:=st.length-1-0) om;have hk:=aD.low (e:=e) (by simpa using h1);rw[h2];have h3:st.drop (st.length-1-0+1)=[]:=List.drop_of_length_le om;rw[h3];simp[gA,hk]
    refine af @d0 ?_;refine ah ae ?_;refine af ae ?_;refine aO ae ?_;exact(⟨by unfold lk;rw[pe],rfl⟩)
   ·obtain⟨e,h1,h2⟩:=uX (st:=st) (i:=st.length-1-m) om;obtain⟨b,o,pb,lv,av,g1,g2,g3,_⟩:=jv _ e h1;rw[show st.length-1-(st.length-1-m)=m by omega]at g1;have q0:aq (H'.get pb) 0 1=some [iN e.kind]:=by rw[g3];rfl
    have d0:decide (((m:Nat):Int)>((0:Nat):Int))=true:=dt;rw[h2]at hB;by_cases dX:e.kind=2
    ·have d2:decide (((e.kind:Nat):Int)≠((2:Nat):Int))=false:=by rw[dX];decide
     have pe:gA st=none:=by rw[hB];simp[gA,dX]
     refine af (An @d0 (An @r0 (An @g1 (An @g2 (An @q0 @d2))))) ?_;refine ah ae ?_;refine af ae ?_;refine aO ae ?_;exact(⟨by unfold lk;rw[pe],rfl⟩)
    ·have d2:decide (((e.kind:Nat):Int)≠((2:Nat):Int))=true:=dt;by_cases gg:e.kind=3
     ·have d3:decide (((e.kind:Nat):Int)=((3:Nat):Int))=true:=by rw[gg];decide
      have vr:gA st=some (st.length-1-m):=by rw[hB];simp[gA,gg]
      refine af (An @d0 (An @r0 (An @g1 (An @g2 (An @q0 @d2))))) ?_;refine ar ae ?_;refine af (An @r0 (An @g1 (An @g2 (An @q0 @d3)))) ?_;refine ar ae ?_;refine af ae ?_;refine aO ae ?_;exact(⟨by unfold lk;rw[vr];dsimp only;rw[show st.length-1-(st.length-1-m)=m by omega],rfl⟩)
     ·have d3:decide (((e.kind:Nat):Int)=((3:Nat):Int))=false:=df;have hw:((m:Nat):Int)-((1:Nat):Int)=((m-1:Nat):Int):=om;refine af (An @d0 (An @r0 (An @g1 (An @g2 (An @q0 @d2))))) ?_;refine ar ae ?_;refine af (An @r0 (An @g1 (An @g2 (An @q0 @d3)))) ?_;refine ah ae ?_;refine af @hw ?_;refine aT (m-1) om ⟨rfl,rfl,m-1,rfl,by omega,?_,aw⟩;rw[hB,show st.length-1-(m-1)=st.length-1-m+1 by omega];rw[show gA (e::st.drop (st.length-1-m+1))=(gA (st.drop (st.length-1-m+1))).map (· +1)by simp[gA,dX,gg]];exact GD _ _
  ·exact⟨rfl,rfl,st.length-1,rfl,by omega,by simp,aw⟩
 obtain⟨w,H',h,rfl,rfl⟩:=key;exact h
theorem abH {p:Nat} {st:List AE} (h:PS own H p st) (aD:bC st) (hb:(aU st).length<=80000) (hr:st.length<900) (hn:4<=n) (aC:200000<lf):
 ∃au H',aj ak lf n 273 [.ptr p 0] H=some (.aJ [],H')/\PS au H' p (td st)/\bM own H au H':=by
 obtain⟨n,rfl⟩:=aN (n:=n)
 match st,aD with
 |e::r,aD=>
 have eO:=h;obtain⟨h1,h2,h3,sv,ps,h4,h5,h6⟩:=h
 match ps,h6 with
 |pb::ps,h6=>
 obtain⟨he,jL⟩:=h6;have fG:=jL.len;simp only[List.length_cons]at hr;have iV:=vX (lf:=lf) (n:=n) h4 h5 om om;obtain⟨_,_,_,lv,av,g4,_⟩:=he;have r0:aq (H.get pb) 0 1=some [iN e.kind]:=by rw[g4];rfl
 have key:∃w H',aj ak lf (n+1) 273 [.ptr p 0] H=some (w,H')/\w=.aJ []/\∃au,PS au H' p (td (e::r))/\bM own H au H':=by
  by_cases hk:e.kind=1
  ·have d1:decide (((e.kind:Nat):Int)≠((1:Nat):Int))=false:=by rw[hk];decide
   have b8:td (e::r)=bI [93,93] (dj e.list (bI [91,91] r)):=if_pos hk;have aP:r≠[]:=fun e1=>by
    subst e1;have:e.kind=0:=aD.1;omega
   have ey:=aD.tail aP;obtain⟨WW,C6,H1,aV,Li,⟨k1,k2,_,lv2,av2,k4,k5,_⟩,ga,ca,_⟩:=GW (lf:=lf) (n:=n) eO aP om om;have dn:(aU r).length+(aL e.list).length+2<=80000:=by
    simp only[aU,List.length_append]at hb;have hm:(mark e).length=2:=by simp only[mark,hk];rfl
    omega
   obtain⟨c5,H2,aH,fj,bK⟩:=oG (lf:=lf) (n:=n) (s:=[91,91]) Li ey (by simp only[List.length_cons,List.length_nil];omega) om om;obtain⟨m1,m2,m3⟩:=gO [91,91] ey;have nU:(aU (bI [91,91] r)).length=(aU r).length+2:=by rw[m3,List.length_append];rfl
   obtain⟨eC,H3,bf,fE,ct⟩:=GV (lf:=lf) (n:=n) fj (k5.bY bK) m1 om om om aC;obtain⟨j1,j2,j3⟩:=mP (l:=e.list) m1;have Ux:(aU (dj e.list (bI [91,91] r))).length=(aU r).length+2+(aL e.list).length:=by rw[j3,List.length_append,nU]
   obtain⟨ux,H4,fx,mj,fb⟩:=oG (lf:=lf) (n:=n) (s:=[93,93]) fE j1 (by simp only[List.length_cons,List.length_nil];omega) om om;have Ct:=(bK.2 WW k1 k2).2.trans k4;have r3:aq (H2.get WW) 3 1=some [lv2]:=by rw[Ct];rfl
   refine cx IH.1 ?_;refine af ae ?_;refine ai ae iV ?_;refine af (An @r0 @d1) ?_;refine ah ae ?_;refine af ae ?_;refine ai ae aV ?_;refine af ae ?_;refine ai ae aH ?_;refine af @r3 ?_;refine ai ae bf ?_;refine af ae ?_;refine ai ae fx ?_;refine af ae ?_;refine cF bQ ?_;exact(⟨rfl,ux,by rw[b8];exact mj,ga.trans (bK.trans (ct.trans fb))⟩)
  ·have d1:decide (((e.kind:Nat):Int)≠((1:Nat):Int))=true:=dt;have b8:td (e::r)=bI [93,93] (e::r):=if_neg hk;obtain⟨c5,H2,aH,fj,bK⟩:=oG (lf:=lf) (n:=n) (s:=[93,93]) eO aD (by simp only[List.length_cons,List.length_nil];omega) (by simp only[List.length_cons];omega) om;refine cx IH.1 ?_;refine af ae ?_;refine ai ae iV ?_;refine af (An @r0 @d1) ?_;refine ar ae ?_;refine af ae ?_;refine ai ae aH ?_;refine af ae ?_;refine gQ bQ ?_;exact(⟨rfl,c5,by rw[b8];exact fj,bK⟩)
 obtain⟨w,H',hc,rfl,au,k1,k2⟩:=key;exact⟨au,H',hc,k1,k2⟩
end
end
section
theorem Gu {k:Nat} {e:AE} {r:List AE}:km k (e::r)=if e.kind=2/\e.tag=k then some 0 else(km k r).map (· +1):=rfl
@[reducible] def ZK (H0:ag) (p k:Nat) (x:List Nat) (st:List AE) (m:Nat) (ts:T) (D:DS) (H':ag):Prop:=
  D=[]/\H'=H0/\∃a:Nat,m=a/\a+1<=st.length/\km k st=(km k (st.drop (st.length-1-a))).map (· +(st.length-1-a))/\∃z:Nat->SV,ts=((.ptr p 0)::(.int .i64 (k:Int))::(.str x)::zz z 3 3 ((.int .i64 (a:Int))::zz z 7 63 []):T)/\(True)
@[reducible] def Z' (de:Nat->Nat) (H0:ag) (p k j a:Nat) (x:List Nat) (st:List AE) (m:Nat) (ts:T) (D:DS) (H':ag):Prop:=
  D=[]/\∃(q:Nat) (au:Nat->Nat),m=j-q/\q<=j/\PS au H' p (eS q st)/\bM de H0 au H'/\∃z:Nat->SV,ts=((.ptr p 0)::(.int .i64 (k:Int))::(.str x)::zz z 3 3 ((.int .i64 (a:Int))::zz z 7 63 []):T)/\(True)
section
variable {lf n:Nat} {H:ag} {own:Nat->Nat}
theorem abI {p k:Nat} {st:List AE} {x:List Nat} (h:PS own H p st) (aD:bC st) (hk:k=1\/k=2\/k=3) (hb:(aU st).length+x.length<=80000) (hr:st.length<900) (hn:6<=n) (aC:200000<lf):
 ∃au H',aj ak lf n 274 [.ptr p 0,iN k,.str x] H=some (.aJ [],H')/\PS au H' p (kT k x st)/\bM own H au H':=by
 obtain⟨n,rfl⟩:=aN (n:=n);obtain⟨sv,r0,aW,_,jv⟩:=h.elem;have aP:st.length≠0:=by have:=aD.ne;simpa using this
 have key:∃w H',aj ak lf (n+1) 274 [.ptr p 0,iN k,.str x] H=some (w,H')/\w=.aJ []/\∃au,PS au H' p (kT k x st)/\bM own H au H':=by
  have ny:((st.length:Nat):Int)-((1:Nat):Int)=((st.length-1:Nat):Int):=om;refine cx PY.1 ?_;refine af (An @r0 (An @aW @ny)) ?_;refine bH (I:=ZK H p k x st) ?_ (st.length-1) ?_ om
  ·rintro m ts D H' ⟨rfl,rfl,a,rfl,ha,hB,⟨z,rfl, -⟩⟩;by_cases xk:m=0
   ·subst xk;have d0:decide (((0:Nat):Int)>((0:Nat):Int))=false:=by decide
    have kX:decide (((0:Nat):Int)=((0:Nat):Int))=true:=by decide
    have pe:km k st=none:=by
     rw[hB];obtain⟨e,h1,h2⟩:=uX (st:=st) (i:=st.length-1-0) om;have hk:=aD.low (e:=e) (by simpa using h1);rw[h2];have h3:st.drop (st.length-1-0+1)=[]:=List.drop_of_length_le om;rw[h3,Gu,if_neg om];rfl
    have b8:kT k x st=bI x st:=by unfold kT;rw[pe]
    obtain⟨c5,H2,aH,fj,bK⟩:=oG (lf:=lf) (n:=n) (s:=x) h aD om om om;refine af @d0 ?_;refine ah ae ?_;refine af @kX ?_;refine ar ae ?_;refine af ae ?_;refine ai ae aH ?_;refine af ae ?_;refine gQ bQ ?_;exact(⟨rfl,c5,by rw[b8];exact fj,bK⟩)
   ·obtain⟨e,h1,h2⟩:=uX (st:=st) (i:=st.length-1-m) om;obtain⟨b,o,pb,lv,av,g1,g2,g3,_⟩:=jv _ e h1;rw[show st.length-1-(st.length-1-m)=m by omega]at g1;have q0:aq (H'.get pb) 0 1=some [iN e.kind]:=by rw[g3];rfl
    have q1:aq (H'.get pb) 1 1=some [iN e.tag]:=by rw[g3];rfl
    have d0:decide (((m:Nat):Int)>((0:Nat):Int))=true:=dt;have hw:((m:Nat):Int)-((1:Nat):Int)=((m-1:Nat):Int):=om;rw[h2,Gu]at hB;have next:¬(e.kind=2/\e.tag=k)->km k st=(km k (st.drop (st.length-1-(m-1)))).map (· +(st.length-1-(m-1))):=fun hh=>by
     rw[hB,if_neg hh,show st.length-1-(m-1)=st.length-1-m+1 by omega];exact GD _ _
    by_cases dX:e.kind=2
    ·have d2:decide (((e.kind:Nat):Int)≠((2:Nat):Int))=false:=by rw[dX];decide
     by_cases eJ:e.tag=k
     ·have d3:decide (((e.tag:Nat):Int)≠((k:Nat):Int))=false:=by rw[eJ];simp
      rw[if_pos ⟨dX,eJ⟩]at hB;have vr:km k st=some (st.length-1-m):=by rw[hB];simp
      obtain⟨j,hj⟩:∃j,j=st.length-1-m:=⟨_,rfl⟩;rw[<-hj]at h1 vr;have Cd:st.length=j+1+m:=om;have b8:kT k x st=Rh k (eS j st):=by unfold kT;rw[vr]
      obtain⟨e',r',f1,f2,f3,f4,f5,f6,f7,f8⟩:=tz aD h1 om;have kX:decide (((m:Nat):Int)=((0:Nat):Int))=false:=df;refine af (An @d0 (An @r0 (An @g1 (An @g2 (An @q0 (An @q1 (An @d2 @d3))))))) ?_;refine ah ae ?_;refine af @kX ?_;refine ah ae ?_;refine af ae ?_;refine bH (I:=Z' own H' p k j m x st) ?_ j ?_ om
      ·rintro m2 ts D H2 ⟨rfl,q,au,rfl,hq,eO,hP,⟨z,rfl, -⟩⟩;obtain⟨z1,z2,z3⟩:=uQ (j:=q) aD om;obtain⟨YA,y0,y1,_,_⟩:=eO.elem;rw[z2]at y1;have gb:((m:Nat):Int)+((1:Nat):Int)=((m+1:Nat):Int):=om;by_cases zK:q<j
       ·have d4:decide (((st.length-q:Nat):Int)>((m+1:Nat):Int))=true:=dt;obtain⟨eC,H3,bf,fE,ct⟩:∃eC H3,aj ak lf n 201 [.ptr p 0] H2=some (.aJ [],H3)/\PS eC H3 p (eS (q+1) st)/\bM au H2 eC H3:=by
         rw[A7];cases hh:eS q st with
         |nil=>rw[hh]at z1;exact z1.elim
         |cons e1 r1=>
          rw[hh]at z1 z2 z3 eO;simp only[List.length_cons]at z2;exact KH (lf:=lf) (n:=n) eO (by intro e2;subst e2;simp at z2;omega) z1 (by rw[z3];omega) om om aC
        refine af (An @y0 (An @y1 (An @gb @d4))) ?_;refine ar ae ?_;refine af ae ?_;refine ai ae bf ?_;refine af ae ?_;refine aT (j-(q+1)) om ⟨rfl,q+1,eC,rfl,by omega,fE,hP.trans ct,aw⟩
       ·have zK:q=j:=om;subst zK;have d4:decide (((st.length-q:Nat):Int)>((m+1:Nat):Int))=false:=df;rw[f1]at eO;obtain⟨pb3,eC,H3,bf,fE,⟨k1,k2,_,lv3,av3,k4,k5,_⟩,ct,_,_⟩:=GW (lf:=lf) (n:=n) eO f2 om om;have r3:aq (H3.get pb3) 3 1=some [lv3]:=by rw[k4];rfl
        have ez:=f6.tail f2;have iS:(aU r').length<=80000:=by
         have:=congrArg List.length f8;simp only[aU,List.length_append]at this;omega
        obtain⟨ux,H4,fx,mj,fb⟩:=C7 (lf:=lf) (n:=n) fE (NL.Wl hk k5) rfl ez om om om;refine af (An @y0 (An @y1 (An @gb @d4))) ?_;refine ah ae ?_;refine af ae ?_;refine ai ae bf ?_;refine af (An @r3 @k5.cells) ?_;refine ai ae fx ?_;refine af ae ?_;refine cF bQ ?_;exact(⟨rfl,ux,by rw[b8,f1];exact mj,hP.trans (ct.trans fb)⟩)
      ·exact⟨rfl,0,own,rfl,Nat.zero_le _,h,bM.refl _ _,aw⟩
     ·have d3:decide (((e.tag:Nat):Int)≠((k:Nat):Int))=true:=dt;have hN:=next (fun hh=>eJ hh.2)
      refine af (An @d0 (An @r0 (An @g1 (An @g2 (An @q0 (An @q1 (An @d2 @d3))))))) ?_;refine ar ae ?_;refine af @hw ?_;refine aT (m-1) om ⟨rfl,rfl,m-1,rfl,by omega,hN,aw⟩
    ·have d2:decide (((e.kind:Nat):Int)≠((2:Nat):Int))=true:=dt;have hN:=next (fun hh=>dX hh.1)
     refine af (An @d0 (An @r0 (An @g1 (An @g2 (An @q0 (An @q1 @d2)))))) ?_;refine ar ae ?_;refine af @hw ?_;refine aT (m-1) om ⟨rfl,rfl,m-1,rfl,by omega,hN,aw⟩
  ·exact⟨rfl,rfl,st.length-1,rfl,by omega,by simp,aw⟩
 obtain⟨w,H',hc,rfl,au,k1,k2⟩:=key;exact⟨au,H',hc,k1,k2⟩
end
end
section
theorem iM.inj {own:Nat->Nat} {H:ag} {sv:SV} {ps qs:List Nat} (h:iM own H sv ps) (g:iM own H sv qs):ps=qs:=by
 obtain⟨b,c,cs,ex,rfl,_,_,_,_,h6,h7⟩:=h;obtain⟨b',c',iO,l8,e1,_,_,_,_,g6,g7⟩:=g;have hl:ps.length=qs.length:=by injection e1
 have hb:b=b':=by injection e1
 subst hb;rw[h6]at g6;have hcs:cs=iO:=by cases g6;rfl
 subst hcs;rw[<-hl,h7]at g7;have h8:=List.reverse_inj.1 g7;have key:∀{l m:List Nat},(l.map fun p=>SV.ptr p 0)=(m.map fun p=>SV.ptr p 0)->l=m:=by
  intro l
  induction l with
  |nil=>intro m h;cases m with|nil=>rfl|cons a m=>cases h
  |cons a l ih=>
   intro m h;cases m with
   |nil=>cases h
   |cons b m=>
    rw[List.map_cons,List.map_cons,List.cons.injEq]at h;have:a=b:=by have:=h.1;injection this
    rw[this,ih h.2]
 exact key h8
theorem Jn:∀(f f' c:Nat) (st:List AE),c<f->c<f'->bC st->eL f c st=eL f' c st
 |0,_,c,st,h,_,_=>by omega
 |_,0,c,st,_,h,_=>by omega
 |f+1,f'+1,c,st,h,h',aD=>by
  unfold eL;split
  ·rename_i hc;split
   ·rfl
   ·rename_i j hj;obtain⟨e,he,hk⟩:=z6 hj;obtain⟨e',r,h1,h2,h3,_,_,h6,_,h7⟩:=tz aD he om;rw[h1];have hm:2<=e'.count:=by rcases(h6.head h2).2 with h|h|h<;>omega
    obtain⟨k1,k2,_⟩:=zX c e'.count hc hm;exact Jn f f' _ _ (by show c-cQ c e'.count<f;omega) (by show c-cQ c e'.count<f';omega) (A6 h6 h2 (h3.trans hk) hc).1
  ·rfl
theorem fL.ones {own:Nat->Nat} {k:Nat} {H:ag} {pb:Nat} {e:AE} (h:fL own k H pb e):∃lv av,H.get pb=some (.row [iN e.kind,iN e.tag,iN e.count,lv,av] 289 true false 0)/\SV.one lv=true/\SV.one av=true/\lv.cells=[lv]/\av.cells=[av]/\bD lv lv=true/\bD av av=true:=by
 obtain⟨_,_,_,lv,av,h4,h5⟩:=h;refine⟨lv,av,h4,?_⟩;rcases h5 with⟨_,rfl,C,hC,_⟩|⟨D,A,a,nv,vv,_,_,⟨C,hC,_⟩,hD,_⟩
 ·exact⟨hC.rg.one,rfl,hC.rg.cells,rfl,hC.rg.bq,rfl⟩
 ·exact⟨hC.one,hD.rg.one,hC.cells,hD.rg.cells,hC.bq,hD.rg.bq⟩
theorem fL.lists {own au:Nat->Nat} {k:Nat} {H H':ag} {pb:Nat} {e:AE} {lv av:SV} (h:fL own k H pb e) (bj:H.get pb=some (.row [iN e.kind,iN e.tag,iN e.count,lv,av] 289 true false 0)) (g:bM own H au H') (hk:∀b,own b=k->b<H.next->b≠pb->au b=0/\H'.get b=H.get b):NL (fz au) H' lv e.list/\AL (fz au) H' av e.args:=by
 obtain⟨h1,h2,h3,pn,jr,h4,h5⟩:=h;rw[bj]at h4;obtain⟨rfl,rfl⟩:lv=pn/\av=jr:=by cases h4;exact⟨rfl,rfl⟩
 have ne:∀{b cs ty ex},H.get b=some (.row cs ty ex false 0)->ty≠289->b≠pb:=fun hb ht e1=>by
  rw[e1]at hb;exact ht (sV hb bj)
 have mn:∀{v K},MN own k H v K->NL (fz au) H' v K:=fun{v K} hm=>hm.GK g fun b _ hb hn ht=>by
  obtain⟨cs,ex,ht⟩:=ht;exact hk b hb hn (ne ht (by decide))
 rcases h5 with⟨a1,rfl,a3⟩|⟨D,A,a,nv,vv,a1,a2,a3,a4,a5,a6,a7⟩
 ·exact⟨mn a3,by rw[a1];exact AL.nil⟩
 ·refine⟨a3.bY g,?_⟩;rw[a2];refine⟨_,a4.Xp g.1 fun b hb=>?_,(a5.imp fun _ _ h=>h.bY g).snoc ⟨nv,vv,rfl,a6.bY g,mn a7⟩⟩;obtain⟨j1,j2,cs,ex,j3⟩:=a4.iW hb;exact hk b j1 j2 (ne j3 (by decide))
theorem fL.akk {own:Nat->Nat} {k:Nat} {H H':ag} {pb m:Nat} {e:AE} {lv av:SV} (h:fL own k H pb e) (bj:H.get pb=some (.row [iN e.kind,iN e.tag,iN e.count,lv,av] 289 true false 0)) (Cs:H'.get pb=some (.row [iN e.kind,iN e.tag,iN m,lv,av] 289 true false 0)) (hn:H.next<=H'.next) (hold:∀b,b<H.next->b≠pb->H'.get b=H.get b) (hm:m<=100000) (h0:k≠0):fL own k H' pb {e with count:=m}:=by
 obtain⟨h1,h2,h3,pn,jr,h4,h5⟩:=h;rw[bj]at h4;obtain⟨rfl,rfl⟩:lv=pn/\av=jr:=by cases h4;exact⟨rfl,rfl⟩
 have hP:bM own H own H':=⟨hn,fun b hb bU=>⟨hb,hold b bU fun e1=>h0 (by rw[<-h1,<-e1];exact hb)⟩⟩;have ne:∀{b cs ty ex},H.get b=some (.row cs ty ex false 0)->ty≠289->b≠pb:=fun hb ht e1=>by
  rw[e1]at hb;exact ht (sV hb bj)
 have mw:∀{ty v z L},ty≠289->MW own k ty H v z L->MW own k ty H' v z L:=fun{ty v z L} ht hm=>by
  refine⟨hm.1,?_⟩;rcases hm.2 with h|⟨b,c,ex,g1,g2,g3,g4,g5,g6⟩
  ·exact .inl h
  ·exact .inr ⟨b,c,ex,g1,g2,g3,g4,by omega,(hold b g5 (ne g6 ht)).trans g6⟩
 have mn:∀{v K},MN own k H v K->MN own k H' v K:=fun{v K} hm=>by
  obtain⟨C,g1,g2⟩:=hm;exact⟨C,mw (by decide) g1,g2.imp fun _ _ h=>h.bY hP⟩
 refine⟨h1,by omega,hm,lv,av,Cs,?_⟩;rcases h5 with⟨a1,rfl,a3⟩|⟨D,A,a,nv,vv,a1,a2,a3,a4,a5,a6,a7⟩
 ·exact .inl ⟨a1,rfl,mn a3⟩
 ·exact .inr ⟨D,A,a,nv,vv,a1,a2,a3.bY hP,mw (by decide) a4,a5.imp fun _ _ h=>h.bY hP,a6.bY hP,mn a7⟩
theorem wg {call:cb} {lf:Nat} {a b c:er} {ts:T} {D:DS} {H:ag} {R:fa->T->DS->ag->Prop} (h:EC call lf (.seq (.seq a b) c) ts D H R):EC call lf (.seq a (.seq b c)) ts D H R:=by
 unfold EC at h ⊢;obtain⟨x,t,d,h1,h2,h3⟩:=h;refine⟨x,t,d,h1,?_,h3⟩;rw[<-h2];simp only[cO];cases cO call lf a ts D H with
 |none=>rfl
 |some r=>
  obtain⟨x,t,d,h⟩:=r;cases x<;>rfl
@[reducible] def ZL (de:Nat->Nat) (H0:ag) (p c0:Nat) (st:List AE) (m:Nat) (ts:T) (D:DS) (H':ag):Prop:=
  D=[]/\∃(c:Nat) (eQ:List AE) (au:Nat->Nat),m=c/\c<=c0/\PS au H' p eQ/\bM de H0 au H'/\bC eQ/\(aU eQ).length+c<=80000/\eQ.length<=st.length/\eL (c+1) c eQ=eL (c0+1) c0 st/\∃z:Nat->SV,ts=((.ptr p 0)::(.int .i64 (c:Int))::zz z 2 84 []:T)/\(True)
@[reducible] def aac (de:Nat->Nat) (H0:ag) (p j a c:Nat) (st:List AE) (m:Nat) (ts:T) (D:DS) (H':ag):Prop:=
  D=[]/\∃(q:Nat) (au:Nat->Nat),m=j-q/\q<=j/\PS au H' p (eS q st)/\bM de H0 au H'/\∃z:Nat->SV,ts=((.ptr p 0)::(.int .i64 (c:Int))::z 2::z 3::(.int .i64 (a:Int))::zz z 5 81 []:T)/\(True)
section
variable {lf n:Nat} {H:ag} {own:Nat->Nat}
theorem abG {p c0:Nat} {st:List AE} (h:PS own H p st) (aD:bC st) (hb:(aU st).length+c0<=80000) (hr:st.length<900) (hn:7<=n) (aC:200000<lf):
 ∃au H',aj ak lf n 275 [.ptr p 0,iN c0] H=some (.aJ [],H')/\PS au H' p (eL (c0+1) c0 st)/\bM own H au H':=by
 obtain⟨n,rfl⟩:=aN (n:=n);have key:∃w H',aj ak lf (n+1) 275 [.ptr p 0,iN c0] H=some (w,H')/\w=.aJ []/\∃au,PS au H' p (eL (c0+1) c0 st)/\bM own H au H':=by
  refine cx II.1 ?_;refine af ae ?_;refine bH (I:=ZL own H p c0 st) ?_ c0 ?_ om
  ·rintro m ts D H' ⟨rfl,c,eQ,au,rfl,lE,eO,hP,lI,dP,lg,heq,⟨z,rfl, -⟩⟩;obtain⟨WU,H9,sA,TG,Fk⟩:=oG (lf:=lf) (n:=n) (s:=List.replicate m 125) eO lI (by rw[List.length_replicate];omega) om om;have F7:=Xk (lf:=lf) (n:=n) (H:=H') (b:=125) (k:=m) om om;by_cases aH:2<=m
   ·have d0:decide (((m:Nat):Int)>=((2:Nat):Int))=true:=dt;have jO:=agC (lf:=lf) (n:=n) eO lI om om om;cases hB:gA eQ with
    |none=>
     have dp:lk eQ=0:=by unfold lk;rw[hB]
     have kX:decide (((0:Nat):Int)=((0:Nat):Int))=true:=by decide
     have fy:eL (c0+1) c0 st=bI (List.replicate m 125) eQ:=by
      rw[<-heq];unfold eL;rw[if_pos aH,hB]
     rw[dp]at jO;refine af @d0 ?_;refine ar ae ?_;refine af ae ?_;refine ai ae jO ?_;refine af @kX ?_;refine ar ae ?_;refine af ae ?_;refine ai ae F7 ?_;refine af ae ?_;refine ai ae sA ?_;refine af ae ?_;refine cF bQ ?_;exact(⟨rfl,WU,by rw[fy];exact TG,hP.trans Fk⟩)
    |some j=>
     obtain⟨e0,nh,re⟩:=z6 hB;obtain⟨e',r',f1,f2,f3,f4,f5,f6,f7,f8⟩:=tz lI nh om;obtain⟨a,ha⟩:∃a,a=eQ.length-1-j:=⟨_,rfl⟩;have dp:lk eQ=a:=by unfold lk;rw[hB,ha]
     have kI:=lI.last nh om;have FI:eQ.length=j+1+a:=om;have kX:decide (((a:Nat):Int)=((0:Nat):Int))=false:=df;have gg:e'.kind=3:=f3.trans re;have nX:2<=e'.count:=by rcases(f6.head f2).2 with h|h|h<;>omega
     rw[dp]at jO;refine af @d0 ?_;refine ar ae ?_;refine af ae ?_;refine ai ae jO ?_;refine af @kX ?_;refine ah ae ?_;refine af ae ?_;refine bH (I:=aac au H' p j a m eQ) ?_ j ?_ om
     ·rintro m2 ts D H2 ⟨rfl,q,c5,rfl,hq,fj,bK,⟨z,rfl, -⟩⟩;obtain⟨z1,z2,z3⟩:=uQ (j:=q) lI om;obtain⟨YA,y0,y1,_,_⟩:=fj.elem;rw[z2]at y1;have gb:((a:Nat):Int)+((1:Nat):Int)=((a+1:Nat):Int):=om;by_cases zK:q<j
      ·have d4:decide (((eQ.length-q:Nat):Int)>((a+1:Nat):Int))=true:=dt;obtain⟨eC,H3,bf,fE,ct⟩:∃eC H3,aj ak lf n 201 [.ptr p 0] H2=some (.aJ [],H3)/\PS eC H3 p (eS (q+1) eQ)/\bM c5 H2 eC H3:=by
        rw[A7];cases hh:eS q eQ with
        |nil=>rw[hh]at z1;exact z1.elim
        |cons e1 r1=>
         rw[hh]at z1 z2 z3 fj;simp only[List.length_cons]at z2;exact KH (lf:=lf) (n:=n) fj (by intro e2;subst e2;simp at z2;omega) z1 (by rw[z3];omega) om om aC
       refine af (An @y0 (An @y1 (An @gb @d4))) ?_;refine ar ae ?_;refine af ae ?_;refine ai ae bf ?_;refine af ae ?_;refine aT (j-(q+1)) om ⟨rfl,q+1,eC,rfl,by omega,fE,bK.trans ct,aw⟩
      ·have zK:q=j:=om;subst zK;have d4:decide (((eQ.length-q:Nat):Int)>((a+1:Nat):Int))=false:=df;rw[f1]at fj;have anU:=fj;obtain⟨h1,h2,h3,sv,ps,h4,h5,h6⟩:=fj
       match ps,h6 with
       |pb::ps,h6=>
       obtain⟨he,jL⟩:=h6;have fG:=jL.len;have iV:=vX (lf:=lf) (n:=n) h4 h5 om om;obtain⟨lv,av,g4,o1,o2,c1,c2,b1,b2⟩:=he.ones;have anZ:e'.count<=100000:=he.2.2.1;have Cp:c5 pb=r'.length+2:=he.1;have U0:pb<H2.next:=he.2.1;obtain⟨Nr,Ns,Nt⟩:=zX m e'.count aH nX;have eJ:cQ m e'.count=2\/cQ m e'.count=3:=by unfold cQ;split<;>simp
       have ud:cQ m e'.count=3↔3<=m/\3<=e'.count:=by
        unfold cQ;split
        ·rename_i hh;exact⟨fun _=>hh,fun _=>rfl⟩
        ·rename_i hh;exact⟨fun e=>absurd e (by decide),fun e=>absurd e hh⟩
       have ic:jC m (e'::r')=(if 2<=e'.count-cQ m e'.count then{e' with count:=e'.count-cQ m e'.count,list:=[⟨false,List.replicate (cQ m e'.count) 123++aL e'.list++bN e'.args++List.replicate (cQ m e'.count) 125⟩],args:=[]}::r'
        else if e'.count-cQ m e'.count=1 then fW ⟨false,List.replicate (cQ m e'.count) 123++aL e'.list++bN e'.args++List.replicate (cQ m e'.count) 125⟩ (bI [123] r')else fW ⟨false,List.replicate (cQ m e'.count) 123++aL e'.list++bN e'.args++List.replicate (cQ m e'.count) 125⟩ r'):=rfl
       obtain⟨tf,JE⟩:=A6 f6 f2 gg aH;have bO:eL (m-cQ m e'.count+1) (m-cQ m e'.count) (jC m (e'::r'))=eL (c0+1) c0 st:=by
        rw[<-heq];have:eL (m+1) m eQ=eL m (m-cQ m e'.count) (jC m (e'::r')):=by
         conv=>lhs;unfold eL
         rw[if_pos aH,hB];dsimp only;rw[f1];rfl
        rw[this];exact Jn _ _ _ _ om om tf
       have bE:(aU (jC m (e'::r'))).length+(m-cQ m e'.count)<=80000:=by
        rw[JE,List.length_append,List.length_replicate,f8];omega
       have dE:(jC m (e'::r')).length<=r'.length+1:=by
        rw[ic];split
        ·simp
        ·split
         ·rw[(rV _ (gO _ (f6.tail f2)).1).2.1,(gO _ (f6.tail f2)).2.1];omega
         ·rw[(rV _ (f6.tail f2)).2.1];omega
       obtain⟨k,hk⟩:∃k,cQ m e'.count=k:=⟨_,rfl⟩;rw[hk]at Nr Ns Nt eJ ud ic bO bE;have r2:aq (H2.get pb) 2 1=some [iN e'.count]:=by rw[g4];rfl
       refine af (An @y0 (An @y1 (An @gb @d4))) ?_;refine ah d4 ?_;refine D7 ?_;refine Hv ?_;refine xR ?_;refine wv ?_;refine ly ?_;refine wg ?_;refine wg ?_;refine mN ?_;refine nJ (fun ts H'=>H'=H2/\∃z:Nat->SV,ts=((.ptr p 0)::(.int .i64 (m:Int))::zz z 2 3 ((.ptr pb 0)::(.int .i64 (k:Int))::(.int .i64 ((k+2:Nat):Int))::zz z 8 78 []):T)/\(True)) ?_ (fun aA H7 gR=>?_)
       ·by_cases vm:3<=m
        ·have d5:decide (((m:Nat):Int)>=((3:Nat):Int))=true:=dt;by_cases bf:3<=e'.count
         ·have d6:decide (((e'.count:Nat):Int)>=((3:Nat):Int))=true:=dt;obtain rfl:=ud.2 ⟨vm,bf⟩;refine af ae ?_;refine ai ae iV ?_;refine af (An @d5 (An @r2 @d6)) ?_;refine ar ae ?_;refine af ae ?_;exact⟨rfl,rfl,rfl,aw⟩
         ·have d6:decide (((e'.count:Nat):Int)>=((3:Nat):Int))=false:=df;obtain rfl:k=2:=eJ.resolve_right fun e=>bf (ud.1 e).2
          refine af ae ?_;refine ai ae iV ?_;refine af (An @d5 (An @r2 @d6)) ?_;refine ah ae ?_;refine af ae ?_;exact⟨rfl,rfl,rfl,aw⟩
        ·have d5:decide (((m:Nat):Int)>=((3:Nat):Int))=false:=df;obtain rfl:k=2:=eJ.resolve_right fun e=>vm (ud.1 e).1
         refine af ae ?_;refine ai ae iV ?_;refine af @d5 ?_;refine ah ae ?_;refine af ae ?_;exact⟨rfl,rfl,rfl,aw⟩
       ·obtain⟨rfl,⟨z,rfl, -⟩⟩:=gR;obtain⟨nb,lG⟩:∃nb,H7.next=nb:=⟨_,rfl⟩;obtain⟨Ha,Fh⟩:∃Ha,H7.push (.row [iN 0,iN 0,.str [],.ao,.ao] 301 true false 0)=Ha:=⟨_,rfl⟩;have xd:Ext H7 Ha:=by rw[<-Fh];exact(Ext.refl H7).push _
        have zD:Ha.next=nb+1:=by rw[<-Fh,<-lG];rfl
        have gW:Ha.get nb=some (.row [iN 0,iN 0,.str [],.ao,.ao] 301 true false 0):=by rw[<-Fh,<-lG];exact bd _
        obtain⟨Hb,tL⟩:∃Hb,Ha.put nb (.row [iN (k+2),iN 0,.str [],lv,av] 301 true false 0)=Hb:=⟨_,rfl⟩;have afr:c7 5 (.ptr nb 0) [iN (k+2),iN 0,.str [],lv,av] Ha=some Hb:=by
         rw[iL (n:=5) (cs:=[iN (k+2),iN 0,.str [],lv,av]) rfl,iq,gW,im (Nat.le_refl _) (Nat.le_refl _) (by simp only[List.all_cons,o1,o2,List.all_nil];rfl),<-tL];rfl
        have Ml:Hb.next=nb+1:=by rw[<-tL];exact zD
        have oX:Ext H7 Hb:=by rw[<-tL];exact xd.put om _
        have tZ:Hb.get nb=some (.row [iN (k+2),iN 0,.str [],lv,av] 301 true false 0):=by rw[<-tL];exact bT _ _
        have Tb:=(xd.2 pb U0).trans g4;have Tc:=(oX.2 pb U0).trans g4;have q3:aq (H7.get pb) 3 1=some [lv]:=by rw[g4];rfl
        have q4:aq (H7.get pb) 4 1=some [av]:=by rw[g4];rfl
        have Xb:aq (Ha.get pb) 3 1=some [lv]:=by rw[Tb];rfl
        have Xc:aq (Ha.get pb) 4 1=some [av]:=by rw[Tb];rfl
        have Oa:aq (Hb.get pb) 2 1=some [iN e'.count]:=by rw[Tc];rfl
        have kK:((m:Nat):Int)-((k:Nat):Int)=((m-k:Nat):Int):=om;have eV:((e'.count:Nat):Int)-((k:Nat):Int)=((e'.count-k:Nat):Int):=om;obtain⟨Hc,sn⟩:∃Hc,Hb.put pb (.row [iN e'.kind,iN e'.tag,iN (e'.count-k),lv,av] 289 true false 0)=Hc:=⟨_,rfl⟩;have MQ:c7 1 (.ptr pb 2) [iN (e'.count-k)] Hb=some Hc:=by rw[<-sn];exact gY Tc rfl (by show 2+1<=5;decide) (Nat.zero_le _)
        have Mm:Hc.next=nb+1:=by rw[<-sn];exact Ml
        have EY:Hc.get pb=some (.row [iN e'.kind,iN e'.tag,iN (e'.count-k),lv,av] 289 true false 0):=by rw[<-sn];exact bT _ _
        have GX:aq (Hc.get pb) 2 1=some [iN (e'.count-k)]:=by rw[EY];rfl
        have LF:∀b,b<H7.next->b≠pb->Hc.get b=H7.get b:=fun b hb aP=>by rw[<-sn,cI aP,oX.2 b hb]
        have aeZ:nb≠pb:=om;have sF:Hc.get nb=some (.row [iN (k+2),iN 0,.str [],lv,av] 301 true false 0):=by rw[<-sn,cI aeZ];exact tZ
        have hoz:c5 nb=0:=h3 nb om;have hES:fL c5 (r'.length+2) Hc pb {e' with count:=e'.count-k}:=he.akk g4 EY om LF om om;have BL:eR (r'.length+2) c5 H7 c5 Hc:=⟨by omega,fun b hb aP=>⟨rfl,LF b hb fun e1=>aP (by rw[e1];exact Cp)⟩⟩;have adP:PS c5 Hc p ({e' with count:=e'.count-k}::r'):=PS.fg h1 h2 h4 h5 jL BL hES fun q hq=>h3 q om
        have zh:=BL.bY om;have T6:(SV.agg [iN (k+2),iN 0,.str [],lv,av]).cells=[iN (k+2),iN 0,.str [],lv,av]:=rfl;refine af ae ?_;refine wh ?_;refine xo (An @q3 (An @q4 (An @c1 (An @c2 (An @lG @Fh))))) ?_;simp only[oK,List.map_cons,List.map_nil];refine af (An @Xb (An @Xc (An @c1 (An @c2 (An @T6 @afr))))) ?_;refine dB ?_ ?_
        ·exact dh (An @Xb (An @Xc (An @b1 (An @b2 @gW))))
        ·by_cases o7:2<=e'.count-k
         ·have d7:decide (((e'.count-k:Nat):Int)>=((2:Nat):Int))=true:=dt;have zu:([iN (k+2),iN 0,.str [],lv,av]:List SV).length=5:=rfl;have F3:aq (Hc.get nb) 0 5=some [iN (k+2),iN 0,.str [],lv,av]:=by rw[sF];rfl
          obtain⟨Hd,BE⟩:∃Hd,Hc.push (.row [iN (k+2),iN 0,.str [],lv,av] 301 true false 0)=Hd:=⟨_,rfl⟩;have jj:Hd.next=nb+2:=by rw[<-BE,dZ,Mm]
          have mz:Hd.get (nb+1)=some (.row [iN (k+2),iN 0,.str [],lv,av] 301 true false 0):=by rw[<-BE,<-Mm];exact bd _
          have g4d:Hd.get pb=some (.row [iN e'.kind,iN e'.tag,iN (e'.count-k),lv,av] 289 true false 0):=by rw[<-BE,cU om];exact EY
          obtain⟨He,BF⟩:∃He,Hd.put pb (.row [iN e'.kind,iN e'.tag,iN (e'.count-k),.slice (nb+1) 0 1 (some 1) 5,av] 289 true false 0)=He:=⟨_,rfl⟩;have afs:c7 1 (.ptr pb 3) [.slice (nb+1) 0 1 (some 1) 5] Hd=some He:=by rw[<-BF];exact gY g4d rfl (by show 3+1<=5;decide) (Nat.zero_le _)
          have g4e:He.get pb=some (.row [iN e'.kind,iN e'.tag,iN (e'.count-k),.slice (nb+1) 0 1 (some 1) 5,av] 289 true false 0):=by rw[<-BF];exact bT _ _
          obtain⟨Hf,BG⟩:∃Hf,He.put pb (.row [iN e'.kind,iN e'.tag,iN (e'.count-k),.slice (nb+1) 0 1 (some 1) 5,.ao] 289 true false 0)=Hf:=⟨_,rfl⟩;have afu:c7 1 (.ptr pb 4) [.ao] He=some Hf:=by rw[<-BG];exact gY g4e rfl (by show 4+1<=5;decide) (Nat.zero_le _)
          have hnf:Hf.next=nb+2:=by rw[<-BG,ea,<-BF,ea,jj]
          have Uh:∀b,b<H7.next->b≠pb->Hf.get b=H7.get b:=fun b hb aP=>by rw[<-BG,cI aP,<-BF,cI aP,<-BE,cU om,LF b hb aP]
          have TN:eR (r'.length+2) c5 H7 (oq c5 (r'.length+2) pb (nb+1)) Hf:=⟨by omega,fun b hb aP=>⟨zZ aP om,Uh b hb fun e1=>aP (by rw[e1];exact Cp)⟩⟩;have TL:=TN.bY om;obtain⟨w1,w2⟩:=he.lists g4 TL fun b hb bU aP=>⟨Nu hb aP om,Uh b bU aP⟩
          have kD:=NL.NN eJ w1 w2;have hgf:Hf.get (nb+1)=some (.row [iN (k+2),iN 0,.str [],lv,av] 301 true false 0):=by rw[<-BG,cI om,<-BF,cI om];exact mz
          have qP:fL (oq c5 (r'.length+2) pb (nb+1)) (r'.length+2) Hf pb {e' with count:=e'.count-k,list:=[⟨false,List.replicate k 123++aL e'.list++bN e'.args++List.replicate k 125⟩],args:=[]}:=by
           refine⟨Nw Cp,by omega,by show e'.count-k<=_;omega,_,_,by rw[<-BG];exact bT _ _,.inl ⟨rfl,rfl,[[iN (k+2),iN 0,.str [],lv,av]],⟨fun y hy=>by rw[List.mem_singleton.1 hy];rfl,.inr ⟨nb+1,some 1,true,rfl,fun q hq=>by cases hq;rfl,fun h=>(by cases h),Nv ..,by omega,?_⟩⟩,kD,trivial⟩⟩;rw[hgf];simp
          have adQ:=PS.fg h1 h2 h4 h5 jL TN qP fun q hq=>by
           rw[zZ (by rw[h3 q om];omega) om];exact h3 q om
          rw[if_pos o7]at ic;refine af (An @kK (An @Oa (An @eV (An @MQ (An @GX @d7))))) ?_;refine ar ae ?_;refine af (An @F3 (An @T6 (An @zu (An @Mm (An @BE (An @afs @afu)))))) ?_;refine aT (m-k) om ⟨rfl,m-k,jC m (e'::r'),_,rfl,by omega,by rw[ic];exact adQ,hP.trans (bK.trans TL),tf,bE,by omega,bO,aw⟩
         ·have d7:decide (((e'.count-k:Nat):Int)>=((2:Nat):Int))=false:=df;rw[if_neg o7]at ic;have MS:=f6.tail f2;have vg:(aU r').length<=80000:=by
           have:=congrArg List.length f8;simp only[aU,List.length_append]at this;omega
          obtain⟨WX,aoo,H5,eP,TF,bm,jJ,iG,UZ,sv5,ps5,e51,e52⟩:=GW (lf:=lf) (n:=n) adP f2 om om;obtain rfl:WX=pb:=by
           have e3:=(BL.2 p h2 om).2.trans h4;rw[e51]at e3;obtain rfl:sv5=sv:=by cases e3;rfl
           have e4:=e52.inj (h5.ax (au:=c5) BL.1 fun b hb bU=>by
            obtain⟨j1,j2⟩:=BL.2 b bU om;exact⟨j1.trans hb,j2⟩)
           injection e4
          obtain⟨k1,k2,_,lv5,av5,k4,k5,k6⟩:=bm;rw[UZ,EY]at k4;obtain⟨rfl,rfl⟩:lv=lv5/\av=av5:=by cases k4;exact⟨rfl,rfl⟩
          have kD:=NL.NN eJ k5 k6;have Xa:aq (H5.get WX) 2 1=some [iN (e'.count-k)]:=by rw[UZ];exact GX
          have UK:=jJ.2 nb hoz om;have dw:=UK.2.trans sF;by_cases KR:e'.count-k=1
          ·have d8:decide (((e'.count-k:Nat):Int)=((1:Nat):Int))=true:=by rw[KR];decide
           rw[if_pos KR]at ic;obtain⟨Al,H6,cP,xg,fv⟩:=oG (lf:=lf) (n:=n) (s:=[123]) TF MS (by simp only[List.length_cons,List.length_nil];omega) om om;obtain⟨m1,m2,m3⟩:=gO [123] MS;obtain⟨vL,H8,mr,xh,nc⟩:=C7 (lf:=lf) (n:=n) xg (kD.bY fv) rfl m1 (by rw[m3,List.length_append];simp only[List.length_cons,List.length_nil];omega) om om;have U5:aq (H6.get nb) 0 5=some [iN (k+2),iN 0,.str [],lv,av]:=by rw[(fv.2 nb UK.1 om).2,dw];rfl
           refine af (An @kK (An @Oa (An @eV (An @MQ (An @GX @d7))))) ?_;refine ah ae ?_;refine af ae ?_;refine ai ae eP ?_;refine af (An @Xa @d8) ?_;refine ar ae ?_;refine af ae ?_;refine ai ae cP ?_;refine af @U5 ?_;refine ai ae mr ?_;refine af ae ?_;refine aT (m-k) om ⟨rfl,m-k,jC m (e'::r'),vL,rfl,by omega,by rw[ic];exact xh,hP.trans (bK.trans (zh.trans (jJ.trans (fv.trans nc)))),tf,bE,by omega,bO,aw⟩
          ·have d8:decide (((e'.count-k:Nat):Int)=((1:Nat):Int))=false:=df;rw[if_neg KR]at ic;obtain⟨vL,H8,mr,xh,nc⟩:=C7 (lf:=lf) (n:=n) TF kD rfl MS om om om;have F3:aq (H5.get nb) 0 5=some [iN (k+2),iN 0,.str [],lv,av]:=by rw[dw];rfl
           refine af (An @kK (An @Oa (An @eV (An @MQ (An @GX @d7))))) ?_;refine ah ae ?_;refine af ae ?_;refine ai ae eP ?_;refine af (An @Xa @d8) ?_;refine ah ae ?_;refine af @F3 ?_;refine ai ae mr ?_;refine af ae ?_;refine aT (m-k) om ⟨rfl,m-k,jC m (e'::r'),vL,rfl,by omega,by rw[ic];exact xh,hP.trans (bK.trans (zh.trans (jJ.trans nc))),tf,bE,by omega,bO,aw⟩
     ·exact⟨rfl,0,au,rfl,Nat.zero_le _,eO,bM.refl _ _,aw⟩
   ·have d0:decide (((m:Nat):Int)>=((2:Nat):Int))=false:=df;have fy:eL (c0+1) c0 st=bI (List.replicate m 125) eQ:=by
     rw[<-heq];unfold eL;rw[if_neg aH]
    refine af @d0 ?_;refine ah ae ?_;refine af ae ?_;refine ai ae F7 ?_;refine af ae ?_;refine ai ae sA ?_;refine af ae ?_;refine cF bQ ?_;exact(⟨rfl,WU,by rw[fy];exact TG,hP.trans Fk⟩)
  ·exact⟨rfl,c0,st,own,rfl,Nat.le_refl _,h,bM.refl _ _,aD,hb,Nat.le_refl _,rfl,aw⟩
 obtain⟨w,H',hc,rfl,au,k1,k2⟩:=key;exact⟨au,H',hc,k1,k2⟩
end
end
end Go.Sh
