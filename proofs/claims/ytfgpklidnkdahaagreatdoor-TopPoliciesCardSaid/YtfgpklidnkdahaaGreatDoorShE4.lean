/-
  The reference parser, first part. No conditions beyond those that stand in the theorems.
-/
import Derived.Test.YtfgpklidnkdahaaGreatDoorShE3
set_option linter.all false
set_option maxHeartbeats 20000000
set_option maxRecDepth 10000
namespace Go.Sh
section
def cf (nb:Nat) (H H':ag):Prop:=H.next<=H'.next/\∀b,b<H.next->b≠nb->H'.get b=H.get b
theorem cf.refl (nb:Nat) (H:ag):cf nb H H:=⟨Nat.le_refl _,fun _ _ _=>rfl⟩
theorem cf.trans {nb:Nat} {H1 H2 H3:ag} (h:cf nb H1 H2) (k:cf nb H2 H3):cf nb H1 H3:=⟨Nat.le_trans h.1 k.1,fun b hb hn=>(k.2 b (Nat.lt_of_lt_of_le hb h.1) hn).trans (h.2 b hb hn)⟩
theorem Ext.cq {nb:Nat} {H1 H2:ag} (h:Ext H1 H2):cf nb H1 H2:=⟨h.1,fun b hb _=>h.2 b hb⟩
theorem cf.put {nb:Nat} {H1 H2:ag} (h:cf nb H1 H2) (o:cz):cf nb H1 (H2.put nb o):=⟨h.1,fun b hb hn=>by rw[cI hn];exact h.2 b hb hn⟩
theorem RB.cq {pb:Nat} {H H':ag} {v:SV} {z:Nat} {L:List (List SV)} (h:RB (pb+1) H v z L) (hE:cf pb H H'):RB (pb+1) H' v z L:=
 h.ax (k:=pb) (p:=pb) om (.inl om) ⟨hE.1,fun b hb h1 _=>hE.2 b hb h1⟩
def RQ (pb:Nat) (H:ag) (v:SV) (z:Nat) (L:List (List SV)):Prop:=
 dq z L/\((L=[]/\v=.ao)\/∃b c e ex ro frz,v=.slice b 0 L.length c z/\(∀k,c=some k->k=L.length)/\b≠pb/\b<H.next/\H.get b=some (.row L.flatten e ex ro frz))
theorem RQ.aQ {pb:Nat} {H:ag} {v:SV} {z:Nat} {L:List (List SV)} (h:RQ pb H v z L):br H v z L:=by
 refine⟨h.1,?_⟩;rcases h.2 with h|⟨b,c,e,ex,ro,frz,h1,hc,_,h2,h3⟩
 ·exact .inl h
 ·exact .inr ⟨b,c,e,ex,ro,frz,h1,hc,h2,h3⟩
theorem RQ.cq {pb:Nat} {H H':ag} {v:SV} {z:Nat} {L:List (List SV)} (h:RQ pb H v z L) (hE:cf pb H H'):RQ pb H' v z L:=by
 refine⟨h.1,?_⟩;rcases h.2 with h|⟨b,c,e,ex,ro,frz,h1,hc,hB,h2,h3⟩
 ·exact .inl h
 ·exact .inr ⟨b,c,e,ex,ro,frz,h1,hc,hB,Nat.lt_of_lt_of_le h2 hE.1,(hE.2 b h2 hB).trans h3⟩
theorem RQ.ext {pb:Nat} {H H':ag} {v:SV} {z:Nat} {L:List (List SV)} (h:RQ pb H v z L) (hE:Ext H H'):RQ pb H' v z L:=h.cq hE.cq
theorem RB.rq {pb:Nat} {H:ag} {v:SV} {z:Nat} {L:List (List SV)} (h:RB (pb+1) H v z L):RQ pb H v z L:=by
 refine⟨h.1,?_⟩;rcases h.2 with h|⟨b,c,e,ex,ro,frz,h1,hc,hB,h2,h3⟩
 ·exact .inl h
 ·exact .inr ⟨b,c,e,ex,ro,frz,h1,hc,by omega,h2,h3⟩
def NK (pb:Nat) (H:ag) (v:SV) (K:List AN):Prop:=∃C,RB (pb+1) H v 5 C/\bG (Nd (fun b=>pb<b) H) C K
def AK (pb:Nat) (H:ag) (v:SV) (A:List AA):Prop:=∃D,RB (pb+1) H v 3 D/\bG (fun d (a:AA)=>∃nv vv,d=[.bool a.1,nv,vv]/\NK pb H nv a.2.1/\NK pb H vv a.2.2) D A
def EK (pb:Nat) (H:ag) (c:List SV) (e:AE):Prop:=∃tg lv av,c=[iN e.kind,iN tg,iN e.count,lv,av]/\(e.kind=2->tg=e.tag)/\NK pb H lv e.list/\AK pb H av e.args
def TK (pb:Nat) (H:ag) (sv:SV) (st:List AE):Prop:=∃C,RQ pb H sv 5 C/\bG (EK pb H) C st.reverse
def PK (pb:Nat) (H:ag) (st:List AE):Prop:=∃sv,H.get pb=some (.row [sv] 344 true false 0)/\TK pb H sv st/\pb<H.next
theorem NK.ax {pb:Nat} {H H':ag} {v:SV} {K:List AN} (h:NK pb H v K) (hE:cf pb H H'):NK pb H' v K:=by
 obtain⟨C,h1,h2⟩:=h;exact⟨C,h1.cq hE,h2.imp fun _ _ h=>h.ax hE.1 fun b hb hn=>⟨hb,hE.2 b hn om⟩⟩
theorem AK.ax {pb:Nat} {H H':ag} {v:SV} {A:List AA} (h:AK pb H v A) (hE:cf pb H H'):AK pb H' v A:=by
 obtain⟨D,h1,h2⟩:=h;refine⟨D,h1.cq hE,h2.imp fun d a h=>?_⟩;obtain⟨nv,vv,e,h3,h4⟩:=h;exact⟨nv,vv,e,h3.ax hE,h4.ax hE⟩
theorem EK.ax {pb:Nat} {H H':ag} {c:List SV} {e:AE} (h:EK pb H c e) (hE:cf pb H H'):EK pb H' c e:=by
 obtain⟨tg,lv,av,h1,ht,h2,h3⟩:=h;exact⟨tg,lv,av,h1,ht,h2.ax hE,h3.ax hE⟩
theorem TK.ax {pb:Nat} {H H':ag} {v:SV} {st:List AE} (h:TK pb H v st) (hE:cf pb H H'):TK pb H' v st:=by
 obtain⟨C,h1,h2⟩:=h;exact⟨C,h1.cq hE,h2.imp fun _ _ h=>h.ax hE⟩
theorem PK.ext {pb:Nat} {H H':ag} {st:List AE} (h:PK pb H st) (hE:Ext H H'):PK pb H' st:=by
 obtain⟨sv,h1,h2,h3⟩:=h;exact⟨sv,(hE.2 _ h3).trans h1,h2.ax hE.cq,Nat.lt_of_lt_of_le h3 hE.1⟩
theorem EK.len {pb:Nat} {H:ag} {c:List SV} {e:AE} (h:EK pb H c e):c.length=5:=by obtain⟨_,_,_,rfl,_⟩:=h;rfl
theorem EK.one {pb:Nat} {H:ag} {c:List SV} {e:AE} (h:EK pb H c e):c.all SV.one=true:=by
 obtain⟨tg,lv,av,rfl,jR,⟨_,h1,_⟩,_,h2,_⟩:=h;rw[List.all_eq_true];intro x hx;simp only[List.mem_cons,List.not_mem_nil,or_false]at hx;rcases hx with rfl|rfl|rfl|rfl|rfl<;>first|rfl|exact h1.aQ.one|exact h2.aQ.one
theorem EK.bq {pb:Nat} {H:ag} {c:List SV} {e:AE} (h:EK pb H c e):bD (.agg c) (.agg c)=true:=by
 obtain⟨tg,lv,av,rfl,jR,⟨_,h1,_⟩,_,h2,_⟩:=h;rcases h1.2 with⟨_,rfl⟩|⟨b1,c1,e1,x1,r1,f1,rfl,_⟩<;>rcases h2.2 with⟨_,rfl⟩|⟨b2,c2,e2,x2,r2,f2,rfl,_⟩<;>simp[bD,eg,eF]
theorem TK.top {pb:Nat} {H:ag} {sv:SV} {e:AE} {r:List AE} (h:TK pb H sv (e::r)):∃C c,RQ pb H sv 5 (C++[c])/\C.length=r.length/\bG (EK pb H) C r.reverse/\EK pb H c e:=by
 obtain⟨C,h1,h2⟩:=h;have hl:=h2.len;rw[List.reverse_cons,List.length_append,List.length_singleton,List.length_reverse]at hl;rcases List.eq_nil_or_concat C with rfl|⟨C,c,rfl⟩
 ·simp at hl
 ·rw[List.concat_eq_append]at*;rw[List.length_append,List.length_singleton]at hl;have hC:C.length=r.length:=om;refine⟨C,c,h1,hC,bG.of (by rw[hC,List.length_reverse]) fun i a b ha hb=>h2.get (i:=i) ?_ ?_,h2.get (i:=C.length) (by simp) (by rw[List.reverse_cons,List.getElem?_append_right (by simp[hC])];simp[hC])⟩
  ·rw[List.getElem?_append_left (List.getElem?_eq_some_iff.1 ha).1];exact ha
  ·rw[List.reverse_cons,List.getElem?_append_left (List.getElem?_eq_some_iff.1 hb).1];exact hb
section
variable {lf n:Nat} {H:ag}
theorem yf {pb:Nat} {e:AE} {r:List AE} {H0:ag} (h:PK pb H0 (e::r)) (nO:Ext H0 H) (hl:r.length<10000) (hn:1<=n):∃c H',aj ak lf n 257 [.ptr pb 0] H=some (.agg c,H')/\EK pb H0 c e/\Ext H H':=by
 obtain⟨n,rfl⟩:=aN (n:=n);obtain⟨sv,h1,h2,h3⟩:=h;obtain⟨C,c,k1,k2,k3,k4⟩:=h2.top;obtain⟨H1,ay⟩:∃H1,H.push (.row [iN 0,iN 0,iN 0,.ao,.ao] 341 true false 0)=H1:=⟨_,rfl⟩;have aB:Ext H H1:=by rw[<-ay];exact(Ext.refl H).push _
 have K3:=nO.trans aB;have bP:H1.get H.next=some (.row [iN 0,iN 0,iN 0,.ao,.ao] 341 true false 0):=by rw[<-ay];exact bd _
 have r0:aq (H1.get pb) 0 1=some [sv]:=by rw[K3.2 pb h3,h1];rfl
 have k1':=k1.ext K3;have aW:=k1.aQ.cA;rw[List.length_append,List.length_singleton,k2]at aW;have hcs:=k1.aQ.cells;have ng:=k1.aQ.bq;obtain⟨b,o,x1,bU,x0,bO⟩:=k1.aQ.at_ (i:=r.length) (x:=c) (by rw[<-k2];simp);have hw:((r.length+1:Nat):Int)-((1:Nat):Int)=(r.length:Int):=om;obtain⟨tg,lv,av,rfl,jR,q1,q2⟩:=id k4;have bV:=k4.one;have mq:=k4.bq;obtain⟨H2,aY⟩:∃H2,H1.put H.next (.row [iN e.kind,iN tg,iN e.count,lv,av] 341 true false 0)=H2:=⟨_,rfl⟩;have aF:Ext H H2:=by rw[<-aY];exact aB.put (Nat.le_refl _) _
 have Tn:=nO.trans aF;have bB:H2.get H.next=some (.row [iN e.kind,iN tg,iN e.count,lv,av] 341 true false 0):=by rw[<-aY];exact bT _ _
 have aD:c7 5 (.ptr H.next 0) [iN e.kind,iN tg,iN e.count,lv,av] H1=some H2:=by
  rw[iL (n:=5) (cs:=[iN e.kind,iN tg,iN e.count,lv,av]) rfl,iq,bP,im (Nat.le_refl _) (Nat.le_refl _) bV,<-aY];rfl
 have Xd:aq (H2.get pb) 0 1=some [sv]:=by rw[Tn.2 pb h3,h1];rfl
 have x2:aq (H1.get b) o 5=some [iN e.kind,iN tg,iN e.count,lv,av]:=by rw[K3.2 b bU];exact x0
 have DI:aq (H2.get b) o 5=some [iN e.kind,iN tg,iN e.count,lv,av]:=by rw[Tn.2 b bU];exact x0
 have key:∃w H',aj ak lf (n+1) 257 [.ptr pb 0] H=some (w,H')/\w=.agg [iN e.kind,iN tg,iN e.count,lv,av]/\Ext H H':=by
  refine cx PV.1 ?_;refine af @ay ?_;refine dG rfl ?_;refine af (An @r0 (An @aW (An @hw (An @x1 (An @x2 @aD))))) ?_;refine dB ?_ ?_
  ·exact dh (An @r0 (An @Xd (An @aW (An @hw (An @x1 (An @x2 (An @DI (An @ng @mq))))))))
  ·refine af ae ?_;refine aO @bB ?_;exact(⟨rfl,aF⟩)
 obtain⟨w,H',h,rfl,hE⟩:=key;exact⟨_,H',h,k4,hE⟩
theorem br.pre {v:SV} {z:Nat} {L:List (List SV)} (h:br H v z L) {k:Nat} (hk:k<=L.length):∃w,kq z none (some (.int .i64 (k:Int))) v=some w/\pF H w z (L.take k):=by
 rcases h.2 with⟨rfl,rfl⟩|⟨b,c,e,ex,ro,frz,rfl,hc,h2,h3⟩
 ·have:k=0:=by simpa using hk
  subst this;exact⟨.ao,rfl,br.Dm (H:=H) ⟨(fun _ h=>by cases h),.inl ⟨rfl,rfl⟩⟩⟩
 ·have nW:ln c L.length=L.length:=by
   cases c with
   |none=>rfl
   |some q=>exact hc q rfl
  refine⟨_,Dj om (by rw[nW];omega),?_⟩;have sJ:∃c',iX b 0 z 0 ((k:Int)).toNat c=.slice b 0 k c' z:=by
   unfold iX;cases c with
   |none=>exact⟨none,by simp⟩
   |some q=>
    cases hq:Nat.beq q 0 with
    |true=>exact⟨some 0,by simp[hq]⟩
    |false=>exact⟨some (q-0),by simp[hq]⟩
  obtain⟨c',hr⟩:=sJ;rw[hr];have:=HN (i:=0) (m:=k) (c:=c') h.1 h3 om;simpa using this
theorem Jw {v:SV} {z b':Nat} {L:List (List SV)} {x:List SV} {e':TypeId} {ex ro:Bool} {frz:Nat} (h:pF H v z L) (bV:L.flatten.all SV.one=true) (hl:L.length<999999) (hx:x.length=z) (MB:x.all SV.one=true) (dP:H.get b'=some (.row x e' ex ro frz)) (hlt:b'<H.next) (e bytes:Nat) (hb:bytes<=1000):
 ∃v1 H1 v2 H2,fu H false e z bytes .ao v=some (v1,H1)/\fu H1 false e z bytes v1 (.slice b' 0 1 (some 1) z)=some (v2,H2)/\Ext H H1/\Ext H H2/\RB H.next H2 v2 z (L++[x]):=by
 have hm:([]:List (List SV)).length+L.length<=999999:=by simp;omega
 obtain⟨v1,H1,h1,h2,h3,h4⟩:=Jx (bytes:=bytes) (B0:=H.next) (e:=e) (L:=[]) Sl.nil (fun _ h=>by cases h) h bV (Nat.le_refl _) (Nat.le_trans (Nat.mul_le_mul hm hb) (by decide)) (Nat.le_trans hm (by decide));rw[List.nil_append]at h2;have hE:Ext H H1:=⟨h3,h4⟩;obtain⟨v2,H2,k1,k2,k3,k4⟩:=wt h2 h.1 hx MB ((hE.2 _ hlt).trans dP) hE.1 om bytes hb;exact⟨v1,H1,v2,H2,h1,k1,hE,⟨Nat.le_trans hE.1 k3,fun b hb=>(k4 b hb).trans (hE.2 b hb)⟩,k2.rb (Nat.le_refl _) (h.1.app fun y hy=>by rw[List.mem_singleton.1 hy];exact hx)⟩
end
end
section
attribute [local irreducible] HD fC evalOp
theorem EG {pb:Nat} {H:ag} {C:List (List SV)} {st:List AE} (h:bG (EK pb H) C st):C.flatten.all SV.one=true:=by
 rw[List.all_eq_true];intro x hx;obtain⟨c,hc,hx⟩:=List.mem_flatten.1 hx;obtain⟨e,_,he⟩:=h.vD c hc;have:=he.one;rw[List.all_eq_true]at this;exact this x hx
section
variable {lf n:Nat} {H:ag}
theorem G4 {pb:Nat} {e e':AE} {r:List AE} {c:List SV} (h:PK pb H (e::r)) (hc:EK pb H c e') (hl:r.length<10000) (hn:1<=n):∃H',aj ak lf n 331 [.ptr pb 0,.agg c] H=some (.aJ [],H')/\PK pb H' (e'::r)/\cf pb H H':=by
 obtain⟨n,rfl⟩:=aN (n:=n);obtain⟨sv,h1,h2,h3⟩:=h;obtain⟨C,c0,k1,k2,k3,k4⟩:=h2.top;have bO:=hc.len;have bV:=hc.one;have mq:=hc.bq;obtain⟨tg,lv,av,rfl,jR,⟨_,u1,_⟩,_,u2,_⟩:=id hc;obtain⟨H1,ay⟩:∃H1,H.push (.row [iN e'.kind,iN tg,iN e'.count,lv,av] 341 true false 0)=H1:=⟨_,rfl⟩;have aB:Ext H H1:=by rw[<-ay];exact(Ext.refl H).push _
 have ca:H1.next=H.next+1:=by rw[<-ay];rfl
 have bP:H1.get H.next=some (.row [iN e'.kind,iN tg,iN e'.count,lv,av] 341 true false 0):=by rw[<-ay];exact bd _
 obtain⟨H2,aY⟩:∃H2,H1.push (.row [iN e'.kind,iN tg,iN e'.count,lv,av] 341 true false 0)=H2:=⟨_,rfl⟩;have cG:Ext H1 H2:=by rw[<-aY];exact(Ext.refl H1).push _
 have aF:=aB.trans cG;have dc:H2.next=H1.next+1:=by rw[<-aY];rfl
 have bB:H2.get H1.next=some (.row [iN e'.kind,iN tg,iN e'.count,lv,av] 341 true false 0):=by rw[<-aY];exact bd _
 have aW:=k1.aQ.cA;rw[List.length_append,List.length_singleton,k2]at aW;have hcs:=k1.aQ.cells;have ng:=k1.aQ.bq;have hw:((r.length+1:Nat):Int)-((1:Nat):Int)=(r.length:Int):=om;obtain⟨w,jS,mF⟩:=(k1.aQ.ax aF).pre (k:=r.length) (by rw[List.length_append,k2];exact Nat.le_add_right _ _);rw[List.take_append_of_le_length om,List.take_of_length_le om]at mF;obtain⟨v1,H3,v2,H4,fF,gI,aS,bz,eU⟩:=Jw mF (EG k3) om bO bV bB om 341 72 om;have kF:∀{G:ag},Ext H G->G.get pb=some (.row [sv] 344 true false 0):=fun hE=>(hE.2 _ h3).trans h1
 have r1:aq (H1.get pb) 0 1=some [sv]:=by rw[kF aB];rfl
 have r2:aq (H2.get pb) 0 1=some [sv]:=by rw[kF aF];rfl
 have r3:aq (H3.get pb) 0 1=some [sv]:=by rw[kF (aF.trans aS)];rfl
 have r4:aq (H4.get pb) 0 1=some [sv]:=by rw[kF (aF.trans bz)];rfl
 have aD:=gY (o:=0) (kF (aF.trans bz)) eU.aQ.one (by simp) (Nat.le_refl _);obtain⟨H5,bg⟩:∃H5,H4.put pb (.row [v2] 344 true false 0)=H5:=⟨_,rfl⟩;have lI:c7 1 (.ptr pb 0) [v2] H4=some H5:=by rw[aD,<-bg];rfl
 have jT:cf pb H H5:=by rw[<-bg];exact(aF.trans bz).cq.put _
 have dw:H5.get pb=some (.row [v2] 344 true false 0):=by rw[<-bg];exact bT _ _
 have iG:pb<H5.next:=Nat.lt_of_lt_of_le h3 jT.1;have fy:PK pb H5 (e'::r):=by
  refine⟨v2,dw,⟨C++[[iN e'.kind,iN tg,iN e'.count,lv,av]],?_,?_⟩,iG⟩
  ·refine RB.rq (RB.cq (eU.mono om) ?_);rw[<-bg];exact(cf.refl pb H4).put _
  ·rw[List.reverse_cons];have hk:bG (EK pb H5) C r.reverse:=k3.imp fun _ _ h=>h.ax jT
   refine bG.of (by rw[List.length_append,List.length_append,hk.len];rfl) fun i a b ha hb=>?_
   by_cases hi:i<C.length
   ·rw[List.getElem?_append_left hi]at ha;rw[List.getElem?_append_left (by rw[<-hk.len];exact hi)]at hb;exact hk.get ha hb
   ·rw[List.getElem?_append_right om]at ha;rw[List.getElem?_append_right (by rw[<-hk.len];omega),<-hk.len]at hb;have:i-C.length=0:=by
     cases hz:i-C.length with
     |zero=>rfl
     |succ q=>rw[hz]at ha;simp at ha
    rw[this]at ha hb;cases ha;cases hb;exact hc.ax jT
 have key:∃w H',aj ak lf (n+1) 331 [.ptr pb 0,.agg [iN e'.kind,iN tg,iN e'.count,lv,av]] H=some (w,H')/\w=.aJ []/\PK pb H' (e'::r)/\cf pb H H':=by
  have q1:aq (H1.get H.next) 0 5=some [iN e'.kind,iN tg,iN e'.count,lv,av]:=by rw[bP];rfl
  have q2:aq (H2.get H.next) 0 5=some [iN e'.kind,iN tg,iN e'.count,lv,av]:=by rw[cG.2 _ om,bP];rfl
  have q3:aq (H3.get H.next) 0 5=some [iN e'.kind,iN tg,iN e'.count,lv,av]:=by rw[aS.2 _ om,cG.2 _ om,bP];rfl
  have q4:aq (H4.get H.next) 0 5=some [iN e'.kind,iN tg,iN e'.count,lv,av]:=by rw[bz.2 _ om,cG.2 _ om,bP];rfl
  have q5:aq (H5.get H.next) 0 5=some [iN e'.kind,iN tg,iN e'.count,lv,av]:=by rw[<-bg,cI om,bz.2 _ om,cG.2 _ om,bP];rfl
  refine cx P8.1 ?_;refine af @ay ?_;refine wh ?_;have aH:=eU.aQ.cells;have CE:SV.under H1.next lv=true:=u1.aQ.under om;have CF:SV.under H1.next av=true:=u2.aQ.under om;have rA:(SV.under H1.next (iN e'.kind)&&(SV.under H1.next (iN tg)&&(SV.under H1.next (iN e'.count)&&(SV.under H1.next lv&&SV.under H1.next av))))=true:=by rw[CE,CF];rfl
  have l3:=(aS.2 H1.next om).trans bB;have l4:=(bz.2 H1.next om).trans bB;have l5:H5.get H1.next=some (.row [iN e'.kind,iN tg,iN e'.count,lv,av] 341 true false 0):=by rw[<-bg,cI om];exact l4
  refine xo (An @r1 (An @aW (An @hw (An @jS (An @q1 @aY))))) ?_;simp only[oK,List.map_cons,List.map_nil];refine af (An @r2 (An @aW (An @hw (An @jS (An @fF (An @q3 (An @gI (An @aH @lI)))))))) ?_;refine dB ?_ ?_
  ·exact dh (An @r2 (An @r3 (An @r4 (An @aW (An @hw (An @jS (An @q2 (An @q3 (An @q4 (An @q5 (An @bB (An @l3 (An @l4 (An @l5 (An @rA (An @ng @mq))))))))))))))))
  ·refine af ae ?_;refine cF bQ ?_;exact(⟨rfl,fy,jT⟩)
 obtain⟨w,H',h,rfl,h1,h2⟩:=key;exact⟨H',h,h1,h2⟩
end
end
section
attribute [local irreducible] HD fC evalOp
section
variable {lf n:Nat} {H:ag}
theorem G6 {pb:Nat} {e:AE} {r:List AE} (h:PK pb H (e::r)) (hl:r.length<10000) (hn:2<=n):∃c H',aj ak lf n 334 [.ptr pb 0] H=some (.agg c,H')/\EK pb H' c e/\PK pb H' r/\cf pb H H':=by
 obtain⟨n,rfl⟩:=aN (n:=n);obtain⟨H1,ay⟩:∃H1,H.push (.row [iN 0,iN 0,iN 0,.ao,.ao] 341 true false 0)=H1:=⟨_,rfl⟩;have aB:Ext H H1:=by rw[<-ay];exact(Ext.refl H).push _
 have ca:H1.next=H.next+1:=by rw[<-ay];rfl
 have bP:H1.get H.next=some (.row [iN 0,iN 0,iN 0,.ao,.ao] 341 true false 0):=by rw[<-ay];exact bd _
 obtain⟨c,H2,aH,gJ,cG⟩:=yf (lf:=lf) (n:=n) h aB hl om;have aF:=aB.trans cG;have bB:=(cG.2 H.next om).trans bP;have bV:=gJ.one;obtain⟨tg,lv,av,rfl,jR,_,_⟩:=id gJ;obtain⟨H3,ch⟩:∃H3,(H2.push (.row [iN 0,iN 0,iN 0,.ao,.ao] 341 true false 0)).put H2.next (.row [iN e.kind,iN tg,iN e.count,lv,av] 341 true false 0)=H3:=⟨_,rfl⟩;have dJ:Ext H2 H3:=by rw[<-ch];exact((Ext.refl H2).push _).put (Nat.le_refl _) _
 have aS:=aF.trans dJ;have fo:H3.next=H2.next+1:=by rw[<-ch];rfl
 have dA:H3.get H2.next=some (.row [iN e.kind,iN tg,iN e.count,lv,av] 341 true false 0):=by rw[<-ch];exact bT _ _
 have aeq:=(dJ.2 H.next (by have:=cG.1;omega)).trans bB;have ez:c7 5 (.ptr H2.next 0) [iN e.kind,iN tg,iN e.count,lv,av] (H2.push (.row [iN 0,iN 0,iN 0,.ao,.ao] 341 true false 0))=some H3:=by
  rw[iL (n:=5) (cs:=[iN e.kind,iN tg,iN e.count,lv,av]) rfl,iq,bd,im (Nat.le_refl _) (Nat.le_refl _) bV,<-ch];rfl
 obtain⟨sv,h1,h2,Co⟩:=h;obtain⟨C,c0,k10,k2,VZ,k4⟩:=h2.top;have h1:=(aS.2 _ Co).trans h1;have h3:=Nat.lt_of_lt_of_le Co aS.1;have k1:=k10.ext aS;have aW:=k1.aQ.cA;rw[List.length_append,List.length_singleton,k2]at aW;have ng:=k1.aQ.bq;have hw:((r.length+1:Nat):Int)-((1:Nat):Int)=(r.length:Int):=om;obtain⟨w,jS,mF⟩:=k1.aQ.pre (k:=r.length) (by rw[List.length_append,k2];exact Nat.le_add_right _ _);rw[List.take_append_of_le_length om,List.take_of_length_le om]at mF;have hm:([]:List (List SV)).length+C.length<=999999:=by simp;omega
 obtain⟨v1,H4,fF,lC,nY,Ck⟩:=Jx (bytes:=72) (B0:=H3.next) (e:=341) (L:=[]) Sl.nil (fun _ h=>by cases h) mF (EG VZ) (Nat.le_refl _) (Nat.le_trans (Nat.mul_le_mul_right 72 hm) (by decide)) (Nat.le_trans hm (by decide));rw[List.nil_append]at lC;have fF:fu H3 false 341 5 72 .ao w=some (v1,H4):=fF;have js:Ext H3 H4:=⟨nY,Ck⟩;have eU:RB H3.next H4 v1 5 C:=lC.rb (Nat.le_refl _) mF.1;have Uk:=(js.2 _ h3).trans h1;have r3:aq (H3.get pb) 0 1=some [sv]:=by rw[h1];rfl
 have r4:aq (H4.get pb) 0 1=some [sv]:=by rw[Uk];rfl
 obtain⟨H5,bg⟩:∃H5,H4.put pb (.row [v1] 344 true false 0)=H5:=⟨_,rfl⟩;have iH:c7 1 (.ptr pb 0) [v1] H4=some H5:=by rw[gY (o:=0) Uk eU.aQ.one (by simp) (Nat.le_refl _),<-bg];rfl
 have dw:H5.get pb=some (.row [v1] 344 true false 0):=by rw[<-bg];exact bT _ _
 have Gi:cf pb H4 H5:=by rw[<-bg];exact(cf.refl pb H4).put _
 have Gh:cf pb H3 H5:=js.cq.trans Gi;have eP:aq (H5.get H2.next) 0 5=some [iN e.kind,iN tg,iN e.count,lv,av]:=by rw[Gh.2 _ om (by have:=aF.1;omega),dA];rfl
 have hd5:H5.get H.next=some (.row [iN 0,iN 0,iN 0,.ao,.ao] 341 true false 0):=(Gh.2 _ (by have:=cG.1;omega) om).trans aeq;obtain⟨H6,fZ⟩:∃H6,H5.put H.next (.row [iN e.kind,iN tg,iN e.count,lv,av] 341 true false 0)=H6:=⟨_,rfl⟩;have lJ:c7 5 (.ptr H.next 0) [iN e.kind,iN tg,iN e.count,lv,av] H5=some H6:=by
  rw[iL (n:=5) (cs:=[iN e.kind,iN tg,iN e.count,lv,av]) rfl,iq,hd5,im (Nat.le_refl _) (Nat.le_refl _) bV,<-fZ];rfl
 have ie:H6.get H.next=some (.row [iN e.kind,iN tg,iN e.count,lv,av] 341 true false 0):=by rw[<-fZ];exact bT _ _
 have key:∃w H',aj ak lf (n+1) 334 [.ptr pb 0] H=some (w,H')/\w=.agg [iN e.kind,iN tg,iN e.count,lv,av]/\H'=H6:=by
  have aV:=eU.aQ.cells;refine cx Qd.1 ?_;refine af @ay ?_;refine ai ae aH ?_;refine af @ez ?_;refine dG rfl ?_;refine af (An @r3 (An @aW (An @hw (An @jS (An @fF (An @aV @iH)))))) ?_;refine dB ?_ ?_
  ·exact dh (An @r3 (An @r4 (An @aW (An @hw (An @jS @ng)))))
  ·refine af (An @eP @lJ) ?_;refine aO @ie ?_;exact(⟨rfl,rfl⟩)
 obtain⟨w',H',h',rfl,rfl⟩:=key;have hx:cf pb H H':=⟨by rw[<-fZ,ea];have:=aS.1;have:=Gh.1;omega,fun b hb hn=>by rw[<-fZ,cI om,Gh.2 b (by have:=aS.1;omega) hn];exact aS.2 b hb⟩;have aol:cf pb H4 H5:=Gi;refine⟨_,H',h',gJ.ax hx,⟨v1,by rw[<-fZ,cI om];exact dw,⟨C,?_,VZ.imp fun _ _ h=>h.ax hx⟩,Nat.lt_of_lt_of_le Co hx.1⟩,hx⟩;have hq:=(eU.mono (B':=H.next+1) (by have:=aF.1;have:=cG.1;omega)).ax (k:=pb) (p:=pb) om (.inl om) ⟨Gi.1,fun b hb q _=>Gi.2 b hb q⟩;refine RB.rq ((hq.ax (H':=H') (k:=H.next) (p:=H.next) om (.inl om) ⟨by rw[<-fZ,ea];exact Nat.le_refl _,fun b _ q _=>by rw[<-fZ,cI q]⟩).mono om)
theorem Xg {k c:Nat} (hk:k<100000) (hn:1<=n) (aC:600000<lf):aj ak lf n 377 [iN k,.str [c]] H=some (.str (List.replicate k c),H):=by
 obtain⟨n,rfl⟩:=aN (n:=n);have key:∃v H',aj ak lf (n+1) 377 [iN k,.str [c]] H=some (v,H')/\v=.str (List.replicate k c)/\H'=H:=by
  refine cx Qm.1 ?_;refine af ae ?_;refine bH (I:=fun m ts D H'=>D=[]/\H'=H/\∃i:Nat,m=k-i/\i<=k/\∃z:Nat->SV,ts=((iN k)::(.str [c])::zz z 2 3 ((.str (List.replicate i c))::(.int .i64 (i:Int))::zz z 7 9 []):T)/\(True)) ?_ k ?_ om
  ·rintro m ts D H' ⟨rfl,rfl,i,rfl,hi,⟨z,rfl, -⟩⟩;by_cases bw:i<k
   ·have d1:decide (((i:Nat):Int)<((k:Nat):Int))=true:=dt;have a1:bX .add (.str (List.replicate i c)) (.str [c])=some (.str (List.replicate (i+1) c)):=by
     rw[List.replicate_succ'];exact eT (by simp;omega)
    refine af @d1 ?_;refine ar ae ?_;refine af @a1 ?_;refine aT (k-(i+1)) om ⟨rfl,rfl,i+1,rfl,by omega,aw⟩
   ·obtain rfl:i=k:=om;have d1:decide (((i:Nat):Int)<((i:Nat):Int))=false:=by simp
    refine af @d1 ?_;refine ah ae ?_;refine af ae ?_;refine aO ae ?_;exact(⟨rfl,rfl⟩)
  ·exact⟨rfl,rfl,0,rfl,Nat.zero_le _,aw⟩
 obtain⟨v,H',h,rfl,rfl⟩:=key;exact h
end
end
section
attribute [local irreducible] HD fC evalOp
def RO (ok:Nat->Prop) (H:ag) (v:SV) (z:Nat) (L:List (List SV)):Prop:=
 dq z L/\((L=[]/\v=.ao)\/∃b c e ex ro frz,v=.slice b 0 L.length c z/\(∀k,c=some k->k=L.length)/\ok b/\b<H.next/\H.get b=some (.row L.flatten e ex ro frz))
theorem RO.aQ {ok:Nat->Prop} {H:ag} {v:SV} {z:Nat} {L:List (List SV)} (h:RO ok H v z L):br H v z L:=by
 refine⟨h.1,?_⟩;rcases h.2 with h|⟨b,c,e,ex,ro,frz,h1,hc,_,h2,h3⟩
 ·exact .inl h
 ·exact .inr ⟨b,c,e,ex,ro,frz,h1,hc,h2,h3⟩
theorem RO.ax {ok ok':Nat->Prop} {H H':ag} {v:SV} {z:Nat} {L:List (List SV)} (h:RO ok H v z L) (hn:H.next<=H'.next) (hk:∀b,ok b->b<H.next->ok' b/\H'.get b=H.get b):RO ok' H' v z L:=by
 refine⟨h.1,?_⟩;rcases h.2 with h|⟨b,c,e,ex,ro,frz,h1,hc,h2,h3,h4⟩
 ·exact .inl h
 ·exact .inr ⟨b,c,e,ex,ro,frz,h1,hc,(hk b h2 h3).1,by omega,(hk b h2 h3).2.trans h4⟩
theorem Sl.ro {ok:Nat->Prop} {B0 e z:Nat} {H:ag} {v:SV} {L:List (List SV)} (h:Sl B0 e z H v L) (hB:∀b,B0<=b->ok b) (hL:dq z L):RO ok H v z L:=by
 refine⟨hL,?_⟩;rcases h with h|⟨aP,b,gT,bU,rfl,hb⟩
 ·exact .inl h
 ·exact .inr ⟨b,none,e,false,false,0,rfl,(fun k h=>(by cases h)),hB b gT,bU,hb⟩
def NO (ok:Nat->Prop) (H:ag) (v:SV) (K:List AN):Prop:=∃C,RO ok H v 5 C/\bG (Nd ok H) C K
theorem NK.no {pb:Nat} {H:ag} {v:SV} {K:List AN} (h:NK pb H v K):NO (fun b=>pb<b) H v K:=h
theorem NO.ax {ok ok':Nat->Prop} {H H':ag} {v:SV} {K:List AN} (h:NO ok H v K) (hn:H.next<=H'.next) (hk:∀b,ok b->b<H.next->ok' b/\H'.get b=H.get b):NO ok' H' v K:=by
 obtain⟨C,h1,h2⟩:=h;exact⟨C,h1.ax hn hk,h2.imp fun _ _ h=>h.ax hn hk⟩
def pD (ok:Nat->Prop) (H:ag) (c:List SV) (n:AN):Prop:=Nd ok H c n\/∃s,c=[iN 1,iN 0,.str s,.ao,.ao]/\n=⟨true,s⟩
theorem pD.ax {ok ok':Nat->Prop} {H H':ag} {c:List SV} {n:AN} (h:pD ok H c n) (hn:H.next<=H'.next) (hk:∀b,ok b->b<H.next->ok' b/\H'.get b=H.get b):pD ok' H' c n:=
 h.imp (fun h=>h.ax hn hk) id
theorem pD.cases {ok:Nat->Prop} {H:ag} {c:List SV} {n:AN} (h:pD ok H c n):
 (∃s,c=[iN 1,iN 0,.str s,.ao,.ao]/\n=⟨true,s⟩)\/(Nd ok H c n/\n.t=false/\∃k g t kv av,k≠1/\c=[iN k,iN g,.str t,kv,av]):=by
 rcases h with h|h
 ·rcases h.inv with⟨s,rfl,rfl⟩|⟨s,rfl,rfl⟩|⟨s,rfl,rfl⟩|⟨k,kv,av,K,A,hk,rfl,rfl,_⟩|⟨g,kv,K,hg,rfl,rfl,_⟩
  ·exact .inl ⟨s,rfl,rfl⟩
  ·exact .inr ⟨h,rfl,2,_,_,_,_,by decide,rfl⟩
  ·exact .inr ⟨h,rfl,3,_,_,_,_,by decide,rfl⟩
  ·exact .inr ⟨h,rfl,k+2,_,_,_,_,by omega,rfl⟩
  ·exact .inr ⟨h,rfl,6,_,_,_,_,by decide,rfl⟩
 ·exact .inl h
theorem aax (l:List AN):addN l ⟨true,[]⟩=l:=by unfold addN;rw[if_pos rfl,if_pos rfl]
theorem aha {ok:Nat->Prop} {H:ag} {C:List (List SV)} {K:List AN} (h:bG (Nd ok H) C K):C.flatten.all SV.one=true:=by
 rw[List.all_eq_true];intro x hx;obtain⟨c,hc,hx⟩:=List.mem_flatten.1 hx;obtain⟨e,_,he⟩:=h.vD c hc;have:=he.one;rw[List.all_eq_true]at this;exact this x hx
theorem WB {ok:Nat->Prop} {H:ag} {C:List (List SV)} {K:List AN} (h:bG (Nd ok H) C K):K.length<=(aL K).length:=xV fun n hn=>by
 obtain⟨c,_,hr⟩:=h.mem n hn;exact hr.ne
theorem VX {H:ag} {ok:Nat->Prop} {v:SV} {C:List (List SV)} {c:List SV} (k1:RO ok H v 5 C) (bV:C.flatten.all SV.one=true) (bO:c.length=5) (aV:c.all SV.one=true) (hp:∀b,H.next<=b->ok b) (hl:C.length<=100000):
 ∃v1 H1 H2 v2 H3 H4,H.push (.row c 301 true false 0)=H1/\fu H1 false 301 5 80 .ao v=some (v1,H2)/\Ext H H2/\H2.get H.next=some (.row c 301 true false 0)/\Sl (H.next+1) 301 5 H2 v1 C/\
  H2.push (.row c 301 true false 0)=H3/\fu H3 false 301 5 80 v1 (.slice H2.next 0 1 (some 1) 5)=some (v2,H4)/\Ext H H4/\RO ok H4 v2 5 (C++[c]):=by
 obtain⟨H1,ay⟩:∃H1,H.push (.row c 301 true false 0)=H1:=⟨_,rfl⟩;have aB:Ext H H1:=by rw[<-ay];exact(Ext.refl H).push _
 have ca:H1.next=H.next+1:=by rw[<-ay];rfl
 have bP:H1.get H.next=some (.row c 301 true false 0):=by rw[<-ay];exact bd _
 obtain⟨v1,H2,ha,cG,hS⟩:=yK (k1.aQ.ax aB) bV om 301 80 om;rw[ca]at hS;obtain⟨H3,ch⟩:∃H3,H2.push (.row c 301 true false 0)=H3:=⟨_,rfl⟩;have dJ:Ext H2 H3:=by rw[<-ch];exact(Ext.refl H2).push _
 have fo:H3.next=H2.next+1:=by rw[<-ch];rfl
 have dA:H3.get H2.next=some (.row c 301 true false 0):=by rw[<-ch];exact bd _
 have Lp:Sl (H.next+1) 301 5 H3 v1 C:=by
  rcases hS with h|⟨aP,b,gT,bU,rfl,hb⟩
  ·exact .inl h
  ·exact .inr ⟨aP,b,gT,Nat.lt_of_lt_of_le bU dJ.1,rfl,(dJ.2 b bU).trans hb⟩
 have mW:H.next+1<=H3.next:=by have:=cG.1;omega
 obtain⟨v2,H4,gI,lC,nY,Ck⟩:=wt Lp k1.1 bO aV dA mW om 80 om;have nP:=aB.trans (cG.trans dJ);exact⟨v1,H1,H2,v2,H3,H4,ay,ha,aB.trans cG,(cG.2 _ om).trans bP,hS,ch,gI,⟨Nat.le_trans nP.1 nY,fun b hb=>(Ck b om).trans (nP.2 b hb)⟩,lC.ro (fun b hb=>hp b om) (k1.1.snoc bO)⟩
theorem CT {H:ag} {B e z:Nat} {v:SV} {C:List (List SV)} {m x:List SV} (hS:Sl B e z H v (C++[m])) (hA:dq z (C++[m])) (hx:x.length=z) (hx1:x.all SV.one=true):
 ∃b H',kN z v (.int .i64 (C.length:Int))=some (.ptr b (C.length*z))/\B<=b/\b<H.next/\aq (H.get b) (C.length*z) z=some m/\c7 z (.ptr b (C.length*z)) x H=some H'/\H'.next=H.next/\(∀q,q≠b->H'.get q=H.get q)/\Sl B e z H' v (C++[x]):=by
 rcases hS with⟨h,_⟩|⟨aP,b,gT,bU,rfl,hb⟩
 ·simp at h
 have hm:=hA m (by simp);have KU:dq z C:=fun y hy=>hA y (by simp[hy])
 have qW:C.flatten.length=C.length*z:=l9 KU;have hf2:(C++[m]).flatten=C.flatten++m:=by simp
 rw[hf2]at hb;refine⟨b,H.put b (.row (C.flatten++x) e false false 0),?_,gT,bU,?_,?_,rfl,fun q hq=>cI hq,.inr ⟨by simp,b,gT,bU,by simp,by rw[bT];simp⟩⟩
 ·have:=qh (z:=z) (b:=b) (o:=0) (n:=(C++[m]).length) (c:=none) (kk:=.i64) (i:=(C.length:Int)) om (by rw[List.length_append,List.length_singleton];omega);rw[this,Nat.zero_add];rfl
 ·rw[hb,jl (by rw[List.length_append];omega),List.drop_append,List.drop_of_length_le om,qW,Nat.sub_self,List.drop_zero,List.nil_append,List.take_of_length_le om]
 ·rw[iL hx,iq,hb,im (by rw[hx,List.length_append];omega) (Nat.zero_le _) hx1];congr 3;rw[List.take_append_of_le_length om,List.take_of_length_le om,List.drop_of_length_le (by rw[List.length_append];omega),List.append_nil]
section
variable {lf n:Nat} {H:ag}
theorem VY {ok:Nat->Prop} {v:SV} {c:List SV} {K:List AN} {nd:AN} (h:NO ok H v K) (hc:pD ok H c nd) (hp:∀b,H.next<=b->ok b) (hb:(aL K).length+nd.s.length<=100000) (hn:1<=n):
 ∃w H',aj ak lf n 375 [v,.agg c] H=some (w,H')/\NO ok H' w (addN K nd)/\Ext H H':=by
 obtain⟨n,rfl⟩:=aN (n:=n);obtain⟨C,k1,k2⟩:=h;have sj:=k2.len;have zg:=WB k2;have bV:=aha k2;have kp:∀{H':ag} {C:List (List SV)} {K:List AN},Ext H H'->bG (Nd ok H) C K->bG (Nd ok H') C K:=fun hE h=>h.imp fun _ _ h=>h.ax hE.1 fun b hb hn=>⟨hb,hE.2 b hn⟩
 rcases hc.cases with⟨s,rfl,rfl⟩|⟨kD,hf,k,g,t,kv,av,hk,rfl⟩
 ·obtain⟨v1,H1,H2,v2,H3,H4,ay,ha,aF,bB,hS,ch,gI,bz,eU⟩:=VX k1 bV (c:=[iN 1,iN 0,.str s,.ao,.ao]) rfl rfl hp om;have lF:=(hS.aQ k1.1).cA;have anX:=(hS.aQ k1.1).cells;have r0:aq (H2.get H.next) 0 1=some [iN 1]:=by rw[bB];rfl
  have r2:aq (H2.get H.next) 2 1=some [.str s]:=by rw[bB];rfl
  have r5:aq (H2.get H.next) 0 5=some [iN 1,iN 0,.str s,.ao,.ao]:=by rw[bB];rfl
  by_cases hs:s=[]
  ·subst hs;have key:∃w H',aj ak lf (n+1) 375 [v,.agg [iN 1,iN 0,.str [],.ao,.ao]] H=some (w,H')/\w=v1/\H'=H2:=by
    refine cx yC.1 ?_;refine af (An @ay (An @ha (An @r0 @r2))) ?_;refine ar ae ?_;refine af @r2 ?_;refine ar ae ?_;refine af ae ?_;refine aO ae ?_;exact(⟨rfl,rfl⟩)
   obtain⟨w,H',h,rfl,rfl⟩:=key;exact⟨_,_,h,by rw[aax];exact⟨C,hS.ro (fun b hb=>hp b om) k1.1,kp aF k2⟩,aF⟩
  ·have cX:pD ok H [iN 1,iN 0,.str s,.ao,.ao] ⟨true,s⟩:=hc;have kD:Nd ok H [iN 1,iN 0,.str s,.ao,.ao] ⟨true,s⟩:=.text s hs;have d0:decide (s=[])=false:=by simp[hs]
   rcases List.eq_nil_or_concat C with hC|⟨C',m,hC⟩
   ·have nk:C.length=0:=by rw[hC];rfl
    have d1:decide (((C.length:Nat):Int)>((0:Nat):Int))=false:=by rw[nk];decide
    have key:∃w H',aj ak lf (n+1) 375 [v,.agg [iN 1,iN 0,.str s,.ao,.ao]] H=some (w,H')/\w=v2/\H'=H4:=by
     refine cx yC.1 ?_;refine af (An @ay (An @ha (An @r0 @r2))) ?_;refine ar ae ?_;refine af (An @r2 @d0) ?_;refine ah ae ?_;refine af (An @lF @d1) ?_;refine ah ae ?_;refine af (An @r5 (An @ch @gI)) ?_;refine aO ae ?_;exact(⟨rfl,rfl⟩)
    obtain⟨w,H',h,rfl,rfl⟩:=key;subst hC;obtain rfl:K=[]:=by simpa using sj.symm
    exact⟨_,_,h,by rw[Rk hs];exact⟨_,eU,(kp bz k2).snoc (kD.ax bz.1 fun b hb hn=>⟨hb,bz.2 b hn⟩)⟩,bz⟩
   ·rw[List.concat_eq_append]at hC;subst hC;obtain⟨K',a,rfl⟩:∃K' a,K=K'++[a]:=by
     rcases List.eq_nil_or_concat K with rfl|⟨K',a,e⟩
     ·simp at sj
     ·exact⟨K',a,by rw[e,List.concat_eq_append]⟩
    obtain⟨C2,m2,e2,k3,k4⟩:=k2.Ig;obtain⟨rfl,rfl⟩:C'=C2/\m=m2:=by simpa using e2
    have d1:decide ((((C'++[m]).length:Nat):Int)>((0:Nat):Int))=true:=by simp
    have gf:(((C'++[m]).length:Nat):Int)-((1:Nat):Int)=(C'.length:Int):=by simp
    obtain⟨kd,q4,q5,q6⟩:=k4.kind;have wP:=k1.1;have oV:C'.length<1000000:=by have:=k3.len;rw[List.length_append,List.length_singleton]at zg;omega
    cases ht:a.t with
    |false=>
     rw[ht]at q5;obtain⟨bb,_,j1,j2,j3,j4,_⟩:=CT hS wP (x:=m) k4.len k4.one;have q7:=uz j4 (by decide) q4;generalize (C'++[m]).length=cl at lF d1 gf;have key:∃w H',aj ak lf (n+1) 375 [v,.agg [iN 1,iN 0,.str s,.ao,.ao]] H=some (w,H')/\w=v2/\H'=H4:=by
      refine cx yC.1 ?_;refine af (An @ay (An @ha (An @r0 @r2))) ?_;refine ar ae ?_;refine af (An @r2 @d0) ?_;refine ah ae ?_;refine af (An @lF (An @d1 (An @gf (An @j1 (An @q7 @q5))))) ?_;refine ah ae ?_;refine af (An @r5 (An @ch @gI)) ?_;refine aO ae ?_;exact(⟨rfl,rfl⟩)
     obtain⟨w,H',h,rfl,rfl⟩:=key;exact⟨_,_,h,by rw[Ri (.inl ht) hs];exact⟨_,eU,(kp bz k2).snoc (kD.ax bz.1 fun b hb hn=>⟨hb,bz.2 b hn⟩)⟩,bz⟩
    |true=>
     rw[ht]at q5;obtain⟨at_,w⟩:=a;obtain rfl:at_=true:=ht;have hm:m=[iN 1,iN 0,.str w,.ao,.ao]:=by
      cases k4 with
      |text s h=>rfl
     subst hm;have hw:(w++s).length<=200000:=by
      rw[AD,uE]at hb;simp only[List.length_append]at hb ⊢;omega
     have gb:bX .add (.str w) (.str s)=some (.str (w++s)):=eT (by rw[List.length_append]at hw;omega);obtain⟨bb,H5,j1,j2,j3,j4,j5,j6,j7,j8⟩:=CT hS wP (x:=[iN 1,iN 0,.str (w++s),.ao,.ao]) rfl rfl;have q7:aq (H2.get bb) (C'.length*5) 1=some [iN 1]:=uz j4 (by decide) rfl;have q8:aq (H2.get bb) (C'.length*5+2) 1=some [.str w]:=lx (i:=2) (m:=1) j4 (by decide);generalize bO:(C'++[[iN 1,iN 0,.str w,.ao,.ao]]).length=cl at lF d1 gf;have key:∃w' H',aj ak lf (n+1) 375 [v,.agg [iN 1,iN 0,.str s,.ao,.ao]] H=some (w',H')/\w'=v1/\H'=H5:=by
      refine cx yC.1 ?_;refine af (An @ay (An @ha (An @r0 @r2))) ?_;refine ar ae ?_;refine af (An @r2 @d0) ?_;refine ah ae ?_;refine af (An @lF (An @d1 (An @gf (An @j1 @q7)))) ?_;refine ar ae ?_;refine af ae ?_;refine dG rfl ?_;refine af (An @lF (An @gf (An @j1 (An @q8 (An @r2 (An @gb @j5)))))) ?_;refine dB ?_ ?_
      ·exact dh (An @lF (An @gf (An @j1 (An @q8 @r2))))
      ·refine af ae ?_;refine aO ae ?_;exact(⟨rfl,rfl⟩)
     obtain⟨w',H',h,rfl,rfl⟩:=key;have bm:Ext H H':=⟨by rw[j6];exact aF.1,fun b hb=>(j7 b om).trans (aF.2 b hb)⟩;exact⟨_,_,h,by rw[Rj hs];exact⟨_,j8.ro (fun b hb=>hp b om) (dq.snoc (fun y hy=>wP y (by simp[hy])) rfl),(kp bm k3).snoc (.text _ (by simp[hs]))⟩,bm⟩
 ·have h5:=kD.len;have KT:=kD.one;obtain⟨v1,H1,H2,v2,H3,H4,ay,ha,aF,bB,hS,ch,gI,bz,eU⟩:=VX k1 bV (c:=[iN k,iN g,.str t,kv,av]) rfl KT hp om;have r0:aq (H2.get H.next) 0 1=some [iN k]:=by rw[bB];rfl
  have r5:aq (H2.get H.next) 0 5=some [iN k,iN g,.str t,kv,av]:=by rw[bB];rfl
  have d0:decide (((k:Nat):Int)=((1:Nat):Int))=false:=df;have key:∃w H',aj ak lf (n+1) 375 [v,.agg [iN k,iN g,.str t,kv,av]] H=some (w,H')/\w=v2/\H'=H4:=by
   refine cx yC.1 ?_;refine af (An @ay (An @ha (An @r0 @d0))) ?_;refine ah ae ?_;refine af (An @r5 (An @ch @gI)) ?_;refine aO ae ?_;exact(⟨rfl,rfl⟩)
  obtain⟨w,H',h,rfl,rfl⟩:=key;exact⟨_,_,h,by rw[Rm hf];exact⟨_,eU,(kp bz k2).snoc (kD.ax bz.1 fun b hb hn=>⟨hb,bz.2 b hn⟩)⟩,bz⟩
end
end
section
attribute [local irreducible] HD fC evalOp
theorem pD.form {ok:Nat->Prop} {H:ag} {c:List SV} {n:AN} (h:pD ok H c n):∃k g t kv av,c=[iN k,iN g,.str t,kv,av]:=by
 rcases h.cases with⟨s,e,_⟩|⟨_,_,k,g,t,kv,av,_,e⟩
 ·exact⟨1,0,s,_,_,e⟩
 ·exact⟨k,g,t,kv,av,e⟩
theorem Sl.kp {B0 e z:Nat} {H H':ag} {v:SV} {L:List (List SV)} (h:Sl B0 e z H v L) (hn:H.next<=H'.next) (hk:∀b,B0<=b->b<H.next->H'.get b=H.get b):Sl B0 e z H' v L:=by
 rcases h with h|⟨aP,b,gT,bU,rfl,hb⟩
 ·exact .inl h
 ·exact .inr ⟨aP,b,gT,by omega,rfl,(hk b gT bU).trans hb⟩
theorem NO.one {ok:Nat->Prop} {H:ag} {v:SV} {K:List AN} (h:NO ok H v K):SV.one v=true:=by obtain⟨_,q,_⟩:=h;exact q.aQ.one
theorem NO.cells {ok:Nat->Prop} {H:ag} {v:SV} {K:List AN} (h:NO ok H v K):v.cells=[v]:=by obtain⟨_,q,_⟩:=h;exact q.aQ.cells
def AC (pb:Nat) (H:ag) (d:List SV) (a:AA):Prop:=∃nv vv,d=[.bool a.1,nv,vv]/\NK pb H nv a.2.1/\NK pb H vv a.2.2
theorem AC.one {pb:Nat} {H:ag} {d:List SV} {a:AA} (h:AC pb H d a):d.all SV.one=true:=by
 obtain⟨nv,vv,rfl,h1,h2⟩:=h;have h1:=h1.no.one;have h2:=h2.no.one;simp[h1,h2];rfl
theorem Jq {pb:Nat} {H:ag} {C:List (List SV)} {A:List AA} (h:bG (AC pb H) C A):C.flatten.all SV.one=true:=by
 rw[List.all_eq_true];intro x hx;obtain⟨c,hc,hx⟩:=List.mem_flatten.1 hx;obtain⟨e,_,he⟩:=h.vD c hc;have:=he.one;rw[List.all_eq_true]at this;exact this x hx
theorem AC.ax {pb:Nat} {H H':ag} {d:List SV} {a:AA} (h:AC pb H d a) (hE:cf pb H H'):AC pb H' d a:=by
 obtain⟨nv,vv,e,h1,h2⟩:=h;exact⟨nv,vv,e,h1.ax hE,h2.ax hE⟩
theorem iw {H:ag} {zs cs:List SV} {ty:TypeId} {z:Nat} (hz:zs.length=z) (hc:cs.length=z) (bV:cs.all SV.one=true):
 ∃H',c7 z (.ptr H.next 0) cs (H.push (.row zs ty true false 0))=some H'/\Ext H H'/\H'.next=H.next+1/\H'.get H.next=some (.row cs ty true false 0):=by
 refine⟨(H.push (.row zs ty true false 0)).put H.next (.row cs ty true false 0),?_,((Ext.refl H).push _).put (Nat.le_refl _) _,rfl,bT _ _⟩;rw[iL hc,iq,bd,im om (Nat.zero_le _) bV];rw[List.take_zero,List.nil_append,List.drop_of_length_le om,List.append_nil]
section
variable {lf n:Nat} {H:ag}
theorem ajA {pb:Nat} {e:AE} {r:List AE} {c:List SV} {nd:AN} (h:PK pb H (e::r)) (hc:pD (fun b=>pb<b) H c nd) (hb:(aL e.list).length+nd.s.length<=100000) (hl:r.length<10000) (hn:2<=n) (mu:¬(e.kind=3/\e.args≠[])):
 ∃H',aj ak lf n 328 [.ptr pb 0,.agg c] H=some (.aJ [],H')/\PK pb H' ({e with list:=addN e.list nd}::r)/\cf pb H H':=by
 obtain⟨n,rfl⟩:=aN (n:=n);obtain⟨k,g,t,kv,jr,rfl⟩:=hc.form;obtain⟨H1,ay⟩:∃H1,H.push (.row [iN k,iN g,.str t,kv,jr] 301 true false 0)=H1:=⟨_,rfl⟩;have aB:Ext H H1:=by rw[<-ay];exact(Ext.refl H).push _
 have ca:H1.next=H.next+1:=by rw[<-ay];rfl
 have bP:H1.get H.next=some (.row [iN k,iN g,.str t,kv,jr] 301 true false 0):=by rw[<-ay];exact bd _
 obtain⟨c0,H2,aH,gJ,cG⟩:=yf (lf:=lf) (n:=n) h aB hl om;have hp:pb<H.next:=h.choose_spec.2.2;have bV:=gJ.one;obtain⟨tg,lv,av,rfl,jR,jg,jY⟩:=id gJ;obtain⟨H3,ez,dJ,fo,dA⟩:=iw (H:=H2) (zs:=[iN 0,iN 0,iN 0,.ao,.ao]) (ty:=341) (z:=5) rfl (cs:=[iN e.kind,iN tg,iN e.count,lv,av]) rfl bV;have aF:=aB.trans cG;have aS:=aF.trans dJ;have hq:H.next<H2.next:=by have:=cG.1;omega
 obtain⟨pn,H4,hj,vd,js⟩:=VY (lf:=lf) (n:=n) (ok:=fun b=>(pb<b/\b<H.next)\/H3.next<=b) (jg.no.ax aS.1 fun b h1 h2=>⟨.inl ⟨h1,h2⟩,aS.2 b h2⟩) (hc.ax aS.1 fun b h1 h2=>⟨.inl ⟨h1,h2⟩,aS.2 b h2⟩) (fun b h=>.inr h) hb om;have bz:=aS.trans js;have ji:=(js.2 H2.next om).trans dA;have iH:=gY (o:=3) ji vd.one (by simp) (Nat.zero_le _);obtain⟨H5,bg⟩:∃H5,H4.put H2.next (.row [iN e.kind,iN tg,iN e.count,pn,av] 341 true false 0)=H5:=⟨_,rfl⟩;have Vh:c7 1 (.ptr H2.next 3) [pn] H4=some H5:=by rw[iH,<-bg];rfl
 have bm:Ext H H5:=by rw[<-bg];exact bz.put om _
 have dw:H5.get H2.next=some (.row [iN e.kind,iN tg,iN e.count,pn,av] 341 true false 0):=by rw[<-bg];exact bT _ _
 have adL:NK pb H5 pn (addN e.list nd):=(vd.ax (by rw[<-bg];exact Nat.le_refl _) fun b h1 h2=>⟨by omega,by rw[<-bg,cI om]⟩:NO (fun b=>pb<b) H5 pn (addN e.list nd));obtain⟨H6,vp,xf,nQ⟩:=G4 (lf:=lf) (n:=n) (c:=[iN e.kind,iN tg,iN e.count,pn,av]) (e':={e with list:=addN e.list nd}) (h.ext bm) ⟨tg,pn,av,rfl,jR,adL,jY.ax bm.cq⟩ hl om;refine⟨H6,?_,xf,bm.cq.trans nQ⟩;have r0:aq (H3.get H2.next) 0 1=some [iN e.kind]:=by rw[dA];rfl
 have r3:aq (H3.get H2.next) 3 1=some [lv]:=by rw[dA];rfl
 have r4:aq (H3.get H2.next) 4 1=some [av]:=by rw[dA];rfl
 have rc:aq (H3.get H.next) 0 5=some [iN k,iN g,.str t,kv,jr]:=by rw[dJ.2 _ hq,cG.2 _ om,bP];rfl
 have rr:aq (H5.get H2.next) 0 5=some [iN e.kind,iN tg,iN e.count,pn,av]:=by rw[dw];rfl
 have hlc:=vd.cells;by_cases gg:e.kind=3
 ·have ha:e.args=[]:=by
   by_cases ha:e.args=[]
   ·exact ha
   ·exact absurd ⟨gg,ha⟩ mu
  have d0:decide (((e.kind:Nat):Int)=((3:Nat):Int))=true:=by rw[gg];rfl
  have aW:kn av=some (.int .i64 ((0:Nat):Int)):=by
   obtain⟨D,q1,q2⟩:=jY;have:=q2.len;rw[ha]at this;rw[q1.aQ.cA,this];rfl
  have key:∃w H',aj ak lf (n+1) 328 [.ptr pb 0,.agg [iN k,iN g,.str t,kv,jr]] H=some (w,H')/\w=.aJ []/\H'=H6:=by
   refine cx DQ.1 ?_;refine af @ay ?_;refine ai ae aH ?_;have d1:decide (((0:Nat):Int)>((0:Nat):Int))=false:=by decide
   refine af (An @ez (An @r0 (An @d0 (An @r4 (An @aW @d1))))) ?_;refine ah ae ?_;refine af (An @r3 @rc) ?_;refine ai ae hj ?_;refine af (An @hlc (An @Vh @rr)) ?_;refine ai ae vp ?_;refine af ae ?_;refine cF bQ ?_;exact(⟨rfl,rfl⟩)
  obtain⟨w,H',h,rfl,rfl⟩:=key;exact h
 ·have d0:decide (((e.kind:Nat):Int)=((3:Nat):Int))=false:=df;have key:∃w H',aj ak lf (n+1) 328 [.ptr pb 0,.agg [iN k,iN g,.str t,kv,jr]] H=some (w,H')/\w=.aJ []/\H'=H6:=by
   refine cx DQ.1 ?_;refine af @ay ?_;refine ai ae aH ?_;refine af (An @ez (An @r0 @d0)) ?_;refine ah ae ?_;refine af (An @r3 @rc) ?_;refine ai ae hj ?_;refine af (An @hlc (An @Vh @rr)) ?_;refine ai ae vp ?_;refine af ae ?_;refine cF bQ ?_;exact(⟨rfl,rfl⟩)
  obtain⟨w,H',h,rfl,rfl⟩:=key;exact h
theorem ajz {pb:Nat} {e:AE} {r:List AE} {c:List SV} {nd:AN} {A:List AA} {a:AA} (h:PK pb H (e::r)) (hc:pD (fun b=>pb<b) H c nd) (gg:e.kind=3) (hA:e.args=A++[a]) (fP:A.length<100000) (hb:(aL a.2.2).length+nd.s.length<=100000) (hl:r.length<10000) (hn:2<=n):
 ∃H',aj ak lf n 328 [.ptr pb 0,.agg c] H=some (.aJ [],H')/\PK pb H' ({e with args:=A++[(a.1,a.2.1,addN a.2.2 nd)]}::r)/\cf pb H H':=by
 obtain⟨n,rfl⟩:=aN (n:=n);obtain⟨k,g,t,kv,jr,rfl⟩:=hc.form;obtain⟨H1,ay⟩:∃H1,H.push (.row [iN k,iN g,.str t,kv,jr] 301 true false 0)=H1:=⟨_,rfl⟩;have aB:Ext H H1:=by rw[<-ay];exact(Ext.refl H).push _
 have ca:H1.next=H.next+1:=by rw[<-ay];rfl
 have bP:H1.get H.next=some (.row [iN k,iN g,.str t,kv,jr] 301 true false 0):=by rw[<-ay];exact bd _
 obtain⟨c0,H2,aH,gJ,cG⟩:=yf (lf:=lf) (n:=n) h aB hl om;have hp:pb<H.next:=h.choose_spec.2.2;have bV:=gJ.one;obtain⟨tg,lv,av,rfl,jR,jg,jY⟩:=id gJ;obtain⟨H3,ez,dJ,fo,dA⟩:=iw (H:=H2) (zs:=[iN 0,iN 0,iN 0,.ao,.ao]) (ty:=341) (z:=5) rfl (cs:=[iN e.kind,iN tg,iN e.count,lv,av]) rfl bV;have aF:=aB.trans cG;have aS:=aF.trans dJ;have hq:H.next<H2.next:=by have:=cG.1;omega
 obtain⟨D,q1,q2⟩:=jY;have q2:bG (AC pb H) D e.args:=q2;rw[hA]at q2;have K2:=Jq q2;have wU:=q2.len;rw[List.length_append,List.length_singleton]at wU;obtain⟨D',d,rfl,q3,q4⟩:=q2.Ig;have K1:=q3.len;have sE:=q4.one;obtain⟨nv,vv,rfl,q5,q6⟩:=q4;obtain⟨w1,H4,ha,js,lC⟩:=yK (q1.aQ.ax aS) K2 om 331 56 om;obtain⟨bb,_,j1,j2,j3,j4,_⟩:=CT lC q1.1 (x:=[.bool a.1,nv,vv]) rfl sE;obtain⟨H5,iH,mX,iG,dw⟩:=iw (H:=H4) (zs:=[.bool false,.ao,.ao]) (ty:=331) (z:=3) rfl (cs:=[.bool a.1,nv,vv]) rfl sE;have Tp:=js.trans mX;have bm:=aS.trans Tp;have hq4:=js.1;obtain⟨uJ,H6,hj,vd,nQ⟩:=VY (lf:=lf) (n:=n) (ok:=fun b=>(pb<b/\b<H.next)\/H5.next<=b) (q6.no.ax bm.1 fun b h1 h2=>⟨.inl ⟨h1,h2⟩,bm.2 b h2⟩) (hc.ax bm.1 fun b h1 h2=>⟨.inl ⟨h1,h2⟩,bm.2 b h2⟩) (fun b h=>.inr h) hb om;have cL:=bm.trans nQ;have U5:=nQ.1;have ie:=(nQ.2 H4.next om).trans dw;have sK:=gY (o:=2) ie vd.one (by simp) (Nat.zero_le _);obtain⟨H7,mg⟩:∃H7,H6.put H4.next (.row [.bool a.1,nv,uJ] 331 true false 0)=H7:=⟨_,rfl⟩;have afn:c7 1 (.ptr H4.next 2) [uJ] H6=some H7:=by rw[sK,<-mg];rfl
 have dV:Ext H H7:=by rw[<-mg];exact cL.put om _
 have FT:H7.next=H6.next:=by rw[<-mg];rfl
 have Us:∀b,b<H4.next->H7.get b=H4.get b:=fun b hb=>by rw[<-mg,cI om,nQ.2 b om,mX.2 b hb]
 have BK:Sl H3.next 331 3 H7 w1 (D'++[[.bool a.1,nv,vv]]):=lC.kp om fun b _ hb=>Us b hb
 have hx1:[SV.bool a.1,nv,uJ].all SV.one=true:=by
  have h1:=q5.no.one;have h2:=vd.one;simp[h1,h2];rfl
 obtain⟨bb',H8,i1,i2,i3,i4,i5,i6,i7,i8⟩:=CT BK q1.1 (x:=[.bool a.1,nv,uJ]) rfl hx1;obtain rfl:bb=bb':=by rw[j1]at i1;cases i1;rfl
 have mf:Ext H H8:=⟨by rw[i6];exact dV.1,fun b hb=>(i7 b om).trans (dV.2 b hb)⟩;have hk8:H8.get H2.next=some (.row [iN e.kind,iN tg,iN e.count,lv,av] 341 true false 0):=by rw[i7 _ om,Us _ om,js.2 _ om];exact dA
 have jS:SV.one w1=true:=(lC.aQ q1.1).one;have M3:w1.cells=[w1]:=(lC.aQ q1.1).cells;have zO:=gY (o:=4) hk8 jS (by simp) (Nat.zero_le _);obtain⟨H9,mh⟩:∃H9,H8.put H2.next (.row [iN e.kind,iN tg,iN e.count,lv,w1] 341 true false 0)=H9:=⟨_,rfl⟩;have afp:c7 1 (.ptr H2.next 4) [w1] H8=some H9:=by rw[zO,<-mh];rfl
 have jH:Ext H H9:=by rw[<-mh];exact mf.put om _
 have UI:H9.next=H6.next:=by rw[<-mh];exact i6.trans FT
 have adM:NK pb H9 uJ (addN a.2.2 nd):=(vd.ax om fun b h1 h2=>⟨by omega,by rw[<-mh,cI om,i7 b om,<-mg,cI om]⟩:NO (fun b=>pb<b) H9 uJ (addN a.2.2 nd));have KV:dq 3 (D'++[[.bool a.1,nv,uJ]]):=dq.snoc (fun y hy=>q1.1 y (by simp[hy])) rfl;have adA:AK pb H9 w1 (A++[(a.1,a.2.1,addN a.2.2 nd)]):=⟨_,(i8.kp (H':=H9) om fun b hb dP=>by rw[<-mh,cI om]).rb om KV,(q3.imp fun _ _ h=>h.ax jH.cq).snoc ⟨nv,uJ,rfl,q5.ax jH.cq,adM⟩⟩;obtain⟨yG,vp,xf,adJ⟩:=G4 (lf:=lf) (n:=n) (c:=[iN e.kind,iN tg,iN e.count,lv,w1]) (e':={e with args:=A++[(a.1,a.2.1,addN a.2.2 nd)]}) (h.ext jH) ⟨tg,lv,w1,rfl,jR,jg.ax jH.cq,adA⟩ hl om;refine⟨yG,?_,xf,jH.cq.trans adJ⟩;have r0:aq (H3.get H2.next) 0 1=some [iN e.kind]:=by rw[dA];rfl
 have r4:aq (H3.get H2.next) 4 1=some [av]:=by rw[dA];rfl
 have rc:aq (H5.get H.next) 0 5=some [iN k,iN g,.str t,kv,jr]:=by rw[Tp.2 _ om,dJ.2 _ hq,cG.2 _ om,bP];rfl
 have r5:aq (H5.get H4.next) 2 1=some [vv]:=by rw[dw];rfl
 have r7:aq (H7.get H4.next) 0 3=some [.bool a.1,nv,uJ]:=by rw[<-mg,bT];rfl
 have rr:aq (H9.get H2.next) 0 5=some [iN e.kind,iN tg,iN e.count,lv,w1]:=by rw[<-mh,bT];rfl
 have hlc:=vd.cells;have d0:decide (((e.kind:Nat):Int)=((3:Nat):Int))=true:=by rw[gg];rfl
 have aW:=q1.aQ.cA;have zB:=(lC.aQ q1.1).cA;rw[List.length_append,List.length_singleton]at aW zB;have d1:decide (((D'.length+1:Nat):Int)>((0:Nat):Int))=true:=dt;have gf:((D'.length+1:Nat):Int)-((1:Nat):Int)=(D'.length:Int):=om;have key:∃w H',aj ak lf (n+1) 328 [.ptr pb 0,.agg [iN k,iN g,.str t,kv,jr]] H=some (w,H')/\w=.aJ []/\H'=yG:=by
  refine cx DQ.1 ?_;refine af @ay ?_;refine ai ae aH ?_;refine af (An @ez (An @r0 (An @d0 (An @r4 (An @aW @d1))))) ?_;refine ar ae ?_;refine af (An @r4 (An @ha (An @zB (An @gf (An @j1 (An @j4 (An @iH (An @r5 @rc)))))))) ?_;refine ai ae hj ?_;refine af (An @hlc (An @afn (An @zB (An @gf (An @j1 (An @r7 (An @i5 (An @M3 (An @afp @rr))))))))) ?_;refine ai ae vp ?_;refine af ae ?_;refine cF bQ ?_;exact(⟨rfl,rfl⟩)
 obtain⟨w,H',h,rfl,rfl⟩:=key;exact h
theorem ye {pb:Nat} {st:List AE} {c:List SV} {nd:AN} (aP:st≠[]) (h:PK pb H st) (hc:pD (fun b=>pb<b) H c nd) (hb:(aU st).length+nd.s.length<=90000) (hl:st.length<10000) (hn:2<=n):
 ∃H',aj ak lf n 328 [.ptr pb 0,.agg c] H=some (.aJ [],H')/\PK pb H' (fW nd st)/\cf pb H H':=by
 cases st with
 |nil=>exact absurd rfl aP
 |cons e r=>
  simp only[aU,List.length_append]at hb;rw[List.length_cons]at hl;show∃H',_/\PK pb H' (e.fg (addN · nd)::r)/\_;unfold AE.fg;split
  ·rename_i hh;obtain⟨A,a,hA⟩:=HK hh.2;have h1:=qz A;have h2:(bN A).length+(aL a.2.2).length<=(bN e.args).length:=by
    rw[hA,vT];simp only[List.length_append,bN,List.map_cons,List.map_nil,List.flatten_cons,List.flatten_nil,List.append_nil,gL,List.length_cons];omega
   rw[hA,Ae];exact ajz h hc hh.1 hA om om om hn
  ·rename_i hh;exact ajA h hc om om hn hh
end
end
end Go.Sh
