/-
  The steps of the program parser, first part. No conditions beyond those that stand in the theorems.
-/
import Derived.Test.YtfgpklidnkdahaaGreatDoorShC7
set_option linter.all false
set_option maxHeartbeats 20000000
set_option maxRecDepth 10000
namespace Go.Sh
section
def MW (own:Nat->Nat) (k e:Nat) (H:ag) (v:SV) (z:Nat) (L:List (List SV)):Prop:=
 dq z L/\((L=[]/\v=.ao)\/∃b c ex,v=.slice b 0 L.length c z/\(∀q,c=some q->q=L.length)/\(c=none->L≠[]/\ex=false)/\own b=k/\b<H.next/\H.get b=some (.row L.flatten e ex false 0))
theorem MW.rg {own:Nat->Nat} {k e:Nat} {H:ag} {v:SV} {z:Nat} {L:List (List SV)} (h:MW own k e H v z L):Rg (fun b=>own b=k) H v z L:=by
 refine⟨h.1,?_⟩;rcases h.2 with⟨h1,h2⟩|⟨b,c,ex,h1,_,_,h2,h3,h4⟩
 ·exact .inl ⟨h1,.inl h2⟩
 ·exact .inr ⟨b,c,e,ex,false,0,[],[],by simpa using h1,h2,h3,by simpa using h4⟩
theorem MW.ax {own au:Nat->Nat} {k e:Nat} {H H':ag} {v:SV} {z:Nat} {L:List (List SV)} (h:MW own k e H v z L) (hn:H.next<=H'.next) (hk:∀b,own b=k->b<H.next->au b=k/\H'.get b=H.get b):MW au k e H' v z L:=by
 refine⟨h.1,?_⟩;rcases h.2 with h|⟨b,c,ex,h1,h2,h3,h4,h5,h6⟩
 ·exact .inl h
 ·exact .inr ⟨b,c,ex,h1,h2,h3,(hk b h4 h5).1,by omega,(hk b h4 h5).2.trans h6⟩
def iW (v:SV) (b:Nat):Prop:=∃o n c z,v=.slice b o n c z
def rE (H:ag):SV->ag
 |.slice b _ _ none _=>H.put b .dead
 |_=>H
theorem Nq (H:ag) (v:SV):(rE H v).next=H.next:=by
 unfold rE;split<;>rfl
theorem Np {H:ag} {v:SV} {b:Nat} (h:¬iW v b):(rE H v).get b=H.get b:=by
 unfold rE;split
 ·rename_i b' o n z;have:b≠b':=fun e=>h ⟨o,n,none,z,by rw[e]⟩
  exact cI this
 ·rfl
theorem MW.iW {own:Nat->Nat} {k e:Nat} {H:ag} {v:SV} {z:Nat} {L:List (List SV)} (h:MW own k e H v z L) {b:Nat} (hb:iW v b):own b=k/\b<H.next/\∃cs ex,H.get b=some (.row cs e ex false 0):=by
 obtain⟨o,n,c,z',rfl⟩:=hb;rcases h.2 with⟨_,h⟩|⟨b',c',ex,h1,h2,h3,h4,h5,h6⟩
 ·cases h
 ·cases h1;exact⟨h4,h5,_,_,h6⟩
theorem MW.Ju {own:Nat->Nat} {k e z bytes b':Nat} {H:ag} {v:SV} {L:List (List SV)} {x:List SV} {e':TypeId} {l8 ro:Bool} {frz:Nat} (h:MW own k e H v z L) (hx:x.length=z) (bV:x.all SV.one=true)
 (dP:H.get b'=some (.row x e' l8 ro frz)) (hl:L.length<1000000) (qU:bytes<=1000):
 fu H false e z bytes v (.slice b' 0 1 (some 1) z)=some (.slice H.next 0 (L.length+1) none z,(rE H v).push (.row (L.flatten++x) e false false 0)):=by
 have ew:=HM (c:=some 1) hx dP;have h1:(L.length+1)*bytes<=35184372088832:=Nat.le_trans (Nat.mul_le_mul (by omega:L.length+1<=1000000) qU) (by decide);have h2:L.length+1<=35184372088832:=om;have hlen:=l9 h.1;rcases h.2 with⟨rfl,rfl⟩|⟨b,c,ex,rfl,hc,hn,_,bU,hb⟩
 ·simp only[fu,gP,ew,dR,rE];rw[dN (by simpa using h1),dN om];rfl
 ·have kJ:eK H b 0 (L.length*z)=some L.flatten:=by
   rw[ot,hb,jl om,List.drop_zero,<-hlen,List.take_length]
  cases c with
  |none=>
   obtain⟨aP,rfl⟩:=hn rfl;simp only[fu,gP,ew,dR,l0,dN h1,dN h2,kJ,hb,bV,Bool.and_self,rE];rw[dN (Nat.zero_le _)];rfl
  |some q=>
   obtain rfl:=hc q rfl;have:Nat.ble (L.length+1) L.length=false:=by
    cases hh:Nat.ble (L.length+1) L.length with
    |false=>rfl
    |true=>have:=Nat.le_of_ble_eq_true hh;omega
   simp only[fu,gP,ew,dR,l0,dN h1,dN h2,kJ,Bool.and_self,this,rE]
def eR (k:Nat) (own:Nat->Nat) (H:ag) (au:Nat->Nat) (H':ag):Prop:=H.next<=H'.next/\∀b,b<H.next->own b≠k->au b=own b/\H'.get b=H.get b
theorem eR.refl (k:Nat) (own:Nat->Nat) (H:ag):eR k own H own H:=⟨Nat.le_refl _,fun _ _ _=>⟨rfl,rfl⟩⟩
theorem eR.trans {k:Nat} {o1 o2 o3:Nat->Nat} {H1 H2 H3:ag} (h:eR k o1 H1 o2 H2) (g:eR k o2 H2 o3 H3):eR k o1 H1 o3 H3:=
 ⟨Nat.le_trans h.1 g.1,fun b hb hk=>by
  obtain⟨h1,h2⟩:=h.2 b hb hk;obtain⟨g1,g2⟩:=g.2 b (Nat.lt_of_lt_of_le hb h.1) (by rw[h1];exact hk);exact⟨g1.trans h1,g2.trans h2⟩⟩
theorem Ext.af {H H':ag} (h:Ext H H') (k:Nat) (own:Nat->Nat):eR k own H own H':=⟨h.1,fun b hb _=>⟨rfl,h.2 b hb⟩⟩
def bM (own:Nat->Nat) (H:ag) (au:Nat->Nat) (H':ag):Prop:=H.next<=H'.next/\∀b,own b=0->b<H.next->au b=0/\H'.get b=H.get b
theorem eR.bY {k:Nat} {own au:Nat->Nat} {H H':ag} (h:eR k own H au H') (hk:k≠0):bM own H au H':=
 ⟨h.1,fun b hb hn=>by
  obtain⟨h1,h2⟩:=h.2 b hn om;exact⟨h1.trans hb,h2⟩⟩
theorem bM.trans {o1 o2 o3:Nat->Nat} {H1 H2 H3:ag} (h:bM o1 H1 o2 H2) (g:bM o2 H2 o3 H3):bM o1 H1 o3 H3:=
 ⟨Nat.le_trans h.1 g.1,fun b hb hn=>by
  obtain⟨h1,h2⟩:=h.2 b hb hn;obtain⟨g1,g2⟩:=g.2 b h1 (Nat.lt_of_lt_of_le hn h.1);exact⟨g1,g2.trans h2⟩⟩
theorem bM.refl (own:Nat->Nat) (H:ag):bM own H own H:=⟨Nat.le_refl _,fun _ h _=>⟨h,rfl⟩⟩
theorem Ext.bY {H H':ag} (h:Ext H H') (own:Nat->Nat):bM own H own H':=⟨h.1,fun b hb hn=>⟨hb,h.2 b hn⟩⟩
abbrev fz (own:Nat->Nat):Nat->Prop:=fun b=>own b=0
theorem NL.bY {own au:Nat->Nat} {H H':ag} {v:SV} {K:List AN} (h:NL (fz own) H v K) (g:bM own H au H'):NL (fz au) H' v K:=h.ax g.1 g.2
theorem AL.bY {own au:Nat->Nat} {H H':ag} {v:SV} {A:List AA} (h:AL (fz own) H v A) (g:bM own H au H'):AL (fz au) H' v A:=h.ax g.1 g.2
theorem Nd.bY {own au:Nat->Nat} {H H':ag} {c:List SV} {n:AN} (h:Nd (fz own) H c n) (g:bM own H au H'):Nd (fz au) H' c n:=h.ax g.1 g.2
theorem rS.bY {own au:Nat->Nat} {H H':ag} {c:List SV} {n:AA} (h:rS (fz own) H c n) (g:bM own H au H'):rS (fz au) H' c n:=h.ax g.1 g.2
def MN (own:Nat->Nat) (k:Nat) (H:ag) (v:SV) (K:List AN):Prop:=∃C,MW own k 301 H v 5 C/\bG (Nd (fz own) H) C K
theorem MN.nil {own:Nat->Nat} {k:Nat} {H:ag}:MN own k H .ao []:=⟨[],⟨(fun _ h=>by cases h),.inl ⟨rfl,rfl⟩⟩,trivial⟩
theorem MN.ax {own au:Nat->Nat} {k:Nat} {H H':ag} {v:SV} {K:List AN} (h:MN own k H v K) (g:bM own H au H') (hk:∀b,own b=k->b<H.next->au b=k/\H'.get b=H.get b):MN au k H' v K:=by
 obtain⟨C,h1,h2⟩:=h;exact⟨C,h1.ax g.1 hk,h2.imp fun _ _ h=>h.bY g⟩
theorem MN.one {own:Nat->Nat} {k:Nat} {H:ag} {v:SV} {K:List AN} (h:MN own k H v K):SV.one v=true:=by
 obtain⟨C,h1,_⟩:=h;exact h1.rg.one
theorem MN.le {own:Nat->Nat} {k:Nat} {H:ag} {v:SV} {K:List AN} (h:MN own k H v K):K.length<=(aL K).length:=by
 obtain⟨C,_,h2⟩:=h;refine xV fun n hn=>?_
 obtain⟨c,_,hr⟩:=h2.mem n hn;exact hr.ne
theorem MN.nl {own au:Nat->Nat} {k:Nat} {H H':ag} {v:SV} {K:List AN} (h:MN own k H v K) (g:bM own H au H') (hk:∀b,own b=k->b<H.next->au b=0/\H'.get b=H.get b):NL (fz au) H' v K:=by
 obtain⟨C,h1,h2⟩:=h;exact⟨C,h1.rg.ax g.1 hk,h2.imp fun _ _ h=>h.bY g⟩
def fL (own:Nat->Nat) (k:Nat) (H:ag) (pb:Nat) (e:AE):Prop:=own pb=k/\pb<H.next/\e.count<=100000/\∃lv av,H.get pb=some (.row [iN e.kind,iN e.tag,iN e.count,lv,av] 289 true false 0)/\
 ((e.args=[]/\av=.ao/\MN own k H lv e.list)\/
  ∃D A a nv vv,e.kind=3/\e.args=A++[a]/\NL (fz own) H lv e.list/\MW own k 331 H av 3 (D++[[.bool a.1,nv,vv]])/\bG (rS (fz own) H) D A/\NL (fz own) H nv a.2.1/\MN own k H vv a.2.2)
theorem fL.ax {own au:Nat->Nat} {k:Nat} {H H':ag} {pb:Nat} {e:AE} (h:fL own k H pb e) (g:bM own H au H') (hk:∀b,own b=k->b<H.next->au b=k/\H'.get b=H.get b):fL au k H' pb e:=by
 obtain⟨h1,h2,h3,lv,av,h4,h5⟩:=h;refine⟨(hk pb h1 h2).1,Nat.lt_of_lt_of_le h2 g.1,h3,lv,av,(hk pb h1 h2).2.trans h4,?_⟩;rcases h5 with⟨a1,a2,a3⟩|⟨D,A,a,nv,vv,a1,a2,a3,a4,a5,a6,a7⟩
 ·exact .inl ⟨a1,a2,a3.ax g hk⟩
 ·exact .inr ⟨D,A,a,nv,vv,a1,a2,a3.bY g,a4.ax g.1 hk,a5.imp fun _ _ h=>h.bY g,a6.bY g,a7.ax g hk⟩
theorem fL.af {own au:Nat->Nat} {k k':Nat} {H H':ag} {pb:Nat} {e:AE} (h:fL own k H pb e) (g:eR k' own H au H') (h0:k'≠0) (hk:k≠k'):fL au k H' pb e:=
 h.ax (g.bY h0) fun b hb hn=>by
  obtain⟨h1,h2⟩:=g.2 b hn om;exact⟨h1.trans hb,h2⟩
def oO (own:Nat->Nat) (H:ag):List Nat->List AE->Prop
 |[],[]=>True
 |p::ps,e::r=>fL own (r.length+2) H p e/\oO own H ps r
 |_,_=>False
theorem oO.len {own:Nat->Nat} {H:ag}:∀{ps:List Nat} {st:List AE},oO own H ps st->ps.length=st.length
 |[],[],_=>rfl
 |p::ps,e::r,h=>by rw[List.length_cons,List.length_cons,oO.len h.2]
theorem oO.af {own au:Nat->Nat} {k':Nat} {H H':ag} (g:eR k' own H au H') (h0:k'≠0):∀{ps:List Nat} {st:List AE},oO own H ps st->(k'=1\/st.length+2<=k')->oO au H' ps st
 |[],[],_,_=>trivial
 |p::ps,e::r,h,hk=>⟨h.1.af g h0 (by simp only[List.length_cons]at hk;omega),oO.af g h0 h.2 (by simp only[List.length_cons]at hk;omega)⟩
theorem oO.get {own:Nat->Nat} {H:ag}:∀{ps:List Nat} {st:List AE} {i:Nat} {e:AE},oO own H ps st->st[i]? =some e->∃p,ps[i]? =some p/\fL own (st.length-i+1) H p e
 |[],[],i,e,_,h=>by simp at h
 |p::ps,e'::r,0,e,h,he=>by
  cases he;exact⟨p,rfl,by simpa using h.1⟩
 |p::ps,e'::r,i+1,e,h,he=>by
  obtain⟨q,h1,h2⟩:=oO.get (i:=i) h.2 (by simpa using he);exact⟨q,by simpa using h1,by rw[List.length_cons,Nat.add_sub_add_right];exact h2⟩
def oF (ps:List Nat):List SV:=(ps.map fun p=>SV.ptr p 0).reverse
def iM (own:Nat->Nat) (H:ag) (sv:SV) (ps:List Nat):Prop:=∃b c cs ex,sv=.slice b 0 ps.length c 1/\(∀q,c=some q->q=1/\ps.length=1)/\(c=none->ex=false)/\own b=1/\b<H.next/\H.get b=some (.row cs 286 ex false 0)/\cs.take ps.length=oF ps
theorem iM.ax {own au:Nat->Nat} {H H':ag} {sv:SV} {ps:List Nat} (h:iM own H sv ps) (hn:H.next<=H'.next) (hk:∀b,own b=1->b<H.next->au b=1/\H'.get b=H.get b):iM au H' sv ps:=by
 obtain⟨b,c,cs,ex,h1,h2,h3,h4,h5,h6,h7⟩:=h;exact⟨b,c,cs,ex,h1,h2,h3,(hk b h4 h5).1,by omega,(hk b h4 h5).2.trans h6,h7⟩
def PS (own:Nat->Nat) (H:ag) (p:Nat) (st:List AE):Prop:=own p=1/\p<H.next/\(∀b,H.next<=b->own b=0)/\∃sv ps,H.get p=some (.row [sv] 292 true false 0)/\iM own H sv ps/\oO own H ps st
theorem PS.ext {own:Nat->Nat} {H H':ag} {p:Nat} {st:List AE} (h:PS own H p st) (hE:Ext H H'):PS own H' p st:=by
 obtain⟨h1,h2,h3,sv,ps,h4,h5,h6⟩:=h;exact⟨h1,Nat.lt_of_lt_of_le h2 hE.1,fun b hb=>h3 b (Nat.le_trans hE.1 hb),sv,ps,(hE.2 p h2).trans h4,h5.ax hE.1 fun b hb hn=>⟨hb,hE.2 b hn⟩,h6.af (hE.af 1 own) (by decide) (.inl rfl)⟩
theorem alW {e:AE} (h:e.args=[]) (f:List AN->List AN):e.fg f={e with list:=f e.list}:=by
 unfold AE.fg;rw[if_neg (fun hh=>hh.2 h)]
theorem alV {e:AE} {A:List AA} {a:AA} (h3:e.kind=3) (h:e.args=A++[a]) (f:List AN->List AN):e.fg f={e with args:=A++[(a.1,a.2.1,f a.2.2)]}:=by
 unfold AE.fg;rw[if_pos ⟨h3,by rw[h];simp⟩,h,Ae]
theorem MW.last {own:Nat->Nat} {k e z:Nat} {H:ag} {v:SV} {L:List (List SV)} {x:List SV} (h:MW own k e H v z (L++[x])):
 ∃b c ex,v=.slice b 0 (L.length+1) c z/\own b=k/\b<H.next/\H.get b=some (.row (L.flatten++x) e ex false 0)/\(∀q,c=some q->q=L.length+1)/\(c=none->ex=false)/\L.flatten.length=L.length*z/\x.length=z:=by
 rcases h.2 with⟨h1,_⟩|⟨b,c,ex,h1,h2,h3,h4,h5,h6⟩
 ·simp at h1
 ·refine⟨b,c,ex,by simpa using h1,h4,h5,by simpa using h6,by simpa using h2,fun hc=>(h3 hc).2,l9 fun y hy=>h.1 y (List.mem_append_left _ hy),h.1 x (by simp)⟩
theorem MW.C3 {own:Nat->Nat} {k e z b:Nat} {H:ag} {L:List (List SV)} {x:List SV} {c:Option Nat} {ex:Bool} (hL:dq z L) (hx:x.length=z) (hc:∀q,c=some q->q=L.length+1) (hn:c=none->ex=false) (ho:own b=k) (hb:b<H.next) (hg:H.get b=some (.row (L.flatten++x) e ex false 0)):
 MW own k e H (.slice b 0 (L.length+1) c z) z (L++[x]):=
 ⟨hL.app fun y hy=>by rw[List.mem_singleton.1 hy];exact hx,.inr ⟨b,c,ex,by simp,by simpa using hc,fun h=>⟨by simp,hn h⟩,ho,hb,by simpa using hg⟩⟩
theorem akm {D:List SV} {a b c v:SV} {n:Nat} (h:D.length=n*3):(D++[a,b,c]).set (n*3+2) v=D++[a,b,v]:=by
 rw[List.set_append_right _ _ om];have:n*3+2-D.length=2:=om;rw[this];rfl
theorem fL.focus {own:Nat->Nat} {k:Nat} {H:ag} {pb:Nat} {e:AE} (h:fL own k H pb e):∃b o v K cs ty ex lv av,own b=k/\b<H.next/\H.get b=some (.row cs ty ex false 0)/\cs[o]? =some v/\MN own k H v K/\ty≠301/\
 pb<H.next/\H.get pb=some (.row [iN e.kind,iN e.tag,iN e.count,lv,av] 289 true false 0)/\kn av=some (.int .i64 (e.args.length:Int))/\
 ((e.args=[]/\b=pb/\o=3)\/∃m:Nat,e.kind=3/\e.args.length=m+1/\kN 3 av (.int .i64 (m:Int))=some (.ptr b (m*3))/\o=m*3+2)/\
 (aL K).length<=(aL e.list++bN e.args).length/\
 ∀au H' v' f,MN au k H' v' (f K)->H'.get b=some (.row (cs.set o v') ty ex false 0)->bM own H au H'->(∀c,c<H.next->own c=k->¬iW v c->au c=k/\(c≠b->H'.get c=H.get c))->fL au k H' pb (e.fg f):=by
 obtain⟨h1,h2,h3,lv,av,h4,h5⟩:=h;rcases h5 with⟨a1,rfl,a3⟩|⟨D,A,a,nv,vv,a1,a2,a3,a4,a5,a6,a7⟩
 ·refine⟨pb,3,lv,e.list,_,_,_,lv,.ao,h1,h2,h4,rfl,a3,by decide,h2,h4,by rw[a1];rfl,.inl ⟨a1,rfl,rfl⟩,by simp,?_⟩;intro au H' v' f hm hg hP hk;have vl:¬iW lv pb:=fun hi=>by
   obtain⟨C,hC,_⟩:=a3;obtain⟨_,_,cs,ex,e1⟩:=hC.iW hi;rw[h4]at e1;cases e1
  rw[alW a1];exact⟨(hk pb h2 h1 vl).1,Nat.lt_of_lt_of_le h2 hP.1,h3,v',.ao,hg,.inl ⟨a1,rfl,hm⟩⟩
 ·obtain⟨b,c,ex,rfl,g1,g2,g3,g4,g5,g6,g7⟩:=a4.last;have wT:=a5.len;have hl:e.args.length=D.length+1:=by rw[a2];simp[wT]
  refine⟨b,D.length*3+2,vv,a.2.2,_,331,ex,lv,_,g1,g2,g3,?_,a7,by decide,h2,h4,by rw[hl];rfl,.inr ⟨D.length,a1,hl,?_,rfl⟩,?_,?_⟩
  ·rw[List.getElem?_append_right om];have:D.length*3+2-D.flatten.length=2:=om;rw[this];rfl
  ·have:=qh (z:=3) (b:=b) (o:=0) (n:=D.length+1) (c:=c) (kk:=.i64) (i:=(D.length:Int)) om om;rw[this,Nat.zero_add];rfl
  ·rw[a2,vT];simp only[bN,List.map_cons,List.map_nil,List.flatten_cons,List.flatten_nil,List.append_nil,List.length_append,gL,List.length_cons];omega
  ·intro au H' v' f hm hg hP hk;have vl:∀q cs ty ex,H.get q=some (.row cs ty ex false 0)->ty≠301->¬iW vv q:=fun q cs ty ex hq ht hi=>by
    obtain⟨C,hC,_⟩:=a7;obtain⟨_,_,cs,ex,e1⟩:=hC.iW hi;rw[hq]at e1;have:=congrArg (fun o:Option cz=>match o with|some (.row _ ty _ _ _)=>ty|_=>0) e1;exact ht this
   have Cp:pb≠b:=fun e1=>by
    subst e1;rw[g3]at h4;have:=congrArg (fun o:Option cz=>match o with|some (.row _ ty _ _ _)=>ty|_=>0) h4;exact absurd (show(331:Nat)=289 from this) (by decide)
   obtain⟨k1,k2⟩:=hk pb h2 h1 (vl _ _ _ _ h4 (by decide));obtain⟨k3,_⟩:=hk b g2 g1 (vl _ _ _ _ g3 (by decide));rw[alV a1 a2];refine⟨k1,Nat.lt_of_lt_of_le h2 hP.1,h3,lv,_,(k2 Cp).trans h4,.inr ⟨D,A,_,nv,v',a1,rfl,a3.bY hP,?_,a5.imp fun _ _ h=>h.bY hP,a6.bY hP,hm⟩⟩;rw[akm g6]at hg;exact MW.C3 (fun y hy=>a4.1 y (List.mem_append_left _ hy)) rfl g4 g5 k3 (Nat.lt_of_lt_of_le g2 hP.1) hg
end
section
theorem iM.at_ {own:Nat->Nat} {H:ag} {sv:SV} {ps:List Nat} (h:iM own H sv ps) {i q:Nat} (hi:ps[i]? =some q):
 ∃b o,kN 1 sv (.int .i64 ((ps.length-1-i:Nat):Int))=some (.ptr b o)/\aq (H.get b) o 1=some [.ptr q 0]:=by
 obtain⟨b,c,cs,ex,rfl,h2,h3,h4,h5,h6,h7⟩:=h;have hlt:=(List.getElem?_eq_some_iff.1 hi).1;refine⟨b,_,qh om om,?_⟩;rw[h6,Nat.zero_add,Nat.mul_one,show((ps.length-1-i:Nat):Int).toNat=ps.length-1-i from rfl];refine nE ?_;have:(cs.take ps.length)[ps.length-1-i]? =some (.ptr q 0):=by
  rw[h7,oF,List.getElem?_reverse (by simp;omega),List.getElem?_map,List.length_map,show ps.length-1-(ps.length-1-i)=i by omega,hi];rfl
 rw[List.getElem?_take]at this;split at this
 ·exact this
 ·cases this
theorem iM.cA {own:Nat->Nat} {H:ag} {sv:SV} {ps:List Nat} (h:iM own H sv ps):kn sv=some (.int .i64 (ps.length:Int)):=by
 obtain⟨b,c,cs,ex,rfl,_⟩:=h;rfl
theorem iM.bq {own:Nat->Nat} {H:ag} {sv:SV} {ps:List Nat} (h:iM own H sv ps):bD sv sv=true:=by
 obtain⟨b,c,cs,ex,rfl,_⟩:=h;exact uT _ _ _ _ _
section
variable {lf n:Nat} {H:ag} {own:Nat->Nat}
theorem vX {p:Nat} {sv:SV} {pb:Nat} {ps:List Nat} (hp:H.get p=some (.row [sv] 292 true false 0)) (hs:iM own H sv (pb::ps)) (hl:ps.length<100000) (hn:1<=n):aj ak lf n 202 [.ptr p 0] H=some (.ptr pb 0,H):=by
 obtain⟨n,rfl⟩:=aN (n:=n);have key:∃w H',aj ak lf (n+1) 202 [.ptr p 0] H=some (w,H')/\w=.ptr pb 0/\H'=H:=by
  have r0:aq (H.get p) 0 1=some [sv]:=by rw[hp];rfl
  obtain⟨b,o,hi,hr⟩:=hs.at_ (i:=0) (q:=pb) rfl;have aW:=hs.cA;have hb:=hs.bq;have hw:((ps.length+1:Nat):Int)-((1:Nat):Int)=(ps.length:Int):=om;rw[List.length_cons,Nat.add_sub_cancel,Nat.sub_zero]at hi;rw[List.length_cons]at aW;refine cx Iz.1 ?_;refine af (An @r0 (An @aW (An @hw (An @hi @hr)))) ?_;refine Eb (v:=sv) (by simp only[go_sem,r0];exact rfl) hb (by simp only[List.set_cons_zero,List.set_cons_succ];with_reducible rfl) ?_;refine af (An @r0 (An @aW (An @hw (An @hi @hr)))) ?_;refine Eb (v:=sv) (by simp only[go_sem,r0];exact rfl) hb (by simp only[List.set_cons_zero,List.set_cons_succ];with_reducible rfl) ?_;refine af (An @r0 (An @aW (An @hw (An @hi @hr)))) ?_;refine aO ae ?_;exact(⟨rfl,rfl⟩)
 obtain⟨w,H',h,rfl,rfl⟩:=key;exact h
theorem Sq {pb b o:Nat} {e:AE} {lv av:SV} (hg:H.get pb=some (.row [iN e.kind,iN e.tag,iN e.count,lv,av] 289 true false 0)) (ha:kn av=some (.int .i64 (e.args.length:Int))) (hl:e.args.length<1000000)
 (hc:(e.args=[]/\b=pb/\o=3)\/∃m:Nat,e.kind=3/\e.args.length=m+1/\kN 3 av (.int .i64 (m:Int))=some (.ptr b (m*3))/\o=m*3+2) (hn:1<=n):
 aj ak lf n 345 [.ptr pb 0] H=some (.ptr b o,H):=by
 obtain⟨n,rfl⟩:=aN (n:=n);have key:∃w H',aj ak lf (n+1) 345 [.ptr pb 0] H=some (w,H')/\w=.ptr b o/\H'=H:=by
  have r0:aq (H.get pb) 0 1=some [iN e.kind]:=by rw[hg];rfl
  have r4:aq (H.get pb) 4 1=some [av]:=by rw[hg];rfl
  rcases hc with⟨h1,rfl,rfl⟩|⟨m,h1,h2,h3,rfl⟩
  ·rw[h1]at ha;have d0:decide (((0:Nat):Int)>((0:Nat):Int))=false:=by decide
   rw[List.length_nil]at ha;refine cx DV.1 ?_;by_cases h3:e.kind=3
   ·have d3:decide (((e.kind:Nat):Int)=((3:Nat):Int))=true:=by rw[h3];decide
    refine af (An @r0 (An @r4 (An @ha (An @d3 @d0)))) ?_;refine ah ae ?_;refine af ae ?_;refine aO ae ?_;exact(⟨rfl,rfl⟩)
   ·have d3:decide (((e.kind:Nat):Int)=((3:Nat):Int))=false:=df;refine af (An @r0 (An @r4 (An @ha (An @d3 @d0)))) ?_;refine ah ae ?_;refine af ae ?_;refine aO ae ?_;exact(⟨rfl,rfl⟩)
  ·have d3:decide (((e.kind:Nat):Int)=((3:Nat):Int))=true:=by rw[h1];decide
   rw[h2]at ha;have d0:decide (((m+1:Nat):Int)>((0:Nat):Int))=true:=dt;have hw:((m+1:Nat):Int)-((1:Nat):Int)=(m:Int):=om;refine cx DV.1 ?_;refine af (An @r0 (An @r4 (An @ha (An @d3 @d0)))) ?_;refine ar ae ?_;refine af (An @r4 (An @hw @h3)) ?_;refine aO ae ?_;exact(⟨rfl,rfl⟩)
 obtain⟨w,H',h,rfl,rfl⟩:=key;exact h
end
end
section
theorem dq.snoc {z:Nat} {L:List (List SV)} {x:List SV} (h:dq z L) (hx:x.length=z):dq z (L++[x]):=h.app fun y hy=>by rw[List.mem_singleton.1 hy];exact hx
theorem bG.snoc {α β:Type} {R:α->β->Prop} {xs:List α} {ys:List β} {a:α} {b:β} (h:bG R xs ys) (hr:R a b):bG R (xs++[a]) (ys++[b]):=bG.app h ⟨hr,trivial⟩
theorem bG.Ig {α β:Type} {R:α->β->Prop} {xs:List α} {ys:List β} {b:β} (h:bG R xs (ys++[b])):∃oM a,xs=oM++[a]/\bG R oM ys/\R a b:=by
 have hl:=h.len;have aP:xs≠[]:=by intro e;rw[e]at hl;simp at hl
 obtain⟨oM,a,rfl⟩:=HK aP;have lg:oM.length=ys.length:=by simp at hl;omega
 refine⟨oM,a,rfl,?_,?_⟩
 ·have:=h.take oM.length;simpa[lg]using this
 ·have:=h.drop oM.length;rw[List.drop_left,lg,List.drop_left]at this;exact this.1
def mI (own:Nat->Nat) (b k:Nat):Nat->Nat:=fun q=>if q=b then k else own q
theorem xS (own:Nat->Nat) (b k:Nat):mI own b k b=k:=if_pos rfl
theorem mJ {own:Nat->Nat} {b k q:Nat} (h:q≠b):mI own b k q=own q:=if_neg h
theorem akn {l:List SV} {i:Nat} {v:SV} (h:l[i]? =some v):l.set i v=l:=by
 refine List.ext_getElem? fun j=>?_
 rw[List.getElem?_set];split
 ·rename_i e;subst e;rw[if_pos (List.getElem?_eq_some_iff.1 h).1,h]
 ·rfl
theorem fL.add {own:Nat->Nat} {k:Nat} {H:ag} {pb:Nat} {e:AE} {x:List SV} {nd:AN} (h:fL own k H pb e) (h0:k≠0) (hz:∀q,H.next<=q->own q=0) (hx:Nd (fz own) H x nd) (hb:(aL e.list++bN e.args).length<=100000) {zs:List SV} (hzl:zs.length=5) (qf:zs.all SV.one=true):
 ∃b o v K lv av H2 H3 H4,H.get pb=some (.row [iN e.kind,iN e.tag,iN e.count,lv,av] 289 true false 0)/\kn av=some (.int .i64 (e.args.length:Int))/\e.args.length<=100000/\
  ((e.args=[]/\b=pb/\o=3)\/∃m:Nat,e.kind=3/\e.args.length=m+1/\kN 3 av (.int .i64 (m:Int))=some (.ptr b (m*3))/\o=m*3+2)/\
  b<H.next/\aq (H.get b) o 1=some [v]/\kn v=some (.int .i64 (K.length:Int))/\K.length<=100000/\bD v v=true/\
  (∀(i:Nat) (x:AN),K[i]? =some x->∃c bb oo,kN 5 v (.int .i64 (i:Int))=some (.ptr bb oo)/\aq (H.get bb) oo 5=some c/\Nd (fz own) H c x)/\
  fu (H.push (.row zs 301 true false 0)) false 301 5 80 v (.slice H.next 0 1 (some 1) 5)=some (.slice (H.next+1) 0 (K.length+1) none 5,H2)/\
  c7 5 (.ptr (H.next+1) (K.length*5)) x H2=some H3/\c7 1 (.ptr b o) [.slice (H.next+1) 0 (K.length+1) none 5] H3=some H4/\
  (∀f,f K=K++[nd]->fL (mI own (H.next+1) k) k H4 pb (e.fg f))/\eR k own H (mI own (H.next+1) k) H4/\H4.next=H.next+2/\
  (∀(K':List AN) (w s:List Nat),K=K'++[⟨true,w⟩]->w++s≠[]->∃lb H',kN 5 v (.int .i64 (K'.length:Int))=some (.ptr lb (K'.length*5))/\aq (H.get lb) (K'.length*5) 5=some [iN 1,iN 0,.str w,.ao,.ao]/\
   c7 1 (.ptr lb (K'.length*5+2)) [.str (w++s)] H=some H'/\(∀f,f K=K'++[⟨true,w++s⟩]->fL own k H' pb (e.fg f))/\eR k own H own H'/\H'.next=H.next)/\(aL K).length<=(aL e.list++bN e.args).length:=by
 obtain⟨b,o,v,K,cs,ty,ex,lv,av,f1,f2,f3,f4,⟨C,f5,f6⟩,f7,f8,f9,f10,f11,f12,f13⟩:=h.focus;obtain⟨H1,ay⟩:∃H1,H.push (.row zs 301 true false 0)=H1:=⟨_,rfl⟩;have aB:Ext H H1:=by rw[<-ay];exact(Ext.refl H).push _
 have ca:H1.next=H.next+1:=by rw[<-ay];rfl
 have gW:H1.get H.next=some (.row zs 301 true false 0):=by rw[<-ay];exact bd _
 have sj:=f6.len;have zg:K.length<=100000:=by
  have:=MN.le ⟨C,f5,f6⟩;omega
 have Lq:MW own k 301 H1 v 5 C:=f5.ax aB.1 fun q hq hn=>⟨hq,aB.2 q hn⟩
 have ju:=Lq.Ju (bytes:=80) hzl qf gW om (by decide);rw[ca,sj]at ju;obtain⟨H2,aY⟩:∃H2,(rE H1 v).push (.row (C.flatten++zs) 301 false false 0)=H2:=⟨_,rfl⟩;have kc:=Nq H1 v;have dc:H2.next=H.next+2:=by rw[<-aY,dZ,kc,ca]
 have qW:C.flatten.length=K.length*5:=by rw[l9 f5.1,sj]
 have bB:H2.get (H.next+1)=some (.row (C.flatten++zs) 301 false false 0):=by
  rw[<-aY];exact E0 (by rw[kc];omega) (by rw[kc];omega)
 have hold:∀q,q<H.next->¬iW v q->H2.get q=H.get q:=fun q hq hi=>by
  rw[<-aY,cU (by rw[kc];omega),Np hi,aB.2 q hq]
 rw[ay];have ez:c7 5 (.ptr (H.next+1) (K.length*5)) x H2=some (H2.put (H.next+1) (.row (C.flatten++x) 301 false false 0)):=by
  rw[iL hx.len,iq,bB,im (by rw[hx.len,List.length_append,qW,hzl];omega) (Nat.zero_le _) hx.one];congr 2;rw[List.take_append_of_le_length om,List.take_of_length_le om,hx.len,List.drop_of_length_le (by rw[List.length_append,qW,hzl];omega),List.append_nil]
 obtain⟨H3,ch⟩:∃H3,H2.put (H.next+1) (.row (C.flatten++x) 301 false false 0)=H3:=⟨_,rfl⟩;rw[ch]at ez;have fo:H3.next=H.next+2:=by rw[<-ch];exact dc
 have TZ:¬iW v b:=fun hi=>by
  obtain⟨_,_,iO,l8,e1⟩:=f5.iW hi;rw[f3]at e1;have:=congrArg (fun o:Option cz=>match o with|some (.row _ ty _ _ _)=>ty|_=>0) e1;exact f7 this
 have aer:H3.get b=some (.row cs ty ex false 0):=by
  rw[<-ch,cI om,hold b f2 TZ];exact f3
 have ho:o+1<=cs.length:=(List.getElem?_eq_some_iff.1 f4).1;obtain⟨v',kh⟩:∃v',SV.slice (H.next+1) 0 (K.length+1) none 5=v':=⟨_,rfl⟩;have jx:c7 1 (.ptr b o) [v'] H3=some (H3.put b (.row (cs.set o v') ty ex false 0)):=gY aer (by rw[<-kh];rfl) ho (Nat.zero_le _);obtain⟨H4,kZ⟩:∃H4,H3.put b (.row (cs.set o v') ty ex false 0)=H4:=⟨_,rfl⟩;rw[kZ]at jx;have nY:H4.next=H.next+2:=by rw[<-kZ];exact fo
 have ji:H4.get (H.next+1)=some (.row (C.flatten++x) 301 false false 0):=by
  rw[<-kZ,cI om,<-ch];exact bT _ _
 have UT:∀q,q<H.next->q≠b->¬iW v q->H4.get q=H.get q:=fun q hq hb hi=>by
  rw[<-kZ,cI hb,<-ch,cI om,hold q hq hi]
 have hS:eR k own H (mI own (H.next+1) k) H4:=by
  refine⟨by omega,fun q hq hk=>⟨mJ om,UT q hq (fun e1=>hk (by rw[e1];exact f1)) fun hi=>hk (f5.iW hi).1⟩⟩
 have hP:=hS.bY h0;refine⟨b,o,v,K,lv,av,H2,H3,H4,f9,f10,?_,f11,f2,?_,?_,zg,f5.rg.bq,?_,?_,ez,by rw[kh];exact jx,?_,hS,nY,?_,f12⟩
 ·have:=qz e.args;rw[List.length_append]at hb;omega
 ·rw[f3];exact nE f4
 ·rw[f5.rg.cA,sj]
 ·intro i y hy;have hi:i<C.length:=by rw[sj];exact(List.getElem?_eq_some_iff.1 hy).1
  obtain⟨bb,oo,g1,_,_,g2,_⟩:=f5.rg.at_ (List.getElem?_eq_getElem hi);exact⟨_,bb,oo,g1,g2,f6.get (List.getElem?_eq_getElem hi) hy⟩
 ·rw[ju,aY]
 ·intro f hf;refine f13 _ H4 v' f ?_ ?_ hP fun q hq hk hi=>⟨?_,fun hb=>UT q hq hb hi⟩
  ·rw[hf];refine⟨C++[x],?_,(f6.imp fun _ _ h=>h.bY hP).snoc (hx.bY hP)⟩;rw[<-kh,<-sj];exact MW.C3 f5.1 hx.len (fun q h=>(by cases h)) (fun _=>rfl) (xS ..) om ji
  ·rw[<-kZ];exact bT _ _
  ·rw[mJ om];exact hk
 ·intro K' w s hK aP;rw[hK]at f6;obtain⟨C',c,rfl,g1,g2⟩:=f6.Ig;have hc:c=[iN 1,iN 0,.str w,.ao,.ao]:=by
   cases g2 with
   |text s h=>rfl
  subst hc;obtain⟨lb,cp,l8,rfl,k1,k2,k3,k4,k5,k6,_⟩:=f5.last;have oV:=g1.len;have Gp:C'.flatten.length=K'.length*5:=by rw[k6,oV]
  have ae0:(C'.flatten++[iN 1,iN 0,.str w,.ao,.ao]).set (K'.length*5+2) (.str (w++s))=C'.flatten++[iN 1,iN 0,.str (w++s),.ao,.ao]:=by
   rw[List.set_append_right _ _ om,Gp,Nat.add_sub_cancel_left];rfl
  have eI:b≠lb:=fun e1=>by
   subst e1;exact TZ ⟨_,_,_,_,rfl⟩
  refine⟨lb,H.put lb (.row (C'.flatten++[iN 1,iN 0,.str (w++s),.ao,.ao]) 301 l8 false 0),?_,?_,?_,?_,?_,rfl⟩
  ·have:=qh (z:=5) (b:=lb) (o:=0) (n:=C'.length+1) (c:=cp) (kk:=.i64) (i:=(K'.length:Int)) om om;rw[this,Nat.zero_add];rfl
  ·rw[k3,jl (by rw[List.length_append,Gp];simp),List.drop_append,List.drop_of_length_le om,Gp,Nat.sub_self];rfl
  ·rw[gY k3 rfl (by rw[List.length_append,Gp];simp) (Nat.zero_le _),ae0]
  ·intro f hf;have mi:bM own H own (H.put lb (.row (C'.flatten++[iN 1,iN 0,.str (w++s),.ao,.ao]) 301 l8 false 0)):=⟨Nat.le_refl _,fun q hq hn=>⟨hq,cI (fun e1=>h0 (by rw[<-k1,<-e1];exact hq))⟩⟩;refine f13 own _ (.slice lb 0 (C'.length+1) cp 5) f ?_ ?_ mi fun q hq hk hi=>⟨hk,fun _=>cI fun e1=>hi (by rw[e1];exact⟨_,_,_,_,rfl⟩)⟩
   ·rw[hf];refine⟨C'++[[iN 1,iN 0,.str (w++s),.ao,.ao]],?_,(g1.imp fun _ _ h=>h.bY mi).snoc (.text _ aP)⟩;exact MW.C3 (fun y hy=>f5.1 y (List.mem_append_left _ hy)) rfl k4 k5 k1 k2 (bT _ _)
   ·rw[cI eI,f3];congr 2;exact(akn f4).symm
  ·exact⟨Nat.le_refl _,fun q hq hk=>⟨rfl,cI fun e1=>hk (by rw[e1];exact k1)⟩⟩
theorem PS.fg {own au:Nat->Nat} {H H':ag} {p pb:Nat} {ps:List Nat} {sv:SV} {e':AE} {r:List AE} (h1:own p=1) (h2:p<H.next) (h3:H.get p=some (.row [sv] 292 true false 0)) (h4:iM own H sv (pb::ps)) (h5:oO own H ps r)
 (hS:eR (r.length+2) own H au H') (he:fL au (r.length+2) H' pb e') (hz:∀q,H'.next<=q->au q=0):PS au H' p (e'::r):=by
 obtain⟨g1,g2⟩:=hS.2 p h2 om;refine⟨g1.trans h1,Nat.lt_of_lt_of_le h2 hS.1,hz,sv,pb::ps,g2.trans h3,h4.ax hS.1 fun b hb hn=>?_,he,h5.af hS om (.inr (Nat.le_refl _))⟩;obtain⟨k1,k2⟩:=hS.2 b hn om;exact⟨k1.trans hb,k2⟩
end
section
theorem Wo:∀l:List AA,ur (fun a=>(a.1,a.2.1,a.2.2)) l=l
 |[]=>rfl
 |[a]=>rfl
 |a::b::l=>by
  show a::ur _ (b::l)=_;rw[Wo (b::l)]
theorem alX (e:AE):e.fg (fun l=>l)=e:=by
 unfold AE.fg;split
 ·rw[Wo]
 ·rfl
theorem aaw (st:List AE):bI [] st=st:=by
 cases st with
 |nil=>rfl
 |cons e r=>
  show e.fg (fun l=>addN l ⟨true,[]⟩)::r=_;have:(fun l=>addN l ⟨true,[]⟩)=fun l:List AN=>l:=funext fun l=>by unfold addN;simp
  rw[this,alX]
theorem Ri {l:List AN} {m n:AN} (h:m.t=false\/n.t=false) (hs:n.s≠[]):addN (l++[m]) n=l++[m]++[n]:=by
 unfold addN;split
 ·rename_i ht;rcases h with h|h
  ·simp[h,hs]
  ·rw[h]at ht;cases ht
 ·rfl
theorem Rk {n:AN} (hs:n.s≠[]):addN [] n=[]++[n]:=by
 unfold addN;simp[hs]
theorem Rj {l:List AN} {w s:List Nat} (hs:s≠[]):addN (l++[⟨true,w⟩]) ⟨true,s⟩=l++[⟨true,w++s⟩]:=by
 unfold addN;simp[hs]
theorem Rm {l:List AN} {n:AN} (h:n.t=false):addN l n=l++[n]:=by
 unfold addN;rw[h];rfl
theorem Nd.kind {ok:Nat->Prop} {H:ag} {c:List SV} {n:AN} (h:Nd ok H c n):∃k:Nat,c[0]? =some (iN k)/\(decide ((k:Int)=((1:Nat):Int))=n.t)/\k<=6:=by
 cases h with
 |text s h=>exact⟨1,rfl,rfl,by decide⟩
 |comment s h=>exact⟨2,rfl,rfl,by decide⟩
 |sR s=>exact⟨3,rfl,rfl,by decide⟩
 |qC k hk=>rcases hk with rfl|rfl
           ·exact⟨4,rfl,rfl,by decide⟩
           ·exact⟨5,rfl,rfl,by decide⟩
 |tag g hg=>exact⟨6,rfl,rfl,by decide⟩
theorem uz {q:Option cz} {o z:Nat} {c:List SV} {v:SV} (h:aq q o z=some c) (hz:1<=z) (h0:c[0]? =some v):aq q o 1=some [v]:=by
 have:=lx (i:=0) (m:=1) h om;rw[Nat.add_zero,List.drop_zero]at this;rw[this];cases c with
 |nil=>cases h0
 |cons a c=>cases h0;rfl
theorem swapT {b c:Nat} (h:b≠c):(!Nat.beq b c)=true:=by rw[beq_false h];rfl
section
variable {lf n:Nat} {H:ag} {own:Nat->Nat}
theorem W8 {p:Nat} {e:AE} {r:List AE} {s:List Nat} (h:PS own H p (e::r)) (hb:(aU (e::r)).length+s.length<=100000) (hr:r.length<1000) (hn:2<=n):
 ∃au H',aj ak lf n 267 [.ptr p 0,.str s] H=some (.aJ [],H')/\PS au H' p (bI s (e::r))/\eR (r.length+2) own H au H':=by
 obtain⟨n,rfl⟩:=aN (n:=n);by_cases hs:s=[]
 ·subst hs;have key:∃w H',aj ak lf (n+1) 267 [.ptr p 0,.str []] H=some (w,H')/\w=.aJ []/\H'=H:=by
   have d0:decide (([]:List Nat)=[])=true:=by decide
   refine cx yz.1 ?_;refine af @d0 ?_;refine ar ae ?_;refine af ae ?_;refine gQ bQ ?_;exact(⟨rfl,rfl⟩)
  obtain⟨w,H',hc,rfl,rfl⟩:=key;exact⟨own,_,hc,by rw[aaw];exact h,eR.refl _ _ _⟩
 ·obtain⟨h1,h2,h3,sv,ps,h4,h5,h6⟩:=h
  match ps,h6 with
  |pb::ps,h6=>
  obtain⟨he,jL⟩:=h6;have fG:=jL.len;have bE:(aL e.list++bN e.args).length<=100000:=by
   simp only[aU,List.length_append]at hb ⊢;omega
  obtain⟨b,o,v,K,lv,av,H2,H3,H4,g1,g2,g3,g4,g5,g6,g7,g8,g9,g10,g11,g12,g13,g14,g15,g16,g17,g18⟩:=he.add om h3 (.text s hs) bE (zs:=[iN 0,iN 0,.str [],.ao,.ao]) rfl rfl;have iV:=vX (lf:=lf) (n:=n) h4 h5 om om;have BZ:=Sq (lf:=lf) (n:=n) g1 g2 om g4 om;have d0:decide (s=[])=false:=decide_eq_false hs;have key:∃w H',aj ak lf (n+1) 267 [.ptr p 0,.str s] H=some (w,H')/\w=.aJ []/\∃au,PS au H' p (bI s (e::r))/\eR (r.length+2) own H au H':=by
   have fin:(∀f:List AN->List AN,f=(addN · ⟨true,s⟩)->f K=K++[⟨true,s⟩])->∃au,PS au H4 p (bI s (e::r))/\eR (r.length+2) own H au H4:=fun hf=>
    ⟨mI own (H.next+1) (r.length+2),PS.fg h1 h2 h4 h5 jL g15 (g14 _ (hf _ rfl)) (fun q hq=>by rw[g16]at hq;rw[mJ om];exact h3 q om),g15⟩
   have G0:aq ((H.push (.row [iN 0,iN 0,.str [],.ao,.ao] 301 true false 0)).get b) o 1=some [v]:=by rw[cU g5];exact g6
   have ju:∀aA,evalOp (.app false 301 5 80 (.t 42) (.t 46)) aA (H.push (.row [iN 0,iN 0,.str [],.ao,.ao] 301 true false 0))=fu (H.push (.row [iN 0,iN 0,.str [],.ao,.ao] 301 true false 0)) false 301 5 80 ((X.t 42).ev aA) ((X.t 46).ev aA):=fun _=>rfl
   rcases List.eq_nil_or_concat K with hK|⟨K',m,hK⟩
   ·have nk:K.length=0:=by rw[hK];rfl
    have d1:decide (((K.length:Nat):Int)>((0:Nat):Int))=false:=by rw[nk];decide
    have tA:=g7;have Bp:=g11;have Bq:=g12;have Br:=g13;generalize K.length=kl at tA Bp Bq Br d1;refine cx yz.1 ?_;refine af @d0 ?_;refine ah ae ?_;refine af ae ?_;refine ai ae iV ?_;refine ai ae BZ ?_;refine af (An @g6 (An @tA @d1)) ?_;refine ah ae ?_;refine af ae ?_;refine dG rfl ?_;refine af (An @g6 (An @tA (An @Bp (An @Bq @Br)))) ?_;refine⟨?_,fun _=>?_,_,(by simp only[List.getLast?_cons_cons,List.getLast?_singleton];first|done|with_reducible rfl),?_⟩
    ·exact dh (An @g6 (An @G0 @g9))
    ·exact swapT om
    ·refine af ae ?_;refine cF bQ ?_;exact(⟨rfl,fin fun f hf=>by rw[hf];rw[hK];exact Rk hs⟩)
   ·have lF:K.length=K'.length+1:=by rw[hK];simp
    have d1:decide (((K.length:Nat):Int)>((0:Nat):Int))=true:=by rw[lF];simp only[decide_eq_true_eq];omega
    have gf:((K.length:Nat):Int)-((1:Nat):Int)=(K'.length:Int):=om;obtain⟨c,bb,oo,q1,q2,q3⟩:=g10 K'.length m (by rw[hK,List.concat_eq_append];simp);obtain⟨kd,q4,q5,q6⟩:=q3.kind;have q7:=uz q2 (by decide) q4;have tA:=g7;have Bp:=g11;have Bq:=g12;have Br:=g13;have p0:K.length<=100000:=g8;cases hm:m.t with
    |false=>
     rw[hm]at q5;generalize K.length=kl at tA Bp Bq Br d1 gf p0;refine cx yz.1 ?_;refine af @d0 ?_;refine ah ae ?_;refine af ae ?_;refine ai ae iV ?_;refine ai ae BZ ?_;refine af (An @g6 (An @tA (An @d1 (An @gf (An @q1 (An @q7 @q5)))))) ?_;refine ah ae ?_;refine af ae ?_;refine dG rfl ?_;refine af (An @g6 (An @tA (An @Bp (An @Bq @Br)))) ?_;refine⟨?_,fun _=>?_,_,(by simp only[List.getLast?_cons_cons,List.getLast?_singleton];first|done|with_reducible rfl),?_⟩
     ·exact dh (An @g6 (An @G0 @g9))
     ·exact swapT om
     ·refine af ae ?_;refine cF bQ ?_;exact(⟨rfl,fin fun f hf=>by rw[hf];rw[hK,List.concat_eq_append];exact Ri (.inl hm) hs⟩)
    |true=>
     rw[hm]at q5;obtain⟨mt,w⟩:=m;have hm:mt=true:=hm;subst hm;have hw:(w++s).length<=200000:=by
      have h1:(aL K).length<=(aU (e::r)).length:=by
       simp only[aU,List.length_append]at g18 ⊢;omega
      rw[hK,List.concat_eq_append,AD,uE]at h1;simp only[List.length_append]at h1 ⊢;omega
     obtain⟨lb,H',j1,j2,j3,j4,j5,j6⟩:=g17 K' w s (by rw[hK,List.concat_eq_append]) (by simp[hs]);have j7:aq (H.get lb) (K'.length*5+2) 1=some [.str w]:=lx (i:=2) (m:=1) j2 (by decide);have gb:bX .add (.str w) (.str s)=some (.str (w++s)):=eT (by rw[List.length_append]at hw;omega);rw[q1]at j1;obtain⟨rfl,rfl⟩:bb=lb/\oo=K'.length*5:=by cases j1;exact⟨rfl,rfl⟩
     generalize K.length=kl at tA d1 gf p0;refine cx yz.1 ?_;refine af @d0 ?_;refine ah ae ?_;refine af ae ?_;refine ai ae iV ?_;refine ai ae BZ ?_;refine af (An @g6 (An @tA (An @d1 (An @gf (An @q1 (An @q7 @q5)))))) ?_;refine ar ae ?_;refine af (An @g6 (An @gf (An @q1 (An @j7 (An @gb @j3))))) ?_;refine gQ bQ ?_;exact(⟨rfl,own,PS.fg h1 h2 h4 h5 jL j5 (j4 _ (by rw[hK,List.concat_eq_append];exact Rj hs)) (fun q hq=>h3 q (by rw[j6]at hq;exact hq)),j5⟩)
  obtain⟨w,H',hc,rfl,au,k1,k2⟩:=key;exact⟨au,H',hc,k1,k2⟩
end
end
section
theorem Nd.bq {ok:Nat->Prop} {H:ag} {c:List SV} {n:AN} (h:Nd ok H c n):bD (.agg c) (.agg c)=true:=by
 have hs:∀l,eF (.str l) (.str l)=true:=fun l=>by simp[eF,gG]
 have ho:∀{v:SV} {z:Nat} {L:List (List SV)},Rg ok H v z L->eF v v=true:=fun{v z L} h=>by
  rcases h.2 with⟨_,rfl|⟨b,o,c,rfl⟩⟩|⟨b,c,e,ex,ro,frz,p,q,rfl,_⟩<;>simp[eF]
 cases h with
 |text s h=>simp[bD,eg,eF,gG]
 |comment s h=>simp[bD,eg,eF,gG]
 |sR s=>simp[bD,eg,eF,gG]
 |qC k hk kv av C D K A nC vC hC hl hn hD=>simp only[bD,eg,ho hC,ho hD];simp[eF,gG]
 |tag g hg kv C K hC=>simp only[bD,eg,ho hC];simp[eF,gG]
section
variable {lf n:Nat} {H:ag} {own:Nat->Nat}
theorem W2 {p:Nat} {e:AE} {r:List AE} {c:List SV} {nd:AN} (h:PS own H p (e::r)) (hc:Nd (fz own) H c nd) (ht:nd.t=false) (hb:(aU (e::r)).length<=100000) (hr:r.length<1000) (hn:2<=n):
 ∃au H',aj ak lf n 268 [.ptr p 0,.agg c] H=some (.aJ [],H')/\PS au H' p (fW nd (e::r))/\eR (r.length+2) own H au H':=by
 obtain⟨n,rfl⟩:=aN (n:=n);obtain⟨H0,jt⟩:∃H0,H.push (.row c 301 true false 0)=H0:=⟨_,rfl⟩;have nO:Ext H H0:=by rw[<-jt];exact(Ext.refl H).push _
 have ad6:H0.get H.next=some (.row c 301 true false 0):=by rw[<-jt];exact bd _
 have kL:H0.next=H.next+1:=by rw[<-jt];rfl
 have h:=h.ext nO;have hx:=hc.bY (nO.bY own);have hS0:eR (r.length+2) own H own H0:=nO.af _ _;obtain⟨h1,h2,h3,sv,ps,h4,h5,h6⟩:=h
 match ps,h6 with
 |pb::ps,h6=>
 obtain⟨he,jL⟩:=h6;have fG:=jL.len;have bE:(aL e.list++bN e.args).length<=100000:=by
  simp only[aU,List.length_append]at hb ⊢;omega
 obtain⟨b,o,v,K,lv,av,H2,H3,H4,g1,g2,g3,g4,g5,g6,g7,g8,g9,g10,g11,g12,g13,g14,g15,g16,g17,g18⟩:=he.add om h3 hx bE (zs:=[iN 0,iN 0,.str [],.ao,.ao]) rfl rfl;have iV:=vX (lf:=lf) (n:=n) h4 h5 om om;have BZ:=Sq (lf:=lf) (n:=n) g1 g2 om g4 om;have bO:=hc.len;have ng:=hc.bq;have r5:aq (H0.get H.next) 0 5=some c:=by rw[ad6,jl om,List.drop_zero,<-bO,List.take_length]
 have G0:aq ((H0.push (.row [iN 0,iN 0,.str [],.ao,.ao] 301 true false 0)).get b) o 1=some [v]:=by rw[cU g5];exact g6
 have rb5:aq ((H0.push (.row [iN 0,iN 0,.str [],.ao,.ao] 301 true false 0)).get H.next) 0 5=some c:=by rw[cU om];exact r5
 have bn:(SV.agg c).cells=c:=rfl;have key:∃w H',aj ak lf (n+1) 268 [.ptr p 0,.agg c] H=some (w,H')/\w=.aJ []/\∃au,PS au H' p (fW nd (e::r))/\eR (r.length+2) own H au H':=by
  have fin:∃au,PS au H4 p (fW nd (e::r))/\eR (r.length+2) own H au H4:=
   ⟨mI own (H0.next+1) (r.length+2),PS.fg h1 h2 h4 h5 jL g15 (g14 (addN · nd) (Rm ht)) (fun q hq=>by rw[g16]at hq;rw[mJ om];exact h3 q om),hS0.trans g15⟩
  generalize K.length=kl at g7 g11 g12 g13;refine cx ID.1 ?_;refine af (An @bn @jt) ?_;refine ai ae iV ?_;refine ai ae BZ ?_;refine af ae ?_;refine dG rfl ?_;refine af (An @g6 (An @r5 (An @g7 (An @g11 (An @g12 (An @g13 @bn)))))) ?_;refine⟨?_,fun _=>?_,_,(by simp only[List.getLast?_cons_cons,List.getLast?_singleton];first|done|with_reducible rfl),?_⟩
  ·exact dh (An @g6 (An @G0 (An @g9 (An @r5 (An @rb5 @ng)))))
  ·exact swapT om
  ·refine af ae ?_;refine cF bQ ?_;exact(⟨rfl,fin⟩)
 obtain⟨w,H',hc,rfl,au,k1,k2⟩:=key;exact⟨au,H',hc,k1,k2⟩
@[reducible] def ZM (H0:ag) (de:Nat->Nat) (p:Nat) (v:SV) (K:List AN) (st:List AE) (m:Nat) (ts:T) (D:DS) (H':ag):Prop:=
  D=[]/\∃(i:Nat) (au:Nat->Nat),m=K.length-i/\i<=K.length/\PS au H' p (dj (K.take i) st)/\eR (st.length+1) de H0 au H'/\∃z:Nat->SV,ts=((.ptr p 0)::(v)::zz z 2 4 ((v)::(.int .i64 (K.length:Int))::(.int .i64 (i:Int))::zz z 9 14 []):T)/\(True)
theorem Rc (l:List AN) (n:AN) (st:List AE):dj (l++[n]) st=fW n (dj l st):=by simp[dj]
theorem ai5 {p:Nat} {st:List AE} {v:SV} {K:List AN} (h:PS own H p st) (hv:NL (fz own) H v K) (aD:bC st) (hb:(aU st).length+(aL K).length<=100000) (hr:st.length<=1000) (hn:3<=n) (aC:200000<lf):
 ∃au H',aj ak lf n 279 [.ptr p 0,v] H=some (.aJ [],H')/\PS au H' p (dj K st)/\eR (st.length+1) own H au H':=by
 obtain⟨n,rfl⟩:=aN (n:=n);have zg:K.length<=100000:=by have:=hv.le;omega
 obtain⟨C,hC,hA⟩:=hv;have sj:=hA.len;have aW:=hC.cA;rw[sj]at aW;have key:∃w H',aj ak lf (n+1) 279 [.ptr p 0,v] H=some (w,H')/\w=.aJ []/\∃au,PS au H' p (dj K st)/\eR (st.length+1) own H au H':=by
  refine cx P0.1 ?_;refine af @aW ?_;refine bH (I:=ZM H own p v K st) ?_ K.length ?_ om
  ·rintro m ts D H' ⟨rfl,i,au,rfl,hi,hP,hS,⟨z,rfl, -⟩⟩;refine af ae ?_;refine cst ae (fun hc=>?_) (fun hc=>?_)<;>try simp only[decide_eq_true_eq,decide_eq_false_iff_not,not_true_eq_false,not_false_eq_true,Int.not_lt,Int.not_le,ge_iff_le,gt_iff_lt]at hc
   ·have xx:i<K.length:=om;have jI:K[i]? =some K[i]:=List.getElem?_eq_getElem xx;have ja:C[i]? =some C[i]:=List.getElem?_eq_getElem om;have Ld:=hS.bY om;have K0:=hC.ax Ld.1 Ld.2;obtain⟨bb,oo,q1,_,dz,q2,_⟩:=K0.at_ ja;have jj:=(hA.get ja jI).bY Ld;have fT:K.take (i+1)=K.take i++[K[i]]:=by rw[List.take_succ,jI];rfl
    generalize K[i]=nd at jI jj fT;generalize C[i]=c at ja q2 jj;have bO:=jj.len;have aV:=jj.one;obtain⟨eW,dX,gg⟩:=mP (l:=K.take i) aD;have sL:(aL (K.take i)).length+nd.s.length<=(aL K).length:=by
     have e1:K=K.take i++([nd]++K.drop (i+1)):=by
      conv=>lhs;rw[<-List.take_append_drop (i+1) K,fT,List.append_assoc]
     conv=>rhs;rw[e1]
     simp only[AD,uE,List.length_append];omega
    obtain⟨H1,ay⟩:∃H1,(H'.push (.row [iN 0,iN 0,.str [],.ao,.ao] 301 true false 0)).put H'.next (.row c 301 true false 0)=H1:=⟨_,rfl⟩;have aB:Ext H' H1:=by rw[<-ay];exact((Ext.refl H').push _).put (Nat.le_refl _) _
    have dn:H1.get H'.next=some (.row c 301 true false 0):=by rw[<-ay];exact bT _ _
    have afy:List.take 5 c=c:=by rw[<-bO,List.take_length]
    have an0:List.drop 5 c=[]:=List.drop_of_length_le om;have q3:aq ((H'.push (.row [iN 0,iN 0,.str [],.ao,.ao] 301 true false 0)).get bb) oo 5=some c:=by rw[cU dz];exact q2
    have ey:c7 5 (.ptr H'.next 0) c (H'.push (.row [iN 0,iN 0,.str [],.ao,.ao] 301 true false 0))=some H1:=by
     rw[iL bO,iq,bd,im (by rw[bO];exact Nat.le_refl _) (Nat.le_refl _) aV,<-ay,bO];simp
    have bn:(SV.agg c).cells=c:=rfl;have ga:=hP.ext aB;have ml:eR (st.length+1) own H au H1:=hS.trans (aB.af _ _);have r5:aq (H1.get H'.next) 0 5=some c:=by rw[dn,jl om,List.drop_zero,afy]
    obtain⟨kd,j1,j2,j3⟩:=jj.kind;have r0:=uz r5 (by decide) j1;obtain⟨e1,r1,MP⟩:∃e r,dj (K.take i) st=e::r:=by
     cases hh:dj (K.take i) st with
     |nil=>rw[hh]at eW;exact eW.elim
     |cons e r=>exact⟨e,r,rfl⟩
    rw[MP]at ga dX gg;have fc:r1.length+2=st.length+1:=by simp only[List.length_cons]at dX;omega
    have Gf:=c8 (k:=i) om;refine af (An @q1 (An @q2 (An @q3 (An @bn (An @ey (An @r0 @j2)))))) ?_;cases hm:nd.t with
    |true=>
     have zC:=hm;obtain⟨mt,s⟩:=nd;have hmt:mt=true:=hm;subst hmt;have hcs:c=[iN 1,iN 0,.str s,.ao,.ao]:=by
      cases jj with
      |text s h=>rfl
     have r2:aq (H1.get H'.next) 2 1=some [.str s]:=by rw[dn,hcs];rfl
     obtain⟨c5,H2,aH,bK,iB⟩:=W8 (lf:=lf) (n:=n) (s:=s) ga (by rw[gg,List.length_append];simp only[]at sL;omega) om om;rw[fc]at iB;refine ar ae ?_;refine af @r2 ?_;refine ai ae aH ?_;refine af @Gf ?_;refine aT (K.length-(i+1)) om ⟨rfl,i+1,c5,rfl,by omega,?_,ml.trans iB,aw⟩;rw[fT,Rc,MP];exact bK
    |false=>
     obtain⟨c5,H2,aH,bK,iB⟩:=W2 (lf:=lf) (n:=n) ga (jj.bY (aB.bY au)) hm (by rw[gg,List.length_append];omega) om om;rw[fc]at iB;refine ah ae ?_;refine af @r5 ?_;refine ai ae aH ?_;refine af @Gf ?_;refine aT (K.length-(i+1)) om ⟨rfl,i+1,c5,rfl,by omega,?_,ml.trans iB,aw⟩;rw[fT,Rc,MP];exact bK
   ·have xx:i=K.length:=om;subst xx;rw[List.take_length]at hP;refine af ae ?_;refine cF bQ ?_;exact(⟨rfl,au,hP,hS⟩)
  ·exact⟨rfl,0,own,rfl,Nat.zero_le _,h,eR.refl _ _ _,aw⟩
 obtain⟨w,H',hc,rfl,au,k1,k2⟩:=key;exact⟨au,H',hc,k1,k2⟩
end
end
section
def wi (own:Nat->Nat) (H:ag) (pb:Nat) (e:AE):Prop:=own pb=0/\pb<H.next/\e.count<=100000/\∃lv av,H.get pb=some (.row [iN e.kind,iN e.tag,iN e.count,lv,av] 289 true false 0)/\NL (fz own) H lv e.list/\AL (fz own) H av e.args
theorem wi.bY {own au:Nat->Nat} {H H':ag} {pb:Nat} {e:AE} (h:wi own H pb e) (g:bM own H au H'):wi au H' pb e:=by
 obtain⟨h1,h2,h3,lv,av,h4,h5,h6⟩:=h;obtain⟨g1,g2⟩:=g.2 pb h1 h2;exact⟨g1,Nat.lt_of_lt_of_le h2 g.1,h3,lv,av,g2.trans h4,h5.bY g,h6.bY g⟩
def sS (own:Nat->Nat) (k:Nat):Nat->Nat:=fun q=>if own q=k then 0 else own q
theorem ahj {own:Nat->Nat} {k q:Nat} (h:own q=k):sS own k q=0:=if_pos h
theorem GN {own:Nat->Nat} {k q:Nat} (h:own q≠k):sS own k q=own q:=if_neg h
theorem WI {own:Nat->Nat} {k q:Nat} (h:own q=0):sS own k q=0:=by unfold sS;split<;>first|rfl|exact h
theorem fL.al {own au:Nat->Nat} {k:Nat} {H H':ag} {D:List (List SV)} {A:List AA} {a:AA} {nv vv av:SV} (h4:MW own k 331 H av 3 (D++[[.bool a.1,nv,vv]])) (h5:bG (rS (fz own) H) D A) (h6:NL (fz own) H nv a.2.1) (h7:MN own k H vv a.2.2)
 (g:bM own H au H') (hk:∀b,own b=k->b<H.next->au b=0/\H'.get b=H.get b):AL (fz au) H' av (A++[a]):=
 ⟨_,h4.rg.ax g.1 hk,(h5.imp fun _ _ h=>h.bY g).snoc ⟨nv,vv,rfl,h6.bY g,h7.nl g hk⟩⟩
theorem fL.elf {own au:Nat->Nat} {k:Nat} {H H':ag} {pb:Nat} {e:AE} (h:fL own k H pb e) (g:bM own H au H') (hk:∀b,own b=k->b<H.next->au b=0/\H'.get b=H.get b):wi au H' pb e:=by
 obtain⟨h1,h2,h3,lv,av,h4,h5⟩:=h;refine⟨(hk pb h1 h2).1,Nat.lt_of_lt_of_le h2 g.1,h3,lv,av,(hk pb h1 h2).2.trans h4,?_⟩;rcases h5 with⟨a1,rfl,a3⟩|⟨D,A,a,nv,vv,a1,a2,a3,a4,a5,a6,a7⟩
 ·exact⟨a3.nl g hk,by rw[a1];exact AL.nil⟩
 ·exact⟨a3.bY g,by rw[a2];exact fL.al a4 a5 a6 a7 g hk⟩
theorem ak3:ak 278=some (.native Ag):=by kernel_rfl
theorem iM.shrink {own:Nat->Nat} {H:ag} {sv:SV} {pb:Nat} {ps:List Nat} (h:iM own H sv (pb::ps)) (aP:ps≠[]):
 ∃w,kq 1 none (some (.int .i64 ((ps.length:Nat):Int))) sv=some w/\SV.one w=true/\w.cells=[w]/\
  ∀au H',H.next<=H'.next->(∀b,own b=1->b<H.next->(∃cs ex,H.get b=some (.row cs 286 ex false 0))->au b=1/\H'.get b=H.get b)->iM au H' w ps:=by
 obtain⟨b,c,cs,ex,rfl,h2,h3,h4,h5,h6,h7⟩:=h;have hc:c=none:=by
  cases c with
  |none=>rfl
  |some q=>
   have:=(h2 q rfl).2;rw[List.length_cons]at this;exact absurd (List.eq_nil_of_length_eq_zero om) aP
 subst hc;have e1:kq 1 none (some (.int .i64 ((ps.length:Nat):Int))) (.slice b 0 (pb::ps).length none 1)=some (.slice b 0 ps.length none 1):=by
  rw[Dj om (by show _<=(((pb::ps).length:Nat):Int);rw[List.length_cons];omega)];simp[iX]
 refine⟨_,e1,rfl,rfl,fun au H' hn hk=>?_⟩;obtain⟨k1,k2⟩:=hk b h4 h5 ⟨_,_,h6⟩;refine⟨b,none,cs,ex,rfl,?_,fun _=>h3 rfl,k1,Nat.lt_of_lt_of_le h5 hn,k2.trans h6,?_⟩
 ·intro q h;cases h
 ·have:=congrArg (List.take ps.length) h7;rw[List.take_take,List.length_cons,Nat.min_eq_left om]at this;rw[this,oF,List.map_cons,List.reverse_cons,List.take_append_of_le_length (by rw[List.length_reverse,List.length_map];exact Nat.le_refl _),List.take_of_length_le (by rw[List.length_reverse,List.length_map];exact Nat.le_refl _)];rfl
section
variable {lf n:Nat} {H:ag} {own:Nat->Nat}
theorem GW {p:Nat} {e:AE} {r:List AE} (h:PS own H p (e::r)) (aP:r≠[]) (hr:r.length<1000) (hn:2<=n):
 ∃pb au H',aj ak lf n 276 [.ptr p 0] H=some (.ptr pb 0,H')/\PS au H' p r/\wi au H' pb e/\bM own H au H'/\H'.next=H.next/\H'.get pb=H.get pb/\∃sv q,H.get p=some (.row [sv] 292 true false 0)/\iM own H sv (pb::q):=by
 obtain⟨n,rfl⟩:=aN (n:=n);obtain⟨h1,h2,h3,sv,ps,h4,h5,h6⟩:=h
 match ps,h6 with
 |pb::ps,h6=>
 obtain⟨he,jL⟩:=h6;have fG:=jL.len;have iV:=vX (lf:=lf) (n:=n) h4 h5 om om;have r0:aq (H.get p) 0 1=some [sv]:=by rw[h4];rfl
 have aW:=h5.cA;rw[List.length_cons]at aW;have hb:=h5.bq;have hw:((ps.length+1:Nat):Int)-((1:Nat):Int)=(ps.length:Int):=om;have afe:ps≠[]:=fun e=>aP (List.eq_nil_of_length_eq_zero (by rw[<-fG,e];rfl))
 obtain⟨w,jS,mF,M4,CJ⟩:=h5.shrink afe;obtain⟨H',tK⟩:∃H',H.put p (.row [w] 292 true false 0)=H':=⟨_,rfl⟩;have nu:H'.next=H.next:=by rw[<-tK];rfl
 have aD:c7 1 (.ptr p 0) [w] H=some H':=by rw[<-tK];exact gY h4 mF (Nat.le_refl _) (Nat.le_refl _)
 have hold:∀q,q≠p->H'.get q=H.get q:=fun q hq=>by rw[<-tK];exact cI hq
 have nZ:pb≠p:=fun e1=>by have h:=he.1;rw[e1,h1]at h;omega
 have hP:bM own H (sS own (r.length+2)) H':=⟨Nat.le_of_eq nu.symm,fun q hq _=>⟨WI hq,hold q (fun e1=>by rw[e1,h1]at hq;cases hq)⟩⟩;have hE:wi (sS own (r.length+2)) H' pb e:=he.elf hP fun q hq _=>⟨ahj hq,hold q (fun e1=>by rw[e1,h1]at hq;omega)⟩
 have hS:eR (r.length+2) own H (sS own (r.length+2)) H:=⟨Nat.le_refl _,fun q _ hq=>⟨GN hq,rfl⟩⟩;have iB:eR 1 (sS own (r.length+2)) H (sS own (r.length+2)) H':=⟨Nat.le_of_eq nu.symm,fun q _ hq=>⟨rfl,hold q fun e1=>hq (by rw[e1,GN om];exact h1)⟩⟩;have eO:PS (sS own (r.length+2)) H' p r:=by
  refine⟨by rw[GN om];exact h1,by omega,fun q hq=>WI (h3 q om),w,ps,?_,CJ _ _ (Nat.le_of_eq nu.symm) ?_,(jL.af hS om (.inr (Nat.le_refl _))).af iB (by decide) (.inl rfl)⟩
  ·rw[<-tK];exact bT _ _
  ·rintro q hq F5 ⟨cs,ex,hg⟩;refine⟨by rw[GN om];exact hq,hold q fun e1=>?_⟩;rw[e1,h4]at hg;have:=congrArg (fun o:Option cz=>match o with|some (.row _ ty _ _ _)=>ty|_=>0) hg;exact absurd (show(292:Nat)=286 from this) (by decide)
 have key:∃w H',aj ak lf (n+1) 276 [.ptr p 0] H=some (w,H')/\w=.ptr pb 0/\∃au,PS au H' p r/\wi au H' pb e/\bM own H au H'/\H'.next=H.next/\H'.get pb=H.get pb/\∃sv q,H.get p=some (.row [sv] 292 true false 0)/\iM own H sv (pb::q):=by
  refine cx IJ.1 ?_;refine af ae ?_;refine ai ae iV ?_;refine af ae ?_;refine dG rfl ?_;refine af (An @r0 (An @aW (An @hw (An @jS (An @M4 @aD))))) ?_;refine dB ?_ ?_
  ·exact dh (An @r0 @hb)
  ·refine af ae ?_;refine aO ae ?_;exact(⟨rfl,_,eO,hE,hP,nu,hold pb nZ,sv,ps,h4,h5⟩)
 obtain⟨w,H',hc,rfl,au,k1,k2⟩:=key;exact⟨pb,au,H',hc,k1,k2⟩
end
end
section
section
variable {lf n:Nat} {H:ag} {own:Nat->Nat}
theorem oG {p:Nat} {st:List AE} {s:List Nat} (h:PS own H p st) (aD:bC st) (hb:(aU st).length+s.length<=100000) (hr:st.length<=1000) (hn:2<=n):
 ∃au H',aj ak lf n 267 [.ptr p 0,.str s] H=some (.aJ [],H')/\PS au H' p (bI s st)/\bM own H au H':=by
 match st,aD with
 |e::r,aD=>
  obtain⟨au,H',h1,h2,h3⟩:=W8 (lf:=lf) (n:=n) h hb (by simp only[List.length_cons]at hr;omega) hn;exact⟨au,H',h1,h2,h3.bY om⟩
theorem GV {p:Nat} {st:List AE} {v:SV} {K:List AN} (h:PS own H p st) (hv:NL (fz own) H v K) (aD:bC st) (hb:(aU st).length+(aL K).length<=100000) (hr:st.length<=1000) (hn:3<=n) (aC:200000<lf):
 ∃au H',aj ak lf n 279 [.ptr p 0,v] H=some (.aJ [],H')/\PS au H' p (dj K st)/\bM own H au H':=by
 obtain⟨au,H',h1,h2,h3⟩:=ai5 (lf:=lf) (n:=n) h hv aD hb hr hn aC;exact⟨au,H',h1,h2,h3.bY om⟩
theorem C7 {p:Nat} {st:List AE} {c:List SV} {nd:AN} (h:PS own H p st) (hc:Nd (fz own) H c nd) (ht:nd.t=false) (aD:bC st) (hb:(aU st).length<=100000) (hr:st.length<=1000) (hn:2<=n):
 ∃au H',aj ak lf n 268 [.ptr p 0,.agg c] H=some (.aJ [],H')/\PS au H' p (fW nd st)/\bM own H au H':=by
 match st,aD with
 |e::r,aD=>
  obtain⟨au,H',h1,h2,h3⟩:=W2 (lf:=lf) (n:=n) h hc ht hb (by simp only[List.length_cons]at hr;omega) hn;exact⟨au,H',h1,h2,h3.bY om⟩
theorem alp {g:Nat} (hg:g=1\/g=2\/g=3) (hn:1<=n):aj ak lf n 277 [iN g] H=some (.str (bR g),H):=by
 obtain⟨n,rfl⟩:=aN (n:=n);have key:∃w H',aj ak lf (n+1) 277 [iN g] H=some (w,H')/\w=.str (bR g)/\H'=H:=by
  have x0:∀a b c:SV,zV 3 false 1 (.agg [a,b,c]) (.int .i64 0)=some a:=fun _ _ _=>rfl
  have x1:∀a b c:SV,zV 3 false 1 (.agg [a,b,c]) (.int .i64 ((1:Nat):Int))=some b:=fun _ _ _=>rfl
  have x2:∀a b c:SV,zV 3 false 1 (.agg [a,b,c]) (.int .i64 ((2:Nat):Int))=some c:=fun _ _ _=>rfl
  have e1:((2:Nat):Int)-((1:Nat):Int)=((1:Nat):Int):=by decide
  have e2:((3:Nat):Int)-((1:Nat):Int)=((2:Nat):Int):=by decide
  rcases hg with rfl|rfl|rfl
  all_goals
   refine cx PZ.1 ?_;refine af (An @x0 (An @x1 (An @x2 (An @e1 @e2)))) ?_;refine aO ae ?_;exact(⟨rfl,rfl⟩)
 obtain⟨w,H',h,rfl,rfl⟩:=key;exact h
theorem Xk {b k:Nat} (hk:k<100000) (hn:1<=n):aj ak lf n 278 [.str [b],iN k] H=some (.str (List.replicate k b),H):=by
 obtain⟨n,rfl⟩:=aN (n:=n);simp only[aj,ak3];show(match Nat.blt k 100000 with|true=>some (SV.str (List.replicate k b),H)|false=>none)=_;rw[qB hk]
@[reducible] def ZI (H0:ag) (de:Nat->Nat) (p pb:Nat) (av:SV) (e:AE) (st:List AE) (m:Nat) (ts:T) (D:DS) (H':ag):Prop:=
  D=[]/\∃(i:Nat) (au:Nat->Nat),m=e.args.length-i/\i<=e.args.length/\PS au H' p ((e.args.take i).foldl fM st)/\bM de H0 au H'/\∃z:Nat->SV,ts=((.ptr p 0)::z 1::(.ptr pb 0)::zz z 3 39 ((av)::(.int .i64 (e.args.length:Int))::(.int .i64 (i:Int))::zz z 45 18 []):T)/\(True)
theorem KH {p:Nat} {e:AE} {r:List AE} (h:PS own H p (e::r)) (aP:r≠[]) (aD:bC (e::r)) (hb:(aU (e::r)).length<=90000) (hr:r.length<1000) (hn:5<=n) (aC:200000<lf):
 ∃au H',aj ak lf n 201 [.ptr p 0] H=some (.aJ [],H')/\PS au H' p (kz (e::r))/\bM own H au H':=by
 obtain⟨n,rfl⟩:=aN (n:=n);obtain⟨pb,C6,H1,aV,Li,aB,ga,ca,_⟩:=GW (lf:=lf) (n:=n) h aP hr om;have cZ:=aD.head aP;have ey:=aD.tail aP;obtain⟨k1,k2,T8,lv,av,bj,hL,hA⟩:=aB;have r0:aq (H1.get pb) 0 1=some [iN e.kind]:=by rw[bj];rfl
 have r1:aq (H1.get pb) 1 1=some [iN e.tag]:=by rw[bj];rfl
 have r2:aq (H1.get pb) 2 1=some [iN e.count]:=by rw[bj];rfl
 have dn:(aU r).length+((mark e).length+(aL e.list).length+(bN e.args).length)<=90000:=by
  simp only[aU,List.length_append]at hb;omega
 have nX:(mark e).length<=90000:=om;have key:∃w H',aj ak lf (n+1) 201 [.ptr p 0] H=some (w,H')/\w=.aJ []/\∃au,PS au H' p (kz (e::r))/\bM own H au H':=by
  refine cx PO.1 ?_;refine af ae ?_;refine ai ae aV ?_;refine af @r0 ?_;obtain⟨c5,H2,aH,fj,bK⟩:=oG (lf:=lf) (n:=n) (s:=mark e) Li ey om om om;obtain⟨m1,m2,m3⟩:=gO (mark e) ey;refine nJ (fun ts H'=>H'=H2/\∃z:Nat->SV,ts=((.ptr p 0)::z 1::(.ptr pb 0)::zz z 3 60 []:T)/\(True)) ?_ (fun aA H' hP=>?_)
  ·rcases cZ.2 with hk|⟨hk,hg⟩|⟨hk,hg⟩
   ·have d1:decide (((e.kind:Nat):Int)=((1:Nat):Int))=true:=by rw[hk];decide
    have kK:mark e=[91,91]:=by simp only[mark,hk]
    rw[kK]at aH;refine ar @d1 ?_;refine af ae ?_;refine ai ae aH ?_;refine af ae ?_;exact⟨rfl,rfl,rfl,aw⟩
   ·have d1:decide (((e.kind:Nat):Int)=((1:Nat):Int))=false:=by rw[hk];decide
    have d2:decide (((e.kind:Nat):Int)=((2:Nat):Int))=true:=by rw[hk];decide
    have kK:mark e=bR e.tag:=by simp only[mark,hk]
    rw[kK]at aH;have jR:=alp (lf:=lf) (n:=n) (H:=H1) hg om;refine ah @d1 ?_;refine af @d2 ?_;refine ar @d2 ?_;refine af @r1 ?_;refine ai ae jR ?_;refine af ae ?_;refine ai ae aH ?_;refine af ae ?_;exact⟨rfl,rfl,rfl,aw⟩
   ·have d1:decide (((e.kind:Nat):Int)=((1:Nat):Int))=false:=by rw[hk];decide
    have d2:decide (((e.kind:Nat):Int)=((2:Nat):Int))=false:=by rw[hk];decide
    have d3:decide (((e.kind:Nat):Int)=((3:Nat):Int))=true:=by rw[hk];decide
    have kK:mark e=List.replicate e.count 123:=by simp only[mark,hk]
    rw[kK,List.length_replicate]at nX;rw[kK]at aH;have F7:=Xk (lf:=lf) (n:=n) (H:=H1) (b:=123) (k:=e.count) om om;refine ah @d1 ?_;refine af @d2 ?_;refine ah @d2 ?_;refine af @d3 ?_;refine ar @d3 ?_;refine af @r2 ?_;refine ai ae F7 ?_;refine af ae ?_;refine ai ae aH ?_;refine af ae ?_;exact⟨rfl,rfl,rfl,aw⟩
  ·obtain⟨rfl,⟨z,rfl, -⟩⟩:=hP;obtain⟨q1,q2⟩:=bK.2 pb k1 k2;have Ct:=q2.trans bj;have r3:aq (H'.get pb) 3 1=some [lv]:=by rw[Ct];rfl
   have nU:(aU (bI (mark e) r)).length=(aU r).length+(mark e).length:=by rw[m3,List.length_append]
   obtain⟨eC,H3,bf,fE,ct⟩:=GV (lf:=lf) (n:=n) fj (hL.bY bK) m1 om om om aC;obtain⟨j1,j2,j3⟩:=mP (l:=e.list) m1;have Ux:(aU (dj e.list (bI (mark e) r))).length=(aU r).length+(mark e).length+(aL e.list).length:=by rw[j3,List.length_append,nU]
   have Vg:kz (e::r)=e.args.foldl fM (dj e.list (bI (mark e) r)):=rfl;generalize dj e.list (bI (mark e) r)=OL at fE j1 j2 Ux Vg;have Le:=bK.trans ct;have od:=(Le.2 pb k1 k2).2.trans bj;have r4:aq (H3.get pb) 4 1=some [av]:=by rw[od];rfl
   have fP:=qz e.args;obtain⟨D,hD,wT⟩:=hA.bY Le;have hlD:=wT.len;have aW:=hD.cA;rw[hlD]at aW;refine af @r3 ?_;refine ai ae bf ?_;refine af (An @r4 @aW) ?_;refine bH (I:=ZI H3 eC p pb av e OL) ?_ e.args.length ?_ om
   ·rintro m ts D' H' ⟨rfl,i,au,rfl,hi,mj,fb,⟨z,rfl, -⟩⟩;refine af ae ?_;refine cst ae (fun hc=>?_) (fun hc=>?_)<;>try simp only[decide_eq_true_eq,decide_eq_false_iff_not,not_true_eq_false,not_false_eq_true,Int.not_lt,Int.not_le,ge_iff_le,gt_iff_lt]at hc
    ·have xx:i<e.args.length:=om;have qM:e.args[i]? =some e.args[i]:=List.getElem?_eq_getElem xx;have tG:D[i]? =some D[i]:=List.getElem?_eq_getElem om;have K1:=hD.ax fb.1 fb.2;obtain⟨bb,oo,x1,_,dz,x2,_⟩:=K1.at_ tG;have Lv:=(wT.get tG qM).bY fb;obtain⟨y1,y2⟩:=En qM;obtain⟨z1,z2,z3⟩:=Eh (l:=e.args.take i) j1;generalize e.args[i]=a at qM Lv y1 y2;generalize D[i]=d at tG x2 Lv;obtain⟨nv,vv,rfl,zF,CI⟩:=Lv;obtain⟨uF,jx⟩:∃uF,(e.args.take i).foldl fM OL=uF:=⟨_,rfl⟩;rw[jx]at mj z1 z2 z3;have Uy:(aU uF).length+(gL a).length<=90000:=by rw[z3,List.length_append];omega
     have Bx:(gL a).length=1+((if a.1 then(aL a.2.1).length+1 else 0)+(aL a.2.2).length):=by
      unfold gL;split<;>simp<;>omega
     obtain⟨H5,bg⟩:∃H5,(H'.push (.row [.bool false,.ao,.ao] 331 true false 0)).put H'.next (.row [.bool a.1,nv,vv] 331 true false 0)=H5:=⟨_,rfl⟩;have bm:Ext H' H5:=by rw[<-bg];exact((Ext.refl H').push _).put (Nat.le_refl _) _
     have fw:H5.get H'.next=some (.row [.bool a.1,nv,vv] 331 true false 0):=by rw[<-bg];exact bT _ _
     have iG:H5.next=H'.next+1:=by rw[<-bg];rfl
     have aeQ:SV.one nv=true:=by obtain⟨nC,hnC,_⟩:=zF;exact hnC.one
     have afC:SV.one vv=true:=by obtain⟨vC,vu,_⟩:=CI;exact vu.one
     have iH:c7 3 (.ptr H'.next 0) [.bool a.1,nv,vv] (H'.push (.row [.bool false,.ao,.ao] 331 true false 0))=some H5:=by
      rw[iL (n:=3) (cs:=[.bool a.1,nv,vv]) rfl,iq,bd,im (Nat.le_refl _) (Nat.le_refl _) (by simp only[List.all_cons,aeQ,afC,List.all_nil];rfl),<-bg];rfl
     have x3:aq ((H'.push (.row [.bool false,.ao,.ao] 331 true false 0)).get bb) oo 3=some [.bool a.1,nv,vv]:=by rw[cU dz];exact x2
     have bn:(SV.agg [.bool a.1,nv,vv]).cells=[.bool a.1,nv,vv]:=rfl;have VE:au H'.next=0:=mj.2.2.1 _ (Nat.le_refl _);obtain⟨Al,H6,cP,xg,fv⟩:=oG (lf:=lf) (n:=n) (s:=[124]) (mj.ext bm) z1 (by simp only[List.length_cons,List.length_nil];omega) om om;obtain⟨w1,w2,w3⟩:=gO [124] z1;have hl6:(aU (bI [124] uF)).length=(aU uF).length+1:=by rw[w3,List.length_append];rfl
     have Lg:bM au H' Al H6:=(bm.bY au).trans fv;have iC:=(fv.2 H'.next VE om).2.trans fw;have VF:=(fv.2 H'.next VE om).1;have y0:aq (H6.get H'.next) 0 1=some [.bool a.1]:=by rw[iC];rfl
     have yE:aq (H6.get H'.next) 1 1=some [nv]:=by rw[iC];rfl
     have TQ:fM uF a=dj a.2.2 (if a.1 then bI [61] (dj a.2.1 (bI [124] uF))else bI [124] uF):=rfl;have y2':aq (H6.get H'.next) 2 1=some [vv]:=by rw[iC];rfl
     have Gf:=c8 (k:=i) om;have hN5:=zF.bY Lg;have hV5:=CI.bY Lg;have FU:H'.next<H6.next:=by have:=fv.1;omega
     obtain⟨nb,lG⟩:∃nb,H'.next=nb:=⟨_,rfl⟩;rw[lG]at iH y0 yE y2' iC VF FU;generalize bI [124] uF=qt at xg w1 w2 w3 hl6 TQ;have xB:=fv.1;refine af (An @x1 (An @x2 (An @x3 (An @bn (An @lG @iH))))) ?_;refine ai ae cP ?_;refine af @y0 ?_;refine nJ (fun ts H'=>∃GQ,PS GQ H' p (if a.1 then bI [61] (dj a.2.1 qt)else qt)/\bM Al H6 GQ H'/\∃z:Nat->SV,ts=((.ptr p 0)::z 1::(.ptr pb 0)::z 3::(.ptr nb 0)::zz z 5 37 ((av)::(.int .i64 (e.args.length:Int))::(.int .i64 (i:Int))::zz z 45 18 []):T)/\(True)) ?_ (fun aA H7 hP=>?_)
     ·cases ha:a.1 with
      |false=>
       refine ah @ha ?_;refine af ae ?_;exact⟨rfl,rfl,Al,by rw[if_neg (by decide)];exact xg,bM.refl _ _,aw⟩
      |true=>
       rw[ha,if_pos rfl]at Bx;obtain⟨GQ,H7,iD,Lj,gR⟩:=GV (lf:=lf) (n:=n) xg hN5 w1 om om om aC;obtain⟨v1,v2,v3⟩:=mP (l:=a.2.1) w1;have hl7:(aU (dj a.2.1 qt)).length=(aU qt).length+(aL a.2.1).length:=by rw[v3,List.length_append]
       obtain⟨vL,H8,mr,xh,nc⟩:=oG (lf:=lf) (n:=n) (s:=[61]) Lj v1 (by simp only[List.length_cons,List.length_nil];omega) om om;refine ar @ha ?_;refine af @yE ?_;refine ai ae iD ?_;refine af ae ?_;refine ai ae mr ?_;refine af ae ?_;exact⟨rfl,rfl,vL,by rw[if_pos rfl];exact xh,gR.trans nc,aw⟩
     ·obtain⟨GQ,Lj,gR,⟨z,rfl, -⟩⟩:=hP;have lD:=(gR.2 nb VF FU).2.trans iC;have anR:aq (H7.get nb) 2 1=some [vv]:=by rw[lD];rfl
      have lJ:bC (if a.1 then bI [61] (dj a.2.1 qt)else qt)/\(if a.1 then bI [61] (dj a.2.1 qt)else qt).length=qt.length/\(aU (if a.1 then bI [61] (dj a.2.1 qt)else qt)).length+(aL a.2.2).length+1=(aU qt).length+(gL a).length:=by
       cases ha:a.1 with
       |false=>
        rw[ha,if_neg (by decide)]at Bx;rw[if_neg (by decide)];exact⟨w1,rfl,by omega⟩
       |true=>
        rw[ha,if_pos rfl]at Bx;rw[if_pos rfl];obtain⟨v1,v2,v3⟩:=mP (l:=a.2.1) w1;obtain⟨u1,u2,u3⟩:=gO [61] v1;refine⟨u1,u2.trans v2,?_⟩;rw[u3,v3];simp only[List.length_append,List.length_cons,List.length_nil];omega
      obtain⟨s1,s2,s3⟩:=lJ;obtain⟨vL,H8,mr,xh,nc⟩:=GV (lf:=lf) (n:=n) Lj (hV5.bY gR) s1 om om om aC;refine af @anR ?_;refine ai ae mr ?_;refine af @Gf ?_;refine aT (e.args.length-(i+1)) om ⟨rfl,i+1,vL,rfl,by omega,?_,fb.trans (Lg.trans (gR.trans nc)),aw⟩;rw[y2,List.foldl_append];show PS vL H8 p (fM (List.foldl fM OL (e.args.take i)) a);rw[jx,TQ];exact xh
    ·have xx:i=e.args.length:=om;subst xx;rw[List.take_length]at mj;refine af ae ?_;refine cF bQ ?_;exact(⟨rfl,au,by rw[Vg];exact mj,ga.trans (Le.trans fb)⟩)
   ·exact⟨rfl,0,eC,rfl,Nat.zero_le _,fE,bM.refl _ _,aw⟩
 obtain⟨w,H',hc,rfl,au,k1,k2⟩:=key;exact⟨au,H',hc,k1,k2⟩
end
end
section
theorem sV {o:Option cz} {cs iO:List SV} {e e':TypeId} {ex l8 ro ro':Bool} {f f':Nat} (h:o=some (.row cs e ex ro f)) (h':o=some (.row iO e' l8 ro' f')):e=e':=by
 rw[h]at h';exact congrArg (fun o:Option cz=>match o with|some (.row _ ty _ _ _)=>ty|_=>0) h'
theorem MW.Xp {own au:Nat->Nat} {k e:Nat} {H H':ag} {v:SV} {z:Nat} {L:List (List SV)} (h:MW own k e H v z L) (hn:H.next<=H'.next) (hk:∀b,Go.Sh.iW v b->au b=0/\H'.get b=H.get b):Rg (fz au) H' v z L:=by
 refine⟨h.1,?_⟩;rcases h.2 with⟨h1,h2⟩|⟨b,c,ex,h1,_,_,h2,h3,h4⟩
 ·exact .inl ⟨h1,.inl h2⟩
 ·obtain⟨k1,k2⟩:=hk b ⟨_,_,_,_,h1⟩;exact .inr ⟨b,c,e,ex,false,0,[],[],by simpa using h1,k1,by omega,by simpa using k2.trans h4⟩
theorem MN.GK {own au:Nat->Nat} {k:Nat} {H H':ag} {v:SV} {K:List AN} (h:MN own k H v K) (g:bM own H au H') (hk:∀b,iW v b->own b=k->b<H.next->(∃cs ex,H.get b=some (.row cs 301 ex false 0))->au b=0/\H'.get b=H.get b):NL (fz au) H' v K:=by
 obtain⟨C,h1,h2⟩:=h;exact⟨C,h1.Xp g.1 fun b hb=>(by obtain⟨k1,k2,k3⟩:=h1.iW hb;exact hk b hb k1 k2 k3),h2.imp fun _ _ h=>h.bY g⟩
theorem PS.res {own:Nat->Nat} {H H':ag} {p:Nat} {st:List AE} (h:PS own H p st) (hE:Ext H H') {b:Nat} (hb:H.next<=b) (dP:b<H'.next):PS (mI own b 1) H' p st/\bM own H (mI own b 1) H':=by
 obtain⟨h1,h2,h3,sv,ps,h4,h5,h6⟩:=h;have hS:eR 1 own H (mI own b 1) H':=⟨hE.1,fun q hq _=>⟨mJ om,hE.2 q hq⟩⟩;refine⟨⟨by rw[mJ om];exact h1,Nat.lt_of_lt_of_le h2 hE.1,fun q hq=>by rw[mJ om];exact h3 q om,sv,ps,(hE.2 p h2).trans h4,h5.ax hE.1 fun q hq hn=>⟨by rw[mJ om];exact hq,hE.2 q hn⟩,h6.af hS (by decide) (.inl rfl)⟩,hS.bY (by decide)⟩
theorem iM.one {own:Nat->Nat} {H:ag} {sv:SV} {ps:List Nat} (h:iM own H sv ps):SV.one sv=true:=by
 obtain⟨b,c,cs,ex,rfl,_⟩:=h;rfl
theorem iM.app {own:Nat->Nat} {H:ag} {sv:SV} {ps:List Nat} (h:iM own H sv ps) (hl:ps.length<1000) {eb b':Nat} (dP:H.get b'=some (.row [.ptr eb 0] 286 true false 0)) (aP:b'<H.next):
 ∃H',fu H false 286 1 8 sv (.slice b' 0 1 (some 1) 1)=some (.slice H.next 0 (ps.length+1) none 1,H')/\H'.next=H.next+1/\H'.get H.next=some (.row (oF (eb::ps)) 286 false false 0)/\∀q,q<H.next->(own q=1->(∃cs ty ex,H.get q=some (.row cs ty ex false 0)/\ty≠286))->H'.get q=H.get q:=by
 obtain⟨b,c,cs,ex,rfl,h2,h3,h4,h5,h6,h7⟩:=h;have ew:=HM (z:=1) (c:=some 1) rfl dP;have fG:(oF ps).length=ps.length:=by simp[oF]
 have bO:ps.length<=cs.length:=by
  have:=congrArg List.length h7;rw[List.length_take,fG]at this;omega
 have kJ:eK H b 0 (ps.length*1)=some (oF ps):=by
  rw[ot,h6,jl om,List.drop_zero,Nat.mul_one,h7]
 have b1:Nat.ble ((ps.length+1)*8) dR=true:=dN (by show _<=35184372088832;omega);have b2:Nat.ble (ps.length+1) dR=true:=dN (by show _<=35184372088832;omega);have U4:oF (eb::ps)=oF ps++[.ptr eb 0]:=by simp[oF]
 cases c with
 |none=>
  obtain rfl:=h3 rfl;refine⟨(H.put b .dead).push (.row (oF ps++[.ptr eb 0]) 286 false false 0),?_,rfl,?_,?_⟩
  ·simp only[fu,gP,ew,l0,b1,b2,kJ,h6,Bool.and_self];rw[dN (Nat.zero_le _)];rfl
  ·rw[U4];exact bd (H:=H.put b .dead) _
  ·intro q hq ho;have:q≠b:=fun e1=>by
    obtain⟨iO,ty,l8,g1,g2⟩:=ho (by rw[e1];exact h4);rw[e1]at g1;exact g2 (sV g1 h6)
   rw[cU (by exact hq),cI this]
 |some k=>
  obtain⟨rfl,jQ⟩:=h2 k rfl;refine⟨H.push (.row (oF ps++[.ptr eb 0]) 286 false false 0),?_,rfl,?_,?_⟩
  ·have:Nat.ble (ps.length+1) 1=false:=by rw[jQ];rfl
   simp only[fu,gP,ew,l0,b1,b2,kJ,this,Bool.and_self]
  ·rw[U4];exact bd _
  ·intro q hq _;exact cU hq
section
variable {lf n:Nat} {H:ag} {own:Nat->Nat}
theorem N1 {p eb:Nat} {st:List AE} {e:AE} {x:List Nat} (h:PS own H p st) (aD:bC st) (he:H.get eb=some (.row [iN e.kind,iN e.tag,iN e.count,.ao,.ao] 289 true false 0)) (jv:e.list=[]) (LI:e.args=[]) (xp:eb<H.next) (ho:own eb=1) (T8:e.count<=100000)
 (hb:(aU st).length+x.length<=90000) (hr:st.length<900) (hn:3<=n):
 ∃au H',aj ak lf n 269 [.ptr p 0,.ptr eb 0,.str x] H=some (.aJ [],H')/\PS au H' p (lY e x st)/\bM own H au H':=by
 obtain⟨n,rfl⟩:=aN (n:=n);have eO:=h;obtain⟨h1,h2,h3,sv,ps,h4,h5,h6⟩:=h;have fG:=h6.len;have r0:aq (H.get p) 0 1=some [sv]:=by rw[h4];rfl
 have aW:=h5.cA;rw[fG]at aW;have key:∃w H',aj ak lf (n+1) 269 [.ptr p 0,.ptr eb 0,.str x] H=some (w,H')/\w=.aJ []/\∃au,PS au H' p (lY e x st)/\bM own H au H':=by
  by_cases ni:20<st.length
  ·have d1:decide (((st.length:Nat):Int)>((20:Nat):Int))=true:=dt;have b8:lY e x st=bI x st:=if_pos ni;obtain⟨c5,H2,aH,fj,bK⟩:=oG (lf:=lf) (n:=n) (s:=x) eO aD om om om;refine cx DN.1 ?_;refine af (An @r0 (An @aW @d1)) ?_;refine ar ae ?_;refine af ae ?_;refine ai ae aH ?_;refine af ae ?_;refine gQ bQ ?_;exact(⟨rfl,c5,by rw[b8];exact fj,bK⟩)
  ·have d1:decide (((st.length:Nat):Int)>((20:Nat):Int))=false:=df;have b8:lY e x st=e::st:=if_neg ni;obtain⟨H1,ay⟩:∃H1,H.push (.row [.ptr eb 0] 286 true false 0)=H1:=⟨_,rfl⟩;have aB:Ext H H1:=by rw[<-ay];exact(Ext.refl H).push _
   have ca:H1.next=H.next+1:=by rw[<-ay];rfl
   have gW:H1.get H.next=some (.row [.ptr eb 0] 286 true false 0):=by rw[<-ay];exact bd _
   have KT:=h5.ax (au:=own) aB.1 fun b hb hn=>⟨hb,aB.2 b hn⟩
   obtain⟨H2,ju,dc,bB,hold⟩:=KT.app om gW om;rw[fG,ca]at ju;rw[ca]at dc bB hold;have r01:aq (H1.get p) 0 1=some [sv]:=by rw[aB.2 p h2];exact r0
   have ij:H2.get p=some (.row [sv] 292 true false 0):=by rw[hold p om fun _=>⟨_,_,_,(aB.2 p h2).trans h4,by decide⟩,aB.2 p h2];exact h4
   obtain⟨H3,ch⟩:∃H3,H2.put p (.row [.slice (H.next+1) 0 (st.length+1) none 1] 292 true false 0)=H3:=⟨_,rfl⟩;have ez:c7 1 (.ptr p 0) [.slice (H.next+1) 0 (st.length+1) none 1] H2=some H3:=by rw[<-ch];exact gY ij rfl (Nat.le_refl _) (Nat.le_refl _)
   have fo:H3.next=H.next+2:=by rw[<-ch];exact dc
   have zI:p≠eb:=fun e1=>by rw[e1]at h4;exact absurd (sV h4 he) (by decide)
   have Cm:∀q,q<H.next->(own q=1->q=eb)->H3.get q=H.get q:=fun q hq U7=>by
    have hqp:q≠p:=fun e1=>zI (by rw[<-e1];exact U7 (by rw[e1];exact h1))
    rw[<-ch,cI hqp,hold q om (fun ho=>by
     have:=U7 ho;subst this;exact⟨_,_,_,(aB.2 q hq).trans he,by decide⟩),aB.2 q hq]
   let au:Nat->Nat:=mI (mI own (H.next+1) 1) eb (st.length+2)
   have ow:∀q,q<H.next->q≠eb->au q=own q:=fun q hq aP=>by
    show mI _ _ _ q=_;rw[mJ aP,mJ om]
   have hS:eR 1 own H au H3:=⟨by omega,fun q hq rk=>⟨ow q hq (fun e1=>rk (by rw[e1];exact ho)),Cm q hq fun e1=>absurd e1 rk⟩⟩;have hP:bM own H au H3:=hS.bY (by decide);have fy:PS au H3 p (lY e x st):=by
    rw[b8];refine⟨(ow p h2 zI).trans h1,by omega,fun q hq=>?_,_,eb::ps,by rw[<-ch];exact bT _ _,⟨H.next+1,none,oF (eb::ps),false,by rw[List.length_cons,fG],fun q h=>(by cases h),fun _=>rfl,?_,by omega,?_,List.take_of_length_le (by simp[oF])⟩,⟨?_,by omega,T8,.ao,.ao,(Cm eb xp fun _=>rfl).trans he,.inl ⟨LI,rfl,by rw[jv];exact MN.nil⟩⟩,h6.af hS (by decide) (.inl rfl)⟩
    ·show mI _ _ _ q=0;rw[mJ om,mJ om];exact h3 q om
    ·show mI _ _ _ _=1;rw[mJ om,xS]
    ·rw[<-ch,cI om];exact bB
    ·exact xS ..
   refine cx DN.1 ?_;refine af (An @r0 (An @aW @d1)) ?_;refine ah ae ?_;refine af (An @r0 (An @ay (An @ju @ez))) ?_;refine cF bQ ?_;exact(⟨rfl,au,fy,hP⟩)
 obtain⟨w,H',hc,rfl,au,k1,k2⟩:=key;exact⟨au,H',hc,k1,k2⟩
end
end
end Go.Sh
