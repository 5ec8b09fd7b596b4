/-
  Slices of the heap: what they hold and what keeps them. No conditions beyond those that stand in the theorems.
-/
import Derived.Test.YtfgpklidnkdahaaGreatDoorShC0
set_option linter.all false
set_option maxHeartbeats 20000000
set_option maxRecDepth 10000
namespace Go.Sh
section
def br (H:ag) (v:SV) (z:Nat) (L:List (List SV)):Prop:=
 dq z L/\((L=[]/\v=.ao)\/∃b c e ex ro frz,v=.slice b 0 L.length c z/\(∀k,c=some k->k=L.length)/\b<H.next/\H.get b=some (.row L.flatten e ex ro frz))
theorem br.ax {H H':ag} {v:SV} {z:Nat} {L:List (List SV)} (h:br H v z L) (hE:Ext H H'):br H' v z L:=by
 refine⟨h.1,?_⟩;rcases h.2 with h|⟨b,c,e,ex,ro,frz,h1,hc,h2,h3⟩
 ·exact .inl h
 ·exact .inr ⟨b,c,e,ex,ro,frz,h1,hc,Nat.lt_of_lt_of_le h2 hE.1,(hE.2 b h2).trans h3⟩
theorem br.kB {H:ag} {v:SV} {z:Nat} {L:List (List SV)} (h:br H v z L):br H.kB v z L:=by
 refine⟨h.1,?_⟩;rcases h.2 with h|⟨b,c,e,ex,ro,frz,h1,hc,h2,h3⟩
 ·exact .inl h
 ·exact .inr ⟨b,c,e,ex,true,frz,h1,hc,h2,ag.ac5 h3⟩
theorem br.cA {H:ag} {v:SV} {z:Nat} {L:List (List SV)} (h:br H v z L):kn v=some (.int .i64 (L.length:Int)):=by
 rcases h.2 with⟨rfl,rfl⟩|⟨b,c,e,ex,ro,frz,rfl,_⟩<;>rfl
theorem br.one {H:ag} {v:SV} {z:Nat} {L:List (List SV)} (h:br H v z L):SV.one v=true:=by
 rcases h.2 with⟨_,rfl⟩|⟨b,c,e,ex,ro,frz,rfl,_⟩<;>rfl
theorem br.cells {H:ag} {v:SV} {z:Nat} {L:List (List SV)} (h:br H v z L):v.cells=[v]:=by
 rcases h.2 with⟨_,rfl⟩|⟨b,c,e,ex,ro,frz,rfl,_⟩<;>rfl
theorem br.bq {H:ag} {v:SV} {z:Nat} {L:List (List SV)} (h:br H v z L):bD v v=true:=by
 rcases h.2 with⟨_,rfl⟩|⟨b,c,e,ex,ro,frz,rfl,_⟩
 ·rfl
 ·exact uT _ _ _ _ _
theorem br.at_ {H:ag} {v:SV} {z:Nat} {L:List (List SV)} (h:br H v z L) {i:Nat} {x:List SV} (hi:L[i]? =some x):
 ∃b o,kN z v (.int .i64 (i:Int))=some (.ptr b o)/\b<H.next/\aq (H.get b) o z=some x/\x.length=z:=by
 have hlt:=(List.getElem?_eq_some_iff.1 hi).1;rcases h.2 with⟨rfl,rfl⟩|⟨b,c,e,ex,ro,frz,rfl,_,h2,h3⟩
 ·simp at hlt
 ·refine⟨b,0+((i:Int).toNat)*z,qh om om,h2,?_,h.1 x (List.mem_of_getElem? hi)⟩;rw[h3,Nat.zero_add,show((i:Int)).toNat=i from rfl];exact Oq h.1 hi
def bZ (L:List (List Nat)):List (List SV):=L.map fun s=>[.str s]
theorem kt (L:List (List Nat)):(bZ L).length=L.length:=by simp[bZ]
theorem vU (L:List (List Nat)):(bZ L).flatten=L.map SV.str:=by
 induction L with
 |nil=>rfl
 |cons x L ih=>simp only[bZ,List.map_cons,List.flatten_cons]at ih ⊢;rw[ih];rfl
theorem yn {L:List (List Nat)} {i:Nat} {s:List Nat} (h:L[i]? =some s):(bZ L)[i]? =some [.str s]:=by simp[bZ,h]
theorem sZ (L:List (List Nat)):dq 1 (bZ L):=by
 intro x hx;obtain⟨s,_,rfl⟩:=List.mem_map.1 hx;rfl
theorem c8 {k:Nat} (h:k<1000000):IntKind.wrap .i64 ((k:Int)+((1:Nat):Int))=((k+1:Nat):Int):=by rw[wrap_i64 om om];omega
def pF (H:ag) (x:SV) (z:Nat) (K:List (List SV)):Prop:=dq z K/\∃cs,lT H false z x=some (K.length,cs)/\(K≠[]->cs=K.flatten)
theorem KI {z:Nat}:∀{L:List (List SV)} (i m:Nat),dq z L->(L.flatten.drop (i*z)).take (m*z)=((L.drop i).take m).flatten
 |[],i,m,_=>by simp
 |x::L,0,0,_=>by simp
 |x::L,0,m+1,h=>by
  have hx:=h x (List.mem_cons_self ..);have ih:=KI (L:=L) 0 m fun y hy=>h y (List.mem_cons_of_mem _ hy)
  simp only[Nat.zero_mul,List.drop_zero]at ih ⊢;rw[List.take_succ_cons,List.flatten_cons,List.flatten_cons,Nat.add_mul,Nat.one_mul,List.take_append,hx,List.take_of_length_le om,show m*z+z-z=m*z by omega,ih]
 |x::L,i+1,m,h=>by
  have hx:=h x (List.mem_cons_self ..);have ih:=KI (L:=L) i m fun y hy=>h y (List.mem_cons_of_mem _ hy)
  rw[List.drop_succ_cons,<-ih,List.flatten_cons,Nat.add_mul,Nat.one_mul,List.drop_append,hx,List.drop_of_length_le om,show i*z+z-z=i*z by omega,List.nil_append]
theorem dq.sub {z:Nat} {L:List (List SV)} (h:dq z L) (i m:Nat):dq z ((L.drop i).take m):=fun x hx=>h x (List.mem_of_mem_drop (List.mem_of_mem_take hx))
theorem dq.app {z:Nat} {L K:List (List SV)} (h:dq z L) (k:dq z K):dq z (L++K):=fun x hx=>(List.mem_append.1 hx).elim (h x) (k x)
theorem HN {H:ag} {b i m z:Nat} {c:Option Nat} {L:List (List SV)} {e:TypeId} {ex ro:Bool} {frz:Nat} (hL:dq z L) (hb:H.get b=some (.row L.flatten e ex ro frz)) (hm:i+m<=L.length):pF H (.slice b (i*z) m c z) z ((L.drop i).take m):=by
 refine⟨hL.sub i m,?_⟩;have hlen:((L.drop i).take m).length=m:=by simp;omega
 cases m with
 |zero=>exact⟨[],by simp[lT],fun h=>by simp at h⟩
 |succ m=>
  refine⟨((L.drop i).take (m+1)).flatten,?_,fun _=>rfl⟩;rw[hlen];show(match Nat.beq z z with|true=>(match eK H b (i*z) ((m+1)*z)with|some cs=>some (m+1,cs)|none=>none)|false=>none)=_;have h1:i*z+(m+1)*z<=L.flatten.length:=by rw[l9 hL,<-Nat.add_mul];exact Nat.mul_le_mul_right z hm
  rw[l0,ot,hb,jl h1,KI i (m+1) hL]
theorem br.hi {H:ag} {v:SV} {z:Nat} {L:List (List SV)} (h:br H v z L) {k:Nat} (hk:k<=L.length):∃w,kq z none (some (.int .i64 (k:Int))) v=some w/\pF H w z (L.take k)/\∀b o n c z',w=.slice b o n c z'->b<H.next:=by
 rcases h.2 with⟨rfl,rfl⟩|⟨b,c,e,ex,ro,frz,rfl,hc,h2,h3⟩
 ·have:k=0:=by simpa using hk
  subst this;exact⟨.ao,rfl,⟨h.1.sub 0 0,[],rfl,fun h=>absurd rfl h⟩,fun _ _ _ _ _ h=>(by cases h)⟩
 ·have nW:ln c L.length=L.length:=by
   cases c with
   |none=>rfl
   |some q=>exact hc q rfl
  refine⟨_,Dj om (by rw[nW];omega),?_,fun b' o n c' z' e=>by
   unfold iX at e
   (repeat' split at e)<;>cases e<;>exact h2⟩
  have hs:=fun c'=>HN (c:=c') (i:=0) (m:=k) h.1 h3 om
  rw[List.drop_zero]at hs;cases c with
  |none=>simpa[iX]using hs none
  |some q=>
   have hq:=hc q rfl;subst hq;by_cases hz:L.length=0
   ·have h0:L=[]:=by simpa using hz
    subst h0;have:k=0:=by simpa using hk
    subst this;simpa[iX]using hs (some 0)
   ·have:Nat.beq L.length 0=false:=beq_false hz;simpa[iX,this]using hs (some L.length)
theorem br.lo {H:ag} {v:SV} {z:Nat} {L:List (List SV)} (h:br H v z L) {k:Nat} (hk:k<=L.length):∃w,kq z (some (.int .i64 (k:Int))) none v=some w/\pF H w z (L.drop k)/\∀b o n c z',w=.slice b o n c z'->b<H.next:=by
 rcases h.2 with⟨rfl,rfl⟩|⟨b,c,e,ex,ro,frz,rfl,hc,h2,h3⟩
 ·have:k=0:=by simpa using hk
  subst this;exact⟨.ao,rfl,⟨h.1.sub 0 0,[],rfl,fun h=>absurd rfl h⟩,fun _ _ _ _ _ h=>(by cases h)⟩
 ·refine⟨_,akw om om,?_,fun b' o n c' z' e=>by
   unfold iX at e
   (repeat' split at e)<;>cases e<;>exact h2⟩
  have hs:=fun c'=>HN (c:=c') (i:=k) (m:=L.length-k) h.1 h3 om
  rw[List.take_of_length_le (by simp)]at hs;cases c with
  |none=>simpa[iX]using hs none
  |some q=>
   have hq:=hc q rfl;subst hq;cases ng:Nat.beq L.length k with
   |false=>simpa[iX,ng]using hs (some (L.length-k))
   |true=>
    have eJ:=Nat.eq_of_beq_eq_true ng;have hd:L.drop k=[]:=by simp[eJ]
    rw[hd];refine⟨fun x hx=>(by cases hx),[],?_,fun h=>absurd rfl h⟩;simp[iX,ng,eJ,lT]
theorem Jx {H:ag} {B0 e z bytes:Nat} {v x:SV} {L K:List (List SV)} (hS:Sl B0 e z H v L) (hL:dq z L) (hx:pF H x z K) (bV:K.flatten.all SV.one=true) (hB:B0<=H.next)
 (h1:(L.length+K.length)*bytes<=35184372088832) (h2:L.length+K.length<=35184372088832):
 ∃v' H',gP H false e z bytes v x=some (v',H')/\Sl B0 e z H' v' (L++K)/\H.next<=H'.next/\(∀k,k<B0->H'.get k=H.get k):=by
 obtain⟨hK,cs,ew,hcs⟩:=hx;by_cases tM:K=[]
 ·subst tM;refine⟨v,H,?_,by rw[List.append_nil];exact hS,Nat.le_refl _,fun _ _=>rfl⟩;simp only[gP,ew,List.length_nil];rcases hS with⟨_,rfl⟩|⟨_,b,_,_,rfl,_⟩<;>rfl
 ·have hK1:K.length≠0:=by simpa using tM
  obtain⟨n,hn⟩:∃n,K.length=n+1:=⟨K.length-1,by omega⟩;have hcs:=hcs tM;subst hcs;rw[hn]at ew h1 h2;have b1:Nat.ble ((L.length+(n+1))*bytes) dR=true:=dN h1;have b2:Nat.ble (L.length+(n+1)) dR=true:=dN h2;rcases hS with⟨rfl,rfl⟩|⟨aP,b,gT,bU,rfl,hb⟩
  ·simp only[List.length_nil,Nat.zero_add]at b1 b2;refine⟨.slice H.next 0 (n+1) none z,H.push (.row K.flatten e false false 0),?_,.inr ⟨by simpa using tM,H.next,hB,Nat.lt_succ_self _,by rw[List.nil_append,hn],by rw[List.nil_append];exact bd _⟩,Nat.le_succ _,fun k hk=>cU om⟩;simp only[gP,ew,b1,b2,Bool.and_self]
  ·have kJ:eK H b 0 (L.length*z)=some L.flatten:=by
    rw[ot,hb,jl (by rw[l9 hL];omega),List.drop_zero,<-l9 hL,List.take_length]
   refine⟨.slice H.next 0 (L.length+(n+1)) none z,(H.put b .dead).push (.row (L.flatten++K.flatten) e false false 0),?_,.inr ⟨by simp[aP],H.next,hB,Nat.lt_succ_self _,by rw[List.length_append,hn],by rw[List.flatten_append];exact bd (H:=H.put b .dead) _⟩,Nat.le_succ _,fun k hk=>?_⟩
   ·simp only[gP,ew,l0,b1,b2,Bool.and_self,kJ,hb,bV];rw[dN (Nat.zero_le _)];rfl
   ·rw[cU (H:=H.put b .dead) (show k<H.next by omega),cI om]
theorem Sl.aQ {B0 e z:Nat} {H:ag} {v:SV} {L:List (List SV)} (h:Sl B0 e z H v L) (hL:dq z L):br H v z L:=by
 refine⟨hL,?_⟩;rcases h with h|⟨aP,b,gT,bU,rfl,hb⟩
 ·exact .inl h
 ·exact .inr ⟨b,none,e,false,false,0,rfl,(fun k h=>(by cases h)),bU,hb⟩
theorem Sl.nil {B0 e z:Nat} {H:ag}:Sl B0 e z H .ao []:=.inl ⟨rfl,rfl⟩
theorem pF.ax {H H':ag} {x:SV} {z:Nat} {K:List (List SV)} (h:pF H x z K) (hk:∀b o n c,x=.slice b o n c z->H'.get b=H.get b):pF H' x z K:=by
 refine⟨h.1,?_⟩;obtain⟨cs,h1,h2⟩:=h.2;refine⟨cs,?_,h2⟩;rw[<-h1];cases x with
 |slice b o n c z'=>
  cases n with
  |zero=>rfl
  |succ n=>
   simp only[lT];cases hz:Nat.beq z z' with
   |false=>rfl
   |true=>
    have:=Nat.eq_of_beq_eq_true hz;subst this;rw[ot,ot,hk b o (n+1) c rfl]
 |_=>rfl
theorem aiL {ts:T} {H:ag} (z:Nat) (h x:X):evalOp (.lS z none (some h) none x) ts H=fp (kq z none (some (h.ev ts)) (x.ev ts)) H:=NZ z none (some h) x
theorem aiM {ts:T} {H:ag} (z:Nat) (l x:X):evalOp (.lS z (some l) none none x) ts H=fp (kq z (some (l.ev ts)) none (x.ev ts)) H:=NZ z (some l) none x
attribute [go_sem] aiL aiM WQ
def cR (k p:Nat) (H H':ag):Prop:=H.next<=H'.next/\∀b,b<H.next->b≠k->b≠p->H'.get b=H.get b
theorem cR.refl (k p:Nat) (H:ag):cR k p H H:=⟨Nat.le_refl _,fun _ _ _ _=>rfl⟩
theorem cR.trans {k p:Nat} {H1 H2 H3:ag} (h:cR k p H1 H2) (g:cR k p H2 H3):cR k p H1 H3:=⟨Nat.le_trans h.1 g.1,fun b hb h1 h2=>(g.2 b (Nat.lt_of_lt_of_le hb h.1) h1 h2).trans (h.2 b hb h1 h2)⟩
theorem Ext.dy {k p:Nat} {H1 H2:ag} (h:Ext H1 H2):cR k p H1 H2:=⟨h.1,fun b hb _ _=>h.2 b hb⟩
theorem cR.put {k p:Nat} {H1 H2:ag} (h:cR k p H1 H2) (o:cz):cR k p H1 (H2.put p o):=⟨h.1,fun b hb h1 h2=>by rw[cI h2];exact h.2 b hb h1 h2⟩
theorem cR.other {k p q:Nat} {H1 H2:ag} (h:cR k q H1 H2) (hq:∀b,b<H1.next->b≠p->b≠q):cR k p H1 H2:=⟨h.1,fun b hb h1 h2=>h.2 b hb h1 (hq b hb h2)⟩
theorem cR.old {k p b:Nat} {H1 H2:ag} (h:cR k p H1 H2) (hb:b<H1.next) (h1:b≠k) (h2:b≠p) {o:cz} (hg:H1.get b=some o):H2.get b=some o:=(h.2 b hb h1 h2).trans hg
def RB (B:Nat) (H:ag) (v:SV) (z:Nat) (L:List (List SV)):Prop:=
 dq z L/\((L=[]/\v=.ao)\/∃b c e ex ro frz,v=.slice b 0 L.length c z/\(∀k,c=some k->k=L.length)/\B<=b/\b<H.next/\H.get b=some (.row L.flatten e ex ro frz))
theorem RB.aQ {B:Nat} {H:ag} {v:SV} {z:Nat} {L:List (List SV)} (h:RB B H v z L):br H v z L:=by
 refine⟨h.1,?_⟩;rcases h.2 with h|⟨b,c,e,ex,ro,frz,h1,hc,_,h2,h3⟩
 ·exact .inl h
 ·exact .inr ⟨b,c,e,ex,ro,frz,h1,hc,h2,h3⟩
theorem RB.ax {B:Nat} {H H':ag} {v:SV} {z:Nat} {L:List (List SV)} (h:RB B H v z L) {k p:Nat} (hk:k<B) (hp:p<B\/H.next<=p) (hF:cR k p H H'):RB B H' v z L:=by
 refine⟨h.1,?_⟩;rcases h.2 with h|⟨b,c,e,ex,ro,frz,h1,hc,hB,h2,h3⟩
 ·exact .inl h
 ·exact .inr ⟨b,c,e,ex,ro,frz,h1,hc,hB,Nat.lt_of_lt_of_le h2 hF.1,(hF.2 b h2 om om).trans h3⟩
theorem RB.ext {B:Nat} {H H':ag} {v:SV} {z:Nat} {L:List (List SV)} (h:RB B H v z L) (hE:Ext H H'):RB B H' v z L:=by
 refine⟨h.1,?_⟩;rcases h.2 with h|⟨b,c,e,ex,ro,frz,h1,hc,hB,h2,h3⟩
 ·exact .inl h
 ·exact .inr ⟨b,c,e,ex,ro,frz,h1,hc,hB,Nat.lt_of_lt_of_le h2 hE.1,(hE.2 b h2).trans h3⟩
theorem RB.nil {B:Nat} {H:ag} {z:Nat}:RB B H .ao z []:=⟨(fun _ h=>by cases h),.inl ⟨rfl,rfl⟩⟩
theorem Sl.rb {B0 B e z:Nat} {H:ag} {v:SV} {L:List (List SV)} (h:Sl B0 e z H v L) (hB:B<=B0) (hL:dq z L):RB B H v z L:=by
 refine⟨hL,?_⟩;rcases h with h|⟨aP,b,gT,bU,rfl,hb⟩
 ·exact .inl h
 ·exact .inr ⟨b,none,e,false,false,0,rfl,(fun k h=>(by cases h)),by omega,bU,hb⟩
theorem br.Dm {H:ag} {v:SV} {z:Nat} {L:List (List SV)} (h:br H v z L):pF H v z L:=by
 rcases h.2 with⟨rfl,rfl⟩|⟨b,c,e,ex,ro,frz,rfl,hc,h2,h3⟩
 ·exact⟨h.1,[],rfl,fun h=>absurd rfl h⟩
 ·have:=HN (i:=0) (m:=L.length) (c:=c) h.1 h3 om;simpa using this
theorem br.under {H:ag} {v:SV} {z:Nat} {L:List (List SV)} (h:br H v z L) {b:Nat} (hb:H.next<=b):SV.under b v=true:=by
 rcases h.2 with⟨rfl,rfl⟩|⟨b',c,e,ex,ro,frz,rfl,hc,h2,h3⟩
 ·rfl
 ·show Nat.blt b' b=true;exact qB om
theorem yK {H:ag} {v:SV} {z:Nat} {L:List (List SV)} (h:br H v z L) (bV:L.flatten.all SV.one=true) (hl:L.length<1000000) (e bytes:Nat) (hb:bytes<=1000):
 ∃v1 H1,fu H false e z bytes .ao v=some (v1,H1)/\Ext H H1/\Sl H.next e z H1 v1 L:=by
 have hm:([]:List (List SV)).length+L.length<=999999:=by simp;omega
 have:=Jx (bytes:=bytes) (B0:=H.next) (e:=e) (L:=[]) Sl.nil (fun _ h=>by cases h) h.Dm bV (Nat.le_refl _) (Nat.le_trans (Nat.mul_le_mul hm hb) (by decide)) (Nat.le_trans hm (by decide));obtain⟨v1,H1,h1,h2,h3,h4⟩:=this;exact⟨v1,H1,h1,⟨h3,h4⟩,by simpa using h2⟩
theorem wt {H:ag} {B1 e z b':Nat} {v:SV} {L:List (List SV)} {x:List SV} {e':TypeId} {ex ro:Bool} {frz:Nat} (hS:Sl B1 e z H v L) (hL:dq z L) (hx:x.length=z) (bV:x.all SV.one=true) (dP:H.get b'=some (.row x e' ex ro frz)) (hB:B1<=H.next) (hl:L.length<1000000) (bytes:Nat) (hb:bytes<=1000):
 ∃v2 H2,fu H false e z bytes v (.slice b' 0 1 (some 1) z)=some (v2,H2)/\Sl B1 e z H2 v2 (L++[x])/\H.next<=H2.next/\∀k,k<B1->H2.get k=H.get k:=by
 have hm:L.length+1<=1000000:=om;obtain⟨v2,H2,h1,h2,h3,h4⟩:=Rr (bytes:=bytes) (c:=some 1) hS hL hx bV dP hB (Nat.le_trans (Nat.mul_le_mul hm hb) (by decide)) (Nat.le_trans hm (by decide));exact⟨v2,H2,h1,h2,by omega,h4⟩
theorem Jv {H:ag} {v:SV} {z b':Nat} {L:List (List SV)} {x:List SV} {e':TypeId} {ex ro:Bool} {frz:Nat} (h:br H v z L) (bV:L.flatten.all SV.one=true) (hl:L.length<999999) (hx:x.length=z) (MB:x.all SV.one=true) (dP:H.get b'=some (.row x e' ex ro frz)) (hlt:b'<H.next) (e bytes:Nat) (hb:bytes<=1000):
 ∃v1 H1 v2 H2,fu H false e z bytes .ao v=some (v1,H1)/\fu H1 false e z bytes v1 (.slice b' 0 1 (some 1) z)=some (v2,H2)/\Ext H H1/\Ext H H2/\RB H.next H2 v2 z (L++[x]):=by
 obtain⟨v1,H1,h1,hE,hS⟩:=yK h bV om e bytes hb;obtain⟨v2,H2,h2,iB,h3,h4⟩:=wt hS h.1 hx MB ((hE.2 _ hlt).trans dP) hE.1 om bytes hb;refine⟨v1,H1,v2,H2,h1,h2,hE,⟨Nat.le_trans hE.1 h3,fun b hb=>(h4 b hb).trans (hE.2 b hb)⟩,iB.rb (Nat.le_refl _) (h.1.app fun y hy=>by rw[List.mem_singleton.1 hy];exact hx)⟩
theorem RB.mono {B B':Nat} {H:ag} {v:SV} {z:Nat} {L:List (List SV)} (h:RB B H v z L) (hB:B'<=B):RB B' H v z L:=by
 refine⟨h.1,?_⟩;rcases h.2 with h|⟨b,c,e,ex,ro,frz,h1,hc,hb,h2,h3⟩
 ·exact .inl h
 ·exact .inr ⟨b,c,e,ex,ro,frz,h1,hc,by omega,h2,h3⟩
theorem gY {H:ag} {b o:Nat} {v:SV} {cs:List SV} {e:TypeId} {ex:Bool} {frz:Nat} (hb:H.get b=some (.row cs e ex false frz)) (ho:SV.one v=true) (h1:o+1<=cs.length) (h2:frz<=o):c7 1 (.ptr b o) [v] H=some (H.put b (.row (cs.set o v) e ex false frz)):=by
 rw[iL (n:=1) (cs:=[v]) rfl,iq,hb,im (by simpa using h1) h2 (by simp[ho])];rw[List.length_cons,List.length_nil,List.set_eq_take_append_cons_drop,if_pos om];simp
def RW (B e:Nat) (H:ag) (v:SV) (z:Nat) (L:List (List SV)):Prop:=
 dq z L/\((L=[]/\v=.ao)\/∃b c ex,v=.slice b 0 L.length c z/\(∀k,c=some k->k=L.length)/\(c=none->L≠[]/\ex=false)/\B<=b/\b<H.next/\H.get b=some (.row L.flatten e ex false 0))
theorem RW.rb {B e:Nat} {H:ag} {v:SV} {z:Nat} {L:List (List SV)} (h:RW B e H v z L):RB B H v z L:=by
 refine⟨h.1,?_⟩;rcases h.2 with h|⟨b,c,ex,h1,hc,_,hB,h2,h3⟩
 ·exact .inl h
 ·exact .inr ⟨b,c,e,ex,false,0,h1,hc,hB,h2,h3⟩
theorem RW.nil {B e:Nat} {H:ag} {z:Nat}:RW B e H .ao z []:=⟨(fun _ h=>by cases h),.inl ⟨rfl,rfl⟩⟩
theorem RW.ax {B e nb:Nat} {H H':ag} {v:SV} {z:Nat} {L:List (List SV)} (h:RW B e H v z L) (hn:nb<B) (hE:H.next<=H'.next/\∀b,b<H.next->b≠nb->H'.get b=H.get b):RW B e H' v z L:=by
 refine⟨h.1,?_⟩;rcases h.2 with h|⟨b,c,ex,h1,hc,h4,hB,h2,h3⟩
 ·exact .inl h
 ·exact .inr ⟨b,c,ex,h1,hc,h4,hB,Nat.lt_of_lt_of_le h2 hE.1,(hE.2 b h2 om).trans h3⟩
theorem aaH {H:ag} {B b z:Nat} {x:SV} {L K:List (List SV)} {e:TypeId} {ex:Bool} (hB:B<=b) (bU:b<H.next) (hb:H.get b=some (.row L.flatten e ex false 0)) (hL:dq z L) (hx:pF H x z K) (hl:L.length+K.length<1000000) (bytes:Nat) (qU:bytes<=1000):
 ∃v' H',fu H false e z bytes (.slice b 0 L.length (some L.length) z) x=some (v',H')/\Ext H H'/\RW B e H' v' z (L++K):=by
 obtain⟨hK,cs,ew,hcs⟩:=hx;by_cases tM:K=[]
 ·subst tM;refine⟨.slice b 0 L.length (some L.length) z,H,by simp only[fu,gP,ew,List.length_nil],Ext.refl _,?_⟩;rw[List.append_nil];exact⟨hL,.inr ⟨b,some L.length,ex,rfl,(fun k h=>by cases h;rfl),(fun h=>(by cases h)),hB,bU,hb⟩⟩
 ·have hK1:K.length≠0:=by simpa using tM
  obtain⟨n,hn⟩:∃n,K.length=n+1:=⟨K.length-1,by omega⟩;have hcs:=hcs tM;subst hcs;rw[hn]at ew hl;have b1:Nat.ble ((L.length+(n+1))*bytes) dR=true:=dN (Nat.le_trans (Nat.mul_le_mul (by omega:L.length+(n+1)<=1000000) qU) (by decide));have b2:Nat.ble (L.length+(n+1)) dR=true:=dN (Nat.le_trans (by omega:L.length+(n+1)<=1000000) (by decide));have kJ:eK H b 0 (L.length*z)=some L.flatten:=by
   rw[ot,hb,jl (by rw[l9 hL];omega),List.drop_zero,<-l9 hL,List.take_length]
  have lH:Nat.ble (L.length+(n+1)) L.length=false:=by
   cases h:Nat.ble (L.length+(n+1)) L.length with
   |false=>rfl
   |true=>have:=Nat.le_of_ble_eq_true h;omega
  refine⟨.slice H.next 0 (L.length+(n+1)) none z,H.push (.row (L.flatten++K.flatten) e false false 0),?_,(Ext.refl H).push _,?_⟩
  ·simp only[fu,gP,ew,l0,b1,b2,Bool.and_self,kJ,lH]
  ·refine⟨hL.app hK,.inr ⟨H.next,none,false,by rw[List.length_append,hn],(fun k h=>(by cases h)),(fun _=>⟨by simp[tM],rfl⟩),by omega,Nat.lt_succ_self _,?_⟩⟩;rw[List.flatten_append];exact bd _
theorem A3 {call:cb} {lf:Nat} {c:er} {ts:T} {D:DS} {H:ag} {R R':fa->T->DS->ag->Prop} (hR:∀x aA D' H',R x aA D' H'->R' x aA D' H') (h:EC call lf c ts D H R):EC call lf c ts D H R':=by
 unfold EC at h ⊢;obtain⟨x,aA,D',H',e,hr⟩:=h;exact⟨x,aA,D',H',e,hR _ _ _ _ hr⟩
theorem nJ {call:cb} {lf:Nat} {c:er} {ts:T} {H:ag} {R:fa->T->DS->ag->Prop} (P:T->ag->Prop) (h1:EC call lf c ts [] H fun x aA D' H'=>x=.normal/\D'=[]/\P aA H') (h2:∀aA H',P aA H'->R .normal aA [] H'):EC call lf c ts [] H R:=
 A3 (fun x aA D' H' h=>by
  obtain⟨rfl,rfl,hp⟩:=h;exact h2 _ _ hp) h1
theorem ac8 {rs:List hJ} {P P':SV->ag->Prop} (hP:∀w H,P w H->P' w H):∀x aA D' H',qL rs P x aA D' H'->qL rs P' x aA D' H':=by
 intro x aA D' H' h;unfold qL at h ⊢;cases x with
 |exit id=>exact h.elim
 |_=>obtain⟨h1,v,h2,h3⟩:=h;exact⟨h1,v,h2,hP _ _ h3⟩
end
section
def bG {α β:Type} (R:α->β->Prop):List α->List β->Prop
 |[],[]=>True
 |a::xs,b::ys=>R a b/\bG R xs ys
 |_,_=>False
theorem bG.len {α β:Type} {R:α->β->Prop}:∀{xs:List α} {ys:List β},bG R xs ys->xs.length=ys.length
 |[],[],_=>rfl
 |a::xs,b::ys,h=>by rw[List.length_cons,List.length_cons,bG.len h.2]
theorem bG.imp {α β:Type} {R R':α->β->Prop} (hR:∀a b,R a b->R' a b):∀{xs:List α} {ys:List β},bG R xs ys->bG R' xs ys
 |[],[],_=>trivial
 |a::xs,b::ys,h=>⟨hR _ _ h.1,bG.imp hR h.2⟩
theorem bG.get {α β:Type} {R:α->β->Prop}:∀{xs:List α} {ys:List β} {i:Nat} {a:α} {b:β},bG R xs ys->xs[i]? =some a->ys[i]? =some b->R a b
 |[],[],i,a,b,_,h,_=>by simp at h
 |x::xs,y::ys,0,a,b,h,ha,hb=>by
  cases ha;cases hb;exact h.1
 |x::xs,y::ys,i+1,a,b,h,ha,hb=>bG.get (i:=i) h.2 (by simpa using ha) (by simpa using hb)
theorem bG.set {α β:Type} {R:α->β->Prop}:∀{xs:List α} {ys:List β} {i:Nat} {a:α} {b:β},bG R xs ys->ys[i]? =some b->R a b->bG R (xs.set i a) ys
 |[],[],i,a,b,h,_,_=>h
 |x::xs,y::ys,0,a,b,h,hb,hr=>by cases hb;exact⟨hr,h.2⟩
 |x::xs,y::ys,i+1,a,b,h,hb,hr=>⟨h.1,bG.set (i:=i) h.2 (by simpa using hb) hr⟩
theorem bG.app {α β:Type} {R:α->β->Prop}:∀{xs oM:List α} {ys QC:List β},bG R xs ys->bG R oM QC->bG R (xs++oM) (ys++QC)
 |[],_,[],_,_,h=>h
 |a::xs,_,b::ys,_,h,h'=>⟨h.1,bG.app h.2 h'⟩
theorem bG.take {α β:Type} {R:α->β->Prop}:∀{xs:List α} {ys:List β} (k:Nat),bG R xs ys->bG R (xs.take k) (ys.take k)
 |[],[],k,_=>by simp[bG]
 |a::xs,b::ys,0,_=>trivial
 |a::xs,b::ys,k+1,h=>⟨h.1,bG.take k h.2⟩
theorem bG.drop {α β:Type} {R:α->β->Prop}:∀{xs:List α} {ys:List β} (k:Nat),bG R xs ys->bG R (xs.drop k) (ys.drop k)
 |[],[],k,_=>by simp[bG]
 |a::xs,b::ys,0,h=>h
 |a::xs,b::ys,k+1,h=>bG.drop k h.2
end
end Go.Sh
