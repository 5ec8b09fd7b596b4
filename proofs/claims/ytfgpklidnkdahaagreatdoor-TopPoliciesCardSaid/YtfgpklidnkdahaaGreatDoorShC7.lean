/-
  Lists of nodes in the heap. No conditions beyond those that stand in the theorems.
-/
import Derived.Test.YtfgpklidnkdahaaGreatDoorShC4
import Derived.Test.YtfgpklidnkdahaaGreatDoorShC2
import Derived.Test.YtfgpklidnkdahaaGreatDoorShC5
set_option linter.all false
set_option maxHeartbeats 20000000
set_option maxRecDepth 10000
namespace Go.Sh
section
section
variable {ts:T} {H:ag}
def zV (n:Nat) (agg:Bool) (z:Nat) (v i:SV):Option SV:=match v,i with
 |.agg cs,.int _ (.ofNat k)=>match Nat.blt k n with
  |true=>qp agg z (k*z) cs
  |false=>none
 |_,_=>none
theorem aiw (n:Nat) (agg:Bool) (z:Nat) (x i:X):evalOp (.xQ n agg z x i) ts H=fp (zV n agg z (x.ev ts) (i.ev ts)) H:=by
 simp only[evalOp];generalize x.ev ts=v;generalize i.ev ts=u;cases v with
 |agg cs=>
  cases u with
  |int k m=>
   cases m with
   |ofNat m=>
    simp only[zV];cases Nat.blt m n with
    |false=>rfl
    |true=>dsimp only;cases qp agg z (m*z) cs<;>rfl
   |negSucc m=>rfl
  |_=>rfl
 |_=>rfl
end
attribute [go_sem] aiw
def Rg (ok:Nat->Prop) (H:ag) (v:SV) (z:Nat) (L:List (List SV)):Prop:=
 dq z L/\((L=[]/\(v=.ao\/∃b o c,v=.slice b o 0 c z))\/
  ∃b c e ex ro frz p q,v=.slice b p.length L.length c z/\ok b/\b<H.next/\H.get b=some (.row (p++(L.flatten++q)) e ex ro frz))
theorem Rg.ax {ok ok':Nat->Prop} {H H':ag} {v:SV} {z:Nat} {L:List (List SV)} (h:Rg ok H v z L) (hn:H.next<=H'.next) (hk:∀b,ok b->b<H.next->ok' b/\H'.get b=H.get b):Rg ok' H' v z L:=by
 refine⟨h.1,?_⟩;rcases h.2 with h|⟨b,c,e,ex,ro,frz,p,q,h1,h2,h3,h4⟩
 ·exact .inl h
 ·exact .inr ⟨b,c,e,ex,ro,frz,p,q,h1,(hk b h2 h3).1,by omega,(hk b h2 h3).2.trans h4⟩
theorem Rg.cA {ok:Nat->Prop} {H:ag} {v:SV} {z:Nat} {L:List (List SV)} (h:Rg ok H v z L):kn v=some (.int .i64 (L.length:Int)):=by
 rcases h.2 with⟨rfl,rfl|⟨b,o,c,rfl⟩⟩|⟨b,c,e,ex,ro,frz,p,q,rfl,_⟩<;>rfl
theorem Rg.one {ok:Nat->Prop} {H:ag} {v:SV} {z:Nat} {L:List (List SV)} (h:Rg ok H v z L):SV.one v=true:=by
 rcases h.2 with⟨_,rfl|⟨b,o,c,rfl⟩⟩|⟨b,c,e,ex,ro,frz,p,q,rfl,_⟩<;>rfl
theorem Rg.cells {ok:Nat->Prop} {H:ag} {v:SV} {z:Nat} {L:List (List SV)} (h:Rg ok H v z L):v.cells=[v]:=by
 rcases h.2 with⟨_,rfl|⟨b,o,c,rfl⟩⟩|⟨b,c,e,ex,ro,frz,p,q,rfl,_⟩<;>rfl
theorem Rg.bq {ok:Nat->Prop} {H:ag} {v:SV} {z:Nat} {L:List (List SV)} (h:Rg ok H v z L):bD v v=true:=by
 rcases h.2 with⟨_,rfl|⟨b,o,c,rfl⟩⟩|⟨b,c,e,ex,ro,frz,p,q,rfl,_⟩
 ·rfl
 ·exact uT _ _ _ _ _
 ·exact uT _ _ _ _ _
theorem ajD {z i:Nat} {L:List (List SV)} {x p q:List SV} {e:TypeId} {ex ro:Bool} {frz:Nat} (h:dq z L) (hi:L[i]? =some x):aq (some (.row (p++(L.flatten++q)) e ex ro frz)) (p.length+i*z) z=some x:=by
 have hlt:i<L.length:=(List.getElem?_eq_some_iff.1 hi).1;have h1:(i+1)*z<=L.length*z:=Nat.mul_le_mul_right z hlt;rw[Nat.add_mul,Nat.one_mul]at h1;have hf:=l9 h;rw[jl (by simp only[List.length_append];omega),List.drop_append,List.drop_of_length_le om,List.nil_append,Nat.add_sub_cancel_left,List.drop_append,List.take_append_of_le_length (by rw[List.length_drop];omega),EU h hi]
theorem Rg.at_ {ok:Nat->Prop} {H:ag} {v:SV} {z:Nat} {L:List (List SV)} (h:Rg ok H v z L) {i:Nat} {x:List SV} (hi:L[i]? =some x):
 ∃b o,kN z v (.int .i64 (i:Int))=some (.ptr b o)/\ok b/\b<H.next/\aq (H.get b) o z=some x/\x.length=z:=by
 have hlt:=(List.getElem?_eq_some_iff.1 hi).1;rcases h.2 with⟨rfl,_⟩|⟨b,c,e,ex,ro,frz,p,q,rfl,h2,h3,h4⟩
 ·simp at hlt
 ·refine⟨b,p.length+((i:Int).toNat)*z,qh om om,h2,h3,?_,h.1 x (List.mem_of_getElem? hi)⟩;rw[h4,show((i:Int)).toNat=i from rfl];exact ajD h.1 hi
theorem br.rg {H:ag} {v:SV} {z:Nat} {L:List (List SV)} (h:br H v z L):Rg (fun _=>True) H v z L:=by
 refine⟨h.1,?_⟩;rcases h.2 with⟨h1,h2⟩|⟨b,c,e,ex,ro,frz,h1,hc,h2,h3⟩
 ·exact .inl ⟨h1,.inl h2⟩
 ·exact .inr ⟨b,c,e,ex,ro,frz,[],[],by simpa using h1,trivial,h2,by simpa using h3⟩
theorem ajC {L:List (List SV)} {p q:List SV} {e:TypeId} {ex ro:Bool} {frz:Nat}:aq (some (.row (p++(L.flatten++q)) e ex ro frz)) p.length L.flatten.length=some L.flatten:=by
 rw[jl (by simp only[List.length_append];omega),List.drop_append,List.drop_of_length_le om,List.nil_append,Nat.sub_self,List.drop_zero,List.take_append_of_le_length om,List.take_length]
theorem Rg.Dm {ok:Nat->Prop} {H:ag} {v:SV} {z:Nat} {L:List (List SV)} (h:Rg ok H v z L):pF H v z L:=by
 refine⟨h.1,?_⟩;rcases h.2 with⟨rfl,rfl|⟨b,o,c,rfl⟩⟩|⟨b,c,e,ex,ro,frz,p,q,rfl,h2,h3,h4⟩
 ·exact⟨[],rfl,fun h=>absurd rfl h⟩
 ·exact⟨[],rfl,fun h=>absurd rfl h⟩
 ·cases hl:L.length with
  |zero=>exact⟨[],rfl,fun h=>absurd (List.eq_nil_of_length_eq_zero hl) h⟩
  |succ n=>
   refine⟨L.flatten,?_,fun _=>rfl⟩;show(match Nat.beq z z with|true=>(match eK H b p.length ((n+1)*z)with|some cs=>some (n+1,cs)|none=>none)|false=>none)=_;rw[l0,ot,h4,<-hl,<-l9 h.1,ajC]
theorem akv {z b o n:Nat} {cap:Option Nat} {k k':IntKind} {l h:Int} (h0:0<=l) (h1:l<=h) (hh:h<=(ln cap n:Nat)):kq z (some (.int k l)) (some (.int k' h)) (.slice b o n cap z)=some (iX b o z l.toNat h.toNat cap):=by
 have e:idx (.int k l) h.toNat=some l.toNat:=CR h0 om;simp only[kq,Nat.beq_refl,CR (k:=k') (by omega:(0:Int)<=h) hh,e]
theorem aiK {ts:T} {H:ag} (z:Nat) (l h x:X):evalOp (.lS z (some l) (some h) none x) ts H=fp (kq z (some (l.ev ts)) (some (h.ev ts)) (x.ev ts)) H:=NZ z (some l) (some h) x
theorem br.aiW {H:ag} {v:SV} {z:Nat} {L:List (List SV)} (h:br H v z L) {i:Nat} {x:List SV} (hi:L[i]? =some x):
 ∃w,kq z (some (.int .i64 (i:Int))) (some (.int .i64 ((i+1:Nat):Int))) v=some w/\Rg (fun _=>True) H w z [x]:=by
 have hlt:=(List.getElem?_eq_some_iff.1 hi).1;have hx:=h.1 x (List.mem_of_getElem? hi);have afl:L=L.take i++(x::L.drop (i+1)):=by
  conv=>lhs;rw[<-List.take_append_drop i L]
  rw[List.drop_eq_getElem_cons hlt,(List.getElem?_eq_some_iff.1 hi).2]
 have fU:(L.take i).flatten.length=i*z:=by
  rw[l9 (fun y hy=>h.1 y (List.mem_of_mem_take hy)),List.length_take,Nat.min_eq_left om]
 rcases h.2 with⟨rfl,rfl⟩|⟨b,c,e,ex,ro,frz,rfl,hc,h2,h3⟩
 ·simp at hlt
 ·have nW:ln c L.length=L.length:=by
   cases c with
   |none=>rfl
   |some q=>exact hc q rfl
  refine⟨_,akv om om (by rw[nW];omega),fun y hy=>by rw[List.mem_singleton.1 hy];exact hx,.inr ?_⟩;have hg:H.get b=some (.row ((L.take i).flatten++([x].flatten++(L.drop (i+1)).flatten)) e ex ro frz):=by
   rw[h3]
   conv=>lhs;rw[afl]
   simp
  cases c with
  |none=>exact⟨b,none,e,ex,ro,frz,_,_,by simp only[iX,fU];simp,trivial,h2,hg⟩
  |some k=>
   have:=hc k rfl;subst this;have hb:Nat.beq L.length ((i:Int).toNat)=false:=beq_false om;exact⟨b,some (L.length-i),e,ex,ro,frz,_,_,by simp only[iX,hb,fU];simp,trivial,h2,hg⟩
abbrev iN (k:Nat):SV:=.int .i64 ((k:Nat):Int)
inductive Nd (ok:Nat->Prop) (H:ag):List SV->AN->Prop
 |text (s:List Nat) (h:s≠[]):Nd ok H [iN 1,iN 0,.str s,.ao,.ao] ⟨true,s⟩
 |comment (s:List Nat) (h:s≠[]):Nd ok H [iN 2,iN 0,.str s,.ao,.ao] ⟨false,s⟩
 |sR (s:List Nat):Nd ok H [iN 3,iN 0,.str s,.ao,.ao] ⟨false,eB++s++gB⟩
 |qC (k:Nat) (hk:k=2\/k=3) (kv av:SV) (C D:List (List SV)) (K:List AN) (A:List AA) (nC vC:Nat->List (List SV)) (hC:Rg ok H kv 5 C) (hl:C.length=K.length) (hn:∀(i:Nat) (c:List SV) (n:AN),C[i]? =some c->K[i]? =some n->Nd ok H c n)
  (hD:Rg ok H av 3 D) (hA:D.length=A.length)
  (ha:∀(i:Nat) (d:List SV) (a:AA),D[i]? =some d->A[i]? =some a->∃nv vv,d=[.bool a.1,nv,vv]/\Rg ok H nv 5 (nC i)/\(nC i).length=a.2.1.length/\Rg ok H vv 5 (vC i)/\(vC i).length=a.2.2.length)
  (h1:∀(i j:Nat) (a:AA) (c:List SV) (n:AN),A[i]? =some a->(nC i)[j]? =some c->a.2.1[j]? =some n->Nd ok H c n)
  (h2:∀(i j:Nat) (a:AA) (c:List SV) (n:AN),A[i]? =some a->(vC i)[j]? =some c->a.2.2[j]? =some n->Nd ok H c n):
  Nd ok H [iN (k+2),iN 0,.str [],kv,av] ⟨false,List.replicate k 123++aL K++bN A++List.replicate k 125⟩
 |tag (g:Nat) (hg:g=1\/g=2\/g=3) (kv:SV) (C:List (List SV)) (K:List AN) (hC:Rg ok H kv 5 C) (hl:C.length=K.length) (hn:∀(i:Nat) (c:List SV) (n:AN),C[i]? =some c->K[i]? =some n->Nd ok H c n):
  Nd ok H [iN 6,iN g,.str [],kv,.ao] ⟨false,bR g++aL K++bS g⟩
theorem Nd.ax {ok ok':Nat->Prop} {H H':ag} {c:List SV} {n:AN} (h:Nd ok H c n) (hn:H.next<=H'.next) (hk:∀b,ok b->b<H.next->ok' b/\H'.get b=H.get b):Nd ok' H' c n:=by
 induction h with
 |text s h=>exact .text s h
 |comment s h=>exact .comment s h
 |sR s=>exact .sR s
 |qC k nT kv av C D K A nC vC hC hl _ hD hA ha _ _ ih zR zS=>
  exact .qC k nT kv av C D K A nC vC (hC.ax hn hk) hl ih (hD.ax hn hk) hA (fun i d a h1 h2=>by
   obtain⟨nv,vv,e,g1,g2,g3,g4⟩:=ha i d a h1 h2;exact⟨nv,vv,e,g1.ax hn hk,g2,g3.ax hn hk,g4⟩) zR zS
 |tag g hg kv C K hC hl _ ih=>exact .tag g hg kv C K (hC.ax hn hk) hl ih
theorem Nd.ne {ok:Nat->Prop} {H:ag} {c:List SV} {n:AN} (h:Nd ok H c n):n.s≠[]:=by
 cases h with
 |text s h=>exact h
 |comment s h=>exact h
 |sR s=>simp[eB]
 |qC k hk=>rcases hk with rfl|rfl<;>simp[List.replicate_succ]
 |tag g=>simp[bR]
theorem Nd.len {ok:Nat->Prop} {H:ag} {c:List SV} {n:AN} (h:Nd ok H c n):c.length=5:=by cases h<;>rfl
theorem Nd.one {ok:Nat->Prop} {H:ag} {c:List SV} {n:AN} (h:Nd ok H c n):c.all SV.one=true:=by
 cases h with
 |qC k hk kv av C D K A nC vC hC hl hn hD=>rw[List.all_eq_true];intro x hx;simp only[List.mem_cons,List.not_mem_nil,or_false]at hx;rcases hx with rfl|rfl|rfl|rfl|rfl<;>first|rfl|exact hC.one|exact hD.one
 |tag g hg kv C K hC=>rw[List.all_eq_true];intro x hx;simp only[List.mem_cons,List.not_mem_nil,or_false]at hx;rcases hx with rfl|rfl|rfl|rfl|rfl<;>first|rfl|exact hC.one
 |_=>rfl
def NL (ok:Nat->Prop) (H:ag) (v:SV) (K:List AN):Prop:=∃C,Rg ok H v 5 C/\bG (Nd ok H) C K
def rS (ok:Nat->Prop) (H:ag) (d:List SV) (a:AA):Prop:=∃nv vv,d=[.bool a.1,nv,vv]/\NL ok H nv a.2.1/\NL ok H vv a.2.2
def AL (ok:Nat->Prop) (H:ag) (v:SV) (A:List AA):Prop:=∃D,Rg ok H v 3 D/\bG (rS ok H) D A
theorem NL.ax {ok ok':Nat->Prop} {H H':ag} {v:SV} {K:List AN} (h:NL ok H v K) (hn:H.next<=H'.next) (hk:∀b,ok b->b<H.next->ok' b/\H'.get b=H.get b):NL ok' H' v K:=by
 obtain⟨C,h1,h2⟩:=h;exact⟨C,h1.ax hn hk,h2.imp fun _ _ h=>h.ax hn hk⟩
theorem rS.ax {ok ok':Nat->Prop} {H H':ag} {d:List SV} {a:AA} (h:rS ok H d a) (hn:H.next<=H'.next) (hk:∀b,ok b->b<H.next->ok' b/\H'.get b=H.get b):rS ok' H' d a:=by
 obtain⟨nv,vv,e,h1,h2⟩:=h;exact⟨nv,vv,e,h1.ax hn hk,h2.ax hn hk⟩
theorem AL.ax {ok ok':Nat->Prop} {H H':ag} {v:SV} {A:List AA} (h:AL ok H v A) (hn:H.next<=H'.next) (hk:∀b,ok b->b<H.next->ok' b/\H'.get b=H.get b):AL ok' H' v A:=by
 obtain⟨D,h1,h2⟩:=h;exact⟨D,h1.ax hn hk,h2.imp fun _ _ h=>h.ax hn hk⟩
theorem NL.nil {ok:Nat->Prop} {H:ag}:NL ok H .ao []:=⟨[],⟨(fun _ h=>by cases h),.inl ⟨rfl,.inl rfl⟩⟩,trivial⟩
theorem NL.cells {ok:Nat->Prop} {H:ag} {v:SV} {K:List AN} (h:NL ok H v K):v.cells=[v]:=by obtain⟨C,h,_⟩:=h;exact h.cells
theorem AL.cells {ok:Nat->Prop} {H:ag} {v:SV} {K:List AA} (h:AL ok H v K):v.cells=[v]:=by obtain⟨C,h,_⟩:=h;exact h.cells
theorem NL.bq {ok:Nat->Prop} {H:ag} {v:SV} {K:List AN} (h:NL ok H v K):bD v v=true:=by obtain⟨C,h,_⟩:=h;exact h.bq
theorem AL.bq {ok:Nat->Prop} {H:ag} {v:SV} {K:List AA} (h:AL ok H v K):bD v v=true:=by obtain⟨C,h,_⟩:=h;exact h.bq
theorem AL.nil {ok:Nat->Prop} {H:ag}:AL ok H .ao []:=⟨[],⟨(fun _ h=>by cases h),.inl ⟨rfl,.inl rfl⟩⟩,trivial⟩
theorem NL.NN {ok:Nat->Prop} {H:ag} {k:Nat} (hk:k=2\/k=3) {kv av:SV} {K:List AN} {A:List AA} (h:NL ok H kv K) (g:AL ok H av A):Nd ok H [iN (k+2),iN 0,.str [],kv,av] ⟨false,List.replicate k 123++aL K++bN A++List.replicate k 125⟩:=by
 obtain⟨C,h1,h2⟩:=h;obtain⟨D,g1,g2⟩:=g;have key:∀i:Nat,∃nv:List (List SV),∃vv:List (List SV),∀(d:List SV) (a:AA),D[i]? =some d->A[i]? =some a->∃n v,d=[.bool a.1,n,v]/\Rg ok H n 5 nv/\bG (Nd ok H) nv a.2.1/\Rg ok H v 5 vv/\bG (Nd ok H) vv a.2.2:=by
  intro i;cases hd:D[i]? with
  |none=>exact⟨[],[],fun d a h=>(by cases h)⟩
  |some d=>
   cases ha:A[i]? with
   |none=>exact⟨[],[],fun d a _ h=>(by cases h)⟩
   |some a=>
    obtain⟨n,v,e,⟨nv,q1,q2⟩,vv,q3,q4⟩:=g2.get hd ha;refine⟨nv,vv,fun d' a' e1 e2=>?_⟩;cases e1;cases e2;exact⟨n,v,e,q1,q2,q3,q4⟩
 obtain⟨nC,eW⟩:=Classical.axiomOfChoice key;obtain⟨vC,dX⟩:=Classical.axiomOfChoice eW;have wT:=g2.len;have at_:∀(i:Nat) (a:AA),A[i]? =some a->∃d,D[i]? =some d:=fun i a ha=>by
  have:=(List.getElem?_eq_some_iff.1 ha).1;exact⟨D[i],List.getElem?_eq_getElem om⟩
 refine .qC k hk kv av C D K A nC vC h1 h2.len (fun i c n hc hn=>h2.get hc hn) g1 wT (fun i d a hd ha=>?_) (fun i j a c n ha hc hn=>?_) (fun i j a c n ha hc hn=>?_)
 ·obtain⟨n,v,e,q1,q2,q3,q4⟩:=dX i d a hd ha;exact⟨n,v,e,q1,q2.len,q3,q4.len⟩
 ·obtain⟨d,hd⟩:=at_ i a ha;obtain⟨_,_,_,_,q2,_,_⟩:=dX i d a hd ha;exact q2.get hc hn
 ·obtain⟨d,hd⟩:=at_ i a ha;obtain⟨_,_,_,_,_,_,q4⟩:=dX i d a hd ha;exact q4.get hc hn
theorem bG.of {α β:Type} {R:α->β->Prop}:∀{xs:List α} {ys:List β},xs.length=ys.length->(∀(i:Nat) (a:α) (b:β),xs[i]? =some a->ys[i]? =some b->R a b)->bG R xs ys
 |[],[],_,_=>trivial
 |[],_::_,h,_=>by simp at h
 |_::_,[],h,_=>by simp at h
 |a::xs,b::ys,h,k=>⟨k 0 a b rfl rfl,bG.of (by simpa using h) fun i x y h1 h2=>k (i+1) x y (by simpa using h1) (by simpa using h2)⟩
theorem NL.Wl {ok:Nat->Prop} {H:ag} {g:Nat} (hg:g=1\/g=2\/g=3) {kv:SV} {K:List AN} (h:NL ok H kv K):Nd ok H [iN 6,iN g,.str [],kv,.ao] ⟨false,bR g++aL K++bS g⟩:=by
 obtain⟨C,h1,h2⟩:=h;exact .tag g hg kv C K h1 h2.len fun i c n hc hn=>h2.get hc hn
theorem Nd.inv {ok:Nat->Prop} {H:ag} {c:List SV} {n:AN} (h:Nd ok H c n):
 (∃s,c=[iN 1,iN 0,.str s,.ao,.ao]/\n=⟨true,s⟩)\/(∃s,c=[iN 2,iN 0,.str s,.ao,.ao]/\n=⟨false,s⟩)\/(∃s,c=[iN 3,iN 0,.str s,.ao,.ao]/\n=⟨false,eB++s++gB⟩)\/
 (∃k kv av K A,(k=2\/k=3)/\c=[iN (k+2),iN 0,.str [],kv,av]/\n=⟨false,List.replicate k 123++aL K++bN A++List.replicate k 125⟩/\NL ok H kv K/\AL ok H av A)\/
 (∃g kv K,(g=1\/g=2\/g=3)/\c=[iN 6,iN g,.str [],kv,.ao]/\n=⟨false,bR g++aL K++bS g⟩/\NL ok H kv K):=by
 cases h with
 |text s h=>exact .inl ⟨s,rfl,rfl⟩
 |comment s h=>exact .inr (.inl ⟨s,rfl,rfl⟩)
 |sR s=>exact .inr (.inr (.inl ⟨s,rfl,rfl⟩))
 |qC k hk kv av C D K A nC vC hC hl hn hD hA ha h1 h2=>
  refine .inr (.inr (.inr (.inl ⟨k,kv,av,K,A,hk,rfl,rfl,⟨C,hC,bG.of hl hn⟩,D,hD,bG.of hA fun i d a hd nf=>?_⟩)));obtain⟨nv,vv,e,g1,g2,g3,g4⟩:=ha i d a hd nf;exact⟨nv,vv,e,⟨_,g1,bG.of g2 fun j c n=>h1 i j a c n nf⟩,_,g3,bG.of g4 fun j c n=>h2 i j a c n nf⟩
 |tag g hg kv C K hC hl hn=>exact .inr (.inr (.inr (.inr ⟨g,kv,K,hg,rfl,rfl,C,hC,bG.of hl hn⟩)))
theorem bG.mem {α β:Type} {R:α->β->Prop}:∀{xs:List α} {ys:List β},bG R xs ys->∀b∈ys,∃a∈xs,R a b
 |[],[],_,b,hb=>by cases hb
 |a::xs,c::ys,h,b,hb=>by
  rcases List.mem_cons.1 hb with rfl|hb
  ·exact⟨a,List.mem_cons_self ..,h.1⟩
  ·obtain⟨x,hx,hr⟩:=bG.mem h.2 b hb;exact⟨x,List.mem_cons_of_mem _ hx,hr⟩
theorem bG.vD {α β:Type} {R:α->β->Prop}:∀{xs:List α} {ys:List β},bG R xs ys->∀a∈xs,∃b∈ys,R a b
 |[],[],_,b,hb=>by cases hb
 |c::xs,b::ys,h,a,ha=>by
  rcases List.mem_cons.1 ha with rfl|ha
  ·exact⟨b,List.mem_cons_self ..,h.1⟩
  ·obtain⟨x,hx,hr⟩:=bG.vD h.2 a ha;exact⟨x,List.mem_cons_of_mem _ hx,hr⟩
theorem xV:∀{K:List AN},(∀n∈K,n.s≠[])->K.length<=(aL K).length
 |[],_=>Nat.zero_le _
 |n::K,h=>by
  have h1:=xV (K:=K) fun m hm=>h m (List.mem_cons_of_mem _ hm)
  have h2:n.s.length≠0:=by simpa using h n (List.mem_cons_self ..)
  simp only[aL,List.map_cons,List.flatten_cons,List.length_append,List.length_cons]at h1 ⊢;omega
theorem NL.le {ok:Nat->Prop} {H:ag} {v:SV} {K:List AN} (h:NL ok H v K):K.length<=(aL K).length:=by
 obtain⟨C,_,h2⟩:=h;refine xV fun n hn=>?_
 obtain⟨c,_,hr⟩:=h2.mem n hn;exact hr.ne
theorem qz:∀(A:List AA),A.length<=(bN A).length
 |[]=>Nat.zero_le _
 |a::A=>by
  have:=qz A;simp only[bN,List.map_cons,List.flatten_cons,List.length_append,List.length_cons,gL]at this ⊢;omega
theorem En {A:List AA} {i:Nat} {a:AA} (h:A[i]? =some a):(bN (A.take i)).length+(gL a).length<=(bN A).length/\A.take (i+1)=A.take i++[a]:=by
 have fT:A.take (i+1)=A.take i++[a]:=by rw[List.take_succ,h];rfl
 refine⟨?_,fT⟩;have e1:A=A.take i++([a]++A.drop (i+1)):=by
  conv=>lhs;rw[<-List.take_append_drop (i+1) A,fT,List.append_assoc]
 conv=>rhs;rw[e1]
 simp only[vT,List.length_append];simp only[bN,List.map_cons,List.map_nil,List.flatten_cons,List.flatten_nil,List.append_nil];omega
end
end Go.Sh
