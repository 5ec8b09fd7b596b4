/-
  The plain law of the parser: the source of the nodes of a text is the text. No conditions beyond those that stand in the theorems.
-/
import Derived.Test.YtfgpklidnkdahaaGreatDoorShA1
set_option linter.all false
set_option maxHeartbeats 20000000
namespace Go.Sh
section
def cT (c:Nat):List Nat->Nat
 |[]=>0
 |x::s=>match Nat.beq x c with
  |true=>cT c s+1
  |false=>0
def cV:Nat->List Nat
 |1=>[110,111,105,110,99,108,117,100,101]
 |2=>[105,110,99,108,117,100,101,111,110,108,121]
 |_=>[111,110,108,121,105,110,99,108,117,100,101]
def bR (k:Nat):List Nat:=60::(cV k++[62])
def bS (k:Nat):List Nat:=60::47::(cV k++[62])
def eB:List Nat:=[60,110,111,119,105,107,105,62]
def gB:List Nat:=[60,47,110,111,119,105,107,105,62]
def uU:List Nat:=[60,33,45,45]
def yQ:List Nat:=[45,45,62]
def c9 (f:Nat->List Nat) (s:List Nat):Nat:=if pre (f 1) s then 1 else if pre (f 2) s then 2 else if pre (f 3) s then 3 else 0
def jD (s:List Nat):Nat×Nat:=
 if pre uU s then(9,match dx yQ (s.drop 4)with|some k=>4+k+3|none=>s.length)
 else match(if pre eB s then dx gB (s.drop 8)else none)with
  |some k=>(10,8+k+9)
  |none=>if c9 bR s=0 then(if c9 bS s=0 then(0,0)else(12,(bS (c9 bS s)).length))else(11,(bR (c9 bR s)).length)
def cm:List Nat->Nat×Nat
 |[]=>(0,0)
 |60::s=>jD (60::s)
 |123::s=>if 2<=cT 123 s+1 then(3,cT 123 s+1)else(0,0)
 |125::s=>if 2<=cT 125 s+1 then(4,cT 125 s+1)else(0,0)
 |91::s=>if 2<=cT 91 s+1 then(5,2)else(0,0)
 |93::s=>if 2<=cT 93 s+1 then(6,2)else(0,0)
 |124::_=>(7,1)
 |61::_=>(8,1)
 |10::_=>(2,1)
 |_::_=>(0,0)
abbrev Tok:=Nat×Nat×Nat
def oI (s:List Nat):Nat->Nat->Nat->List Tok
 |0,_,_=>[]
 |f+1,i,t=>
  if i<s.length then
   if(cm (s.drop i)).1=0 then oI s f (i+1) t
   else(if t<i then[(1,t,i)]else[])++((cm (s.drop i)).1,i,i+(cm (s.drop i)).2)::oI s f (i+(cm (s.drop i)).2) (i+(cm (s.drop i)).2)
  else if t<s.length then[(1,t,s.length)]else[]
def cw (s:List Nat):List Tok:=oI s (s.length+1) 0 0
def cB (s:List Nat) (t:Tok):List Nat:=(s.drop t.2.1).take (t.2.2-t.2.1)
structure AN where
 t:Bool
 s:List Nat
abbrev AA:=Bool×List AN×List AN
structure AE where
 kind:Nat
 tag:Nat
 count:Nat
 list:List AN
 args:List AA
def aL (l:List AN):List Nat:=(l.map AN.s).flatten
def gL (a:AA):List Nat:=124::((if a.1 then aL a.2.1++[61]else[])++aL a.2.2)
def bN (l:List AA):List Nat:=(l.map gL).flatten
def addN (l:List AN) (n:AN):List AN:=
 if n.t then
  if n.s=[]then l
  else match l.getLast? with
   |some m=>if m.t then l.dropLast++[⟨true,m.s++n.s⟩]else l++[n]
   |none=>[n]
 else l++[n]
def ur (f:AA->AA):List AA->List AA
 |[]=>[]
 |[a]=>[f a]
 |a::b::l=>a::ur f (b::l)
def AE.fg (f:List AN->List AN) (e:AE):AE:=
 if e.kind=3/\e.args≠[]then{e with args:=ur (fun a=>(a.1,a.2.1,f a.2.2)) e.args}else{e with list:=f e.list}
def fW (n:AN):List AE->List AE
 |[]=>[]
 |e::r=>e.fg (addN · n)::r
def bI (s:List Nat) (st:List AE):List AE:=fW ⟨true,s⟩ st
def dj (l:List AN) (st:List AE):List AE:=l.foldl (fun st n=>fW n st) st
def fM (st:List AE) (a:AA):List AE:=
 dj a.2.2 (if a.1 then bI [61] (dj a.2.1 (bI [124] st))else bI [124] st)
def mark (e:AE):List Nat:=match e.kind with
 |1=>[91,91]
 |2=>bR e.tag
 |3=>List.replicate e.count 123
 |_=>[]
def kz:List AE->List AE
 |[]=>[]
 |e::r=>e.args.foldl fM (dj e.list (bI (mark e) r))
def eS:Nat->List AE->List AE
 |0,st=>st
 |k+1,st=>eS k (kz st)
def lY (e:AE) (x:List Nat) (st:List AE):List AE:=if 20<st.length then bI x st else e::st
def rU:List AE->List AE
 |[]=>[]
 |e::r=>if e.kind=3 then{e with args:=e.args++[(false,[],[])]}::r else bI [124] (e::r)
def jo:List AE->List AE
 |[]=>[]
 |e::r=>match e.args.getLast? with
  |some a=>if e.kind=3/\a.1=false then{e with args:=ur (fun a=>(true,a.2.2,[])) e.args}::r else bI [61] (e::r)
  |none=>bI [61] (e::r)
def td:List AE->List AE
 |[]=>[]
 |e::r=>if e.kind=1 then bI [93,93] (dj e.list (bI [91,91] r))else bI [93,93] (e::r)
def km (k:Nat):List AE->Option Nat
 |[]=>none
 |e::r=>if e.kind=2/\e.tag=k then some 0 else(km k r).map (· +1)
def Rh (k:Nat):List AE->List AE
 |[]=>[]
 |e::r=>fW ⟨false,bR k++aL e.list++bS k⟩ r
def kT (k:Nat) (x:List Nat) (st:List AE):List AE:=match km k st with
 |none=>bI x st
 |some j=>Rh k (eS j st)
def gA:List AE->Option Nat
 |[]=>none
 |e::r=>if e.kind=2 then none else if e.kind=3 then some 0 else(gA r).map (· +1)
def cQ (c m:Nat):Nat:=if 3<=c/\3<=m then 3 else 2
def jC (c:Nat):List AE->List AE
 |[]=>[]
 |e::r=>
  let k:=cQ c e.count
  let n:AN:=⟨false,List.replicate k 123++aL e.list++bN e.args++List.replicate k 125⟩
  if 2<=e.count-k then{e with count:=e.count-k,list:=[n],args:=[]}::r
  else if e.count-k=1 then fW n (bI [123] r)else fW n r
def alC:List AE->Nat
 |[]=>0
 |e::_=>e.count
def eL:Nat->Nat->List AE->List AE
 |0,_,st=>st
 |f+1,c,st=>
  if 2<=c then
   match gA st with
   |none=>bI (List.replicate c 125) st
   |some j=>eL f (c-cQ c (alC (eS j st))) (jC c (eS j st))
  else bI (List.replicate c 125) st
def qv (f:Nat->List Nat) (x:List Nat):Nat:=if x=f 1 then 1 else if x=f 2 then 2 else if x=f 3 then 3 else 0
def jV (st:List AE) (k:Nat) (x:List Nat):List AE:=match k with
 |9=>fW ⟨false,x⟩ st
 |10=>fW ⟨false,x⟩ st
 |3=>lY ⟨3,0,x.length,[],[]⟩ x st
 |5=>lY ⟨1,0,0,[],[]⟩ x st
 |11=>lY ⟨2,qv bR x,0,[],[]⟩ x st
 |7=>rU st
 |8=>jo st
 |6=>td st
 |12=>kT (qv bS x) x st
 |4=>eL (x.length+1) x.length st
 |_=>bI x st
def root:AE:=⟨0,0,0,[],[]⟩
def rW (s:List Nat) (l:List Tok):List AE:=l.foldl (fun st t=>jV st t.1 (cB s t)) [root]
def O3:List AE->List AN
 |[]=>[]
 |e::_=>e.list
def oD (s:List Nat):List AN:=O3 (eS ((rW s (cw s)).length-1) (rW s (cw s)))
def fD (s:List Nat):List Bool:=((oD s).map fun n=>List.replicate n.s.length n.t).flatten
def AE.ok (e:AE):Prop:=(e.kind≠3->e.args=[])/\(e.kind=1\/(e.kind=2/\(e.tag=1\/e.tag=2\/e.tag=3))\/(e.kind=3/\2<=e.count))
def bC:List AE->Prop
 |[]=>False
 |[e]=>e.kind=0/\e.args=[]
 |e::f::r=>e.ok/\bC (f::r)
def aU:List AE->List Nat
 |[]=>[]
 |e::r=>aU r++(mark e++aL e.list++bN e.args)
theorem AD (a b:List AN):aL (a++b)=aL a++aL b:=by simp[aL]
theorem vT (a b:List AA):bN (a++b)=bN a++bN b:=by simp[bN]
theorem uE (n:AN):aL [n]=n.s:=by simp[aL]
theorem Yk (l:List AN) (n:AN):aL (addN l n)=aL l++n.s:=by
 unfold addN;split
 ·split
  ·rename_i h;simp[h]
  ·split
   ·rename_i m hm;split
    ·obtain⟨l',rfl⟩:=List.getLast?_eq_some_iff.1 hm;simp[aL]
    ·simp[aL]
   ·rename_i hm;rw[List.getLast?_eq_none_iff.1 hm];simp[aL]
 ·simp[aL]
theorem Ae (f:AA->AA) (l:List AA) (a:AA):ur f (l++[a])=l++[f a]:=by
 induction l with
 |nil=>rfl
 |cons x l ih=>
  cases l with
  |nil=>rfl
  |cons y l=>show x::ur f ((y::l)++[a])=_;rw[ih];rfl
theorem HK {α:Type} {l:List α} (h:l≠[]):∃l' a,l=l'++[a]:=⟨l.dropLast,l.getLast h,(List.dropLast_concat_getLast h).symm⟩
theorem Ih (f:List AN->List AN) (e:AE):(e.fg f).kind=e.kind/\(e.fg f).tag=e.tag/\(e.fg f).count=e.count:=by
 unfold AE.fg;split<;>exact⟨rfl,rfl,rfl⟩
theorem alY (f:List AN->List AN) (e:AE):mark (e.fg f)=mark e:=by
 have h:=Ih f e;unfold mark;rw[h.1,h.2.1,h.2.2]
theorem Y1 (f:List AN->List AN) (e:AE):(e.args=[]->(e.fg f).args=[]):=by
 intro h;unfold AE.fg;rw[if_neg (by simp[h])];exact h
theorem alZ (f:List AN->List AN) {e:AE} (h:e.ok):(e.fg f).ok:=by
 have k:=Ih f e;refine⟨fun hk=>Y1 f e (h.1 (by rw[<-k.1];exact hk)),?_⟩;rw[k.1,k.2.1,k.2.2];exact h.2
theorem akK {e:AE} (h:e.kind≠3->e.args=[]) (n:AN):aL (e.fg (addN · n)).list++bN (e.fg (addN · n)).args=(aL e.list++bN e.args)++n.s:=by
 unfold AE.fg;split
 ·rename_i hc;obtain⟨l,a,ha⟩:=HK hc.2;simp only[ha,Ae,vT,List.append_assoc];congr 2;simp only[bN,List.map_cons,List.map_nil,List.flatten_cons,List.flatten_nil,List.append_nil,gL,Yk,List.cons_append,List.append_assoc]
 ·rename_i hc;have:e.args=[]:=by
   by_cases hk:e.kind=3
   ·simpa[hk]using hc
   ·exact h hk
  simp only[this,Yk];simp[bN]
theorem bC.args {e:AE} {r:List AE} (h:bC (e::r)):e.kind≠3->e.args=[]:=by
 cases r with
 |nil=>exact fun _=>h.2
 |cons f r=>exact h.1.1
theorem bC.ne {st:List AE} (h:bC st):st≠[]:=by
 intro e;subst e;exact h
theorem bC.tail {e:AE} {r:List AE} (h:bC (e::r)) (hr:r≠[]):bC r:=by
 cases r with
 |nil=>exact absurd rfl hr
 |cons f r=>exact h.2
theorem bC.cons {e:AE} {r:List AE} (h:e.ok) (hr:bC r):bC (e::r):=by
 cases r with
 |nil=>exact hr.elim
 |cons f r=>exact⟨h,hr⟩
theorem bC.head {e:AE} {r:List AE} (h:bC (e::r)) (hr:r≠[]):e.ok:=by
 cases r with
 |nil=>exact absurd rfl hr
 |cons f r=>exact h.1
theorem bC.swap {e e':AE} {r:List AE} (h:bC (e::r)) (hk:e'.kind=e.kind) (ha:e.args=[]->e'.args=[]) (ho:e.ok->e'.ok):bC (e'::r):=by
 cases r with
 |nil=>exact⟨hk.trans h.1,ha h.2⟩
 |cons f r=>exact⟨ho h.1,h.2⟩
theorem rV {st:List AE} (n:AN) (h:bC st):bC (fW n st)/\(fW n st).length=st.length/\aU (fW n st)=aU st++n.s:=by
 cases st with
 |nil=>exact h.elim
 |cons e r=>
  refine⟨h.swap (Ih _ e).1 (Y1 _ e) (alZ _),rfl,?_⟩;show aU r++(mark (e.fg _)++aL (e.fg _).list++bN (e.fg _).args)=aU r++(mark e++aL e.list++bN e.args)++n.s;rw[alY,List.append_assoc (mark e),akK h.args];simp only[List.append_assoc]
theorem gO {st:List AE} (s:List Nat) (h:bC st):bC (bI s st)/\(bI s st).length=st.length/\aU (bI s st)=aU st++s:=rV ⟨true,s⟩ h
theorem mP:∀{l:List AN} {st:List AE},bC st->bC (dj l st)/\(dj l st).length=st.length/\aU (dj l st)=aU st++aL l
 |[],st,h=>⟨h,rfl,by simp[dj,aL]⟩
 |n::l,st,h=>by
  obtain⟨h1,h2,h3⟩:=rV n h;obtain⟨k1,k2,k3⟩:=mP (l:=l) h1;refine⟨k1,k2.trans h2,?_⟩;show aU (dj l (fW n st))=_;rw[k3,h3];simp[aL]
theorem aah {st:List AE} (a:AA) (h:bC st):bC (fM st a)/\(fM st a).length=st.length/\aU (fM st a)=aU st++gL a:=by
 obtain⟨h1,h2,h3⟩:=gO [124] h;unfold fM gL;cases a.1 with
 |true=>
  obtain⟨k1,k2,k3⟩:=mP (l:=a.2.1) h1;obtain⟨g1,g2,g3⟩:=gO [61] k1;obtain⟨f1,f2,f3⟩:=mP (l:=a.2.2) g1;refine⟨f1,by simp only[if_true];omega,?_⟩;simp only[if_true,f3,g3,k3,h3,List.append_assoc,List.cons_append,List.nil_append]
 |false=>
  obtain⟨f1,f2,f3⟩:=mP (l:=a.2.2) h1;refine⟨f1,f2.trans h2,?_⟩;simp[f3,h3]
theorem Eh:∀{l:List AA} {st:List AE},bC st->bC (l.foldl fM st)/\(l.foldl fM st).length=st.length/\aU (l.foldl fM st)=aU st++bN l
 |[],st,h=>⟨h,rfl,by simp[bN]⟩
 |a::l,st,h=>by
  obtain⟨h1,h2,h3⟩:=aah a h;obtain⟨k1,k2,k3⟩:=Eh (l:=l) h1;refine⟨k1,k2.trans h2,?_⟩;show aU (l.foldl fM (fM st a))=_;rw[k3,h3];simp[bN]
theorem aaq {e:AE} {r:List AE} (h:bC (e::r)) (hr:r≠[]):bC (kz (e::r))/\(kz (e::r)).length=r.length/\aU (kz (e::r))=aU (e::r):=by
 obtain⟨h1,h2,h3⟩:=gO (mark e) (h.tail hr);obtain⟨k1,k2,k3⟩:=mP (l:=e.list) h1;obtain⟨g1,g2,g3⟩:=Eh (l:=e.args) k1;refine⟨g1,g2.trans (k2.trans h2),?_⟩;show aU (e.args.foldl fM (dj e.list (bI (mark e) r)))=_;rw[g3,k3,h3];simp only[aU,List.append_assoc]
theorem uQ:∀{j:Nat} {st:List AE},bC st->j<st.length->bC (eS j st)/\(eS j st).length=st.length-j/\aU (eS j st)=aU st
 |0,st,h,_=>⟨h,rfl,rfl⟩
 |j+1,st,h,hj=>by
  cases st with
  |nil=>exact h.elim
  |cons e r=>
   have hr:r≠[]:=by intro e;subst e;simp at hj
   obtain⟨h1,h2,h3⟩:=aaq h hr;obtain⟨k1,k2,k3⟩:=uQ (j:=j) h1 (by rw[h2];simp at hj;omega);refine⟨k1,?_,k3.trans h3⟩;show(eS j (kz (e::r))).length=_;rw[k2,h2];simp only[List.length_cons];omega
def sk (st:List AE):List (Nat×Nat×Nat):=st.map fun e=>(e.kind,e.tag,e.count)
theorem Di (n:AN) (st:List AE):sk (fW n st)=sk st:=by
 cases st with
 |nil=>rfl
 |cons e r=>have h:=Ih (addN · n) e;simp only[fW,sk,List.map_cons,h.1,h.2.1,h.2.2]
theorem HI:∀(l:List AN) (st:List AE),sk (dj l st)=sk st
 |[],_=>rfl
 |n::l,st=>(HI l (fW n st)).trans (Di n st)
theorem aks (st:List AE) (a:AA):sk (fM st a)=sk st:=by
 unfold fM bI;rw[HI];split
 ·rw[Di,HI,Di]
 ·rw[Di]
theorem Ya:∀(l:List AA) (st:List AE),sk (l.foldl fM st)=sk st
 |[],_=>rfl
 |a::l,st=>(Ya l (fM st a)).trans (aks st a)
theorem akt (st:List AE):sk (kz st)=(sk st).tail:=by
 cases st with
 |nil=>rfl
 |cons e r=>
  show sk (e.args.foldl fM (dj e.list (bI (mark e) r)))=sk r;rw[Ya,HI,bI,Di]
theorem Yb:∀(j:Nat) (st:List AE),sk (eS j st)=(sk st).drop j
 |0,_=>rfl
 |j+1,st=>by
  show sk (eS j (kz st))=_;rw[Yb j,akt,List.drop_tail]
theorem Gv {k:Nat}:∀{st:List AE} {j:Nat},km k st=some j->∃e,st[j]? =some e/\e.kind=2/\e.tag=k
 |[],j,h=>by cases h
 |e::r,j,h=>by
  unfold km at h;split at h
  ·rename_i hc;cases h;exact⟨e,rfl,hc⟩
  ·simp only[Option.map_eq_some_iff]at h;obtain⟨j',h,rfl⟩:=h;obtain⟨e',h1,h2⟩:=Gv h;exact⟨e',by simpa using h1,h2⟩
theorem z6:∀{st:List AE} {j:Nat},gA st=some j->∃e,st[j]? =some e/\e.kind=3
 |[],j,h=>by cases h
 |e::r,j,h=>by
  unfold gA at h;split at h
  ·cases h
  ·split at h
   ·rename_i hc;cases h;exact⟨e,rfl,hc⟩
   ·simp only[Option.map_eq_some_iff]at h;obtain⟨j',h,rfl⟩:=h;obtain⟨e',h1,h2⟩:=z6 h;exact⟨e',by simpa using h1,h2⟩
theorem bC.last {st:List AE} (h:bC st) {j:Nat} {e:AE} (he:st[j]? =some e) (hk:e.kind≠0):j+1<st.length:=by
 induction st generalizing j with
 |nil=>exact h.elim
 |cons f r ih=>
  cases r with
  |nil=>
   cases j with
   |zero=>simp at he;subst he;exact absurd h.1 hk
   |succ j=>simp at he
  |cons g r=>
   cases j with
   |zero=>simp
   |succ j=>
    have:=ih h.2 (j:=j) (by simpa using he);simp only[List.length_cons]at this ⊢;omega
theorem tz {st:List AE} (h:bC st) {j:Nat} {e:AE} (he:st[j]? =some e) (hk:e.kind≠0):
 ∃e' r,eS j st=e'::r/\r≠[]/\e'.kind=e.kind/\e'.tag=e.tag/\e'.count=e.count/\bC (e'::r)/\r.length+1+j=st.length/\aU (e'::r)=aU st:=by
 have hj:=h.last he hk;obtain⟨h1,h2,h3⟩:=uQ (j:=j) h om;have hs:=Yb j st;cases hc:eS j st with
 |nil=>rw[hc]at h1;exact h1.elim
 |cons e' r=>
  rw[hc]at h1 h2 h3 hs;simp only[List.length_cons]at h2;have h0:((sk st).drop j)[0]? =some (e.kind,e.tag,e.count):=by
   rw[List.getElem?_drop,Nat.add_zero,sk,List.getElem?_map,he];rfl
  rw[<-hs]at h0;simp only[sk,List.map_cons,List.getElem?_cons_zero,Option.some.injEq,Prod.mk.injEq]at h0;exact⟨e',r,rfl,by intro e;subst e;simp at h2;omega,h0.1,h0.2.1,h0.2.2,h1,by omega,h3⟩
theorem Xj (a b c:Nat):List.replicate (a+b) c=List.replicate a c++List.replicate b c:=List.replicate_append_replicate.symm
theorem Jp {st:List AE} {e:AE} {x:List Nat} (h:bC st) (he:e.ok) (hx:mark e++aL e.list++bN e.args=x):bC (lY e x st)/\aU (lY e x st)=aU st++x:=by
 unfold lY;split
 ·have:=gO x h;exact⟨this.1,this.2.2⟩
 ·exact⟨bC.cons he h,by rw[<-hx];rfl⟩
theorem aaj {st:List AE} (h:bC st):bC (rU st)/\aU (rU st)=aU st++[124]:=by
 cases st with
 |nil=>exact h.elim
 |cons e r=>
  simp only[rU];split
  ·rename_i hk;cases r with
   |nil=>rw[h.1]at hk;cases hk
   |cons f r=>
    refine⟨⟨⟨fun hn=>absurd hk hn,h.1.2⟩,h.2⟩,?_⟩;simp only[aU,mark,vT,List.append_assoc];simp[bN,gL,aL]
  ·have:=gO [124] h;exact⟨this.1,this.2.2⟩
theorem aap {st:List AE} (h:bC st):bC (jo st)/\aU (jo st)=aU st++[61]:=by
 cases st with
 |nil=>exact h.elim
 |cons e r=>
  have ht:=gO [61] h;simp only[jo];split
  ·rename_i a ha;split
   ·rename_i hc;obtain⟨l,hl⟩:=List.getLast?_eq_some_iff.1 ha;refine⟨h.swap rfl (fun e0=>by rw[e0]at hl;simp at hl) (fun ho=>⟨fun hn=>absurd hc.1 hn,ho.2⟩),?_⟩;simp only[aU,mark,hl,Ae,vT,List.append_assoc];simp[bN,gL,aL,hc.2]
   ·exact⟨ht.1,ht.2.2⟩
  ·exact⟨ht.1,ht.2.2⟩
theorem aal {st:List AE} (h:bC st):bC (td st)/\aU (td st)=aU st++[93,93]:=by
 cases st with
 |nil=>exact h.elim
 |cons e r=>
  simp only[td];split
  ·rename_i hk;cases r with
   |nil=>rw[h.1]at hk;cases hk
   |cons f r=>
    have ha:e.args=[]:=h.1.1 om;obtain⟨h1,_,h3⟩:=gO [91,91] h.2;obtain⟨k1,_,k3⟩:=mP (l:=e.list) h1;obtain⟨g1,_,g3⟩:=gO [93,93] k1;refine⟨g1,?_⟩;rw[g3,k3,h3];simp only[aU,ha,mark,hk,List.append_assoc];simp[bN]
  ·have:=gO [93,93] h;exact⟨this.1,this.2.2⟩
theorem aan {st:List AE} {k:Nat} {x:List Nat} (h:bC st) (hx:x=bS k):bC (kT k x st)/\aU (kT k x st)=aU st++x:=by
 unfold kT;split
 ·have:=gO x h;exact⟨this.1,this.2.2⟩
 ·rename_i j hj;obtain⟨e,he,hk,ht⟩:=Gv hj;obtain⟨e',r,h1,h2,h3,h4,_,h6,_,h7⟩:=tz h he om;rw[h1];show bC (fW _ r)/\aU (fW _ r)=_;have:=rV ⟨false,bR k++aL e'.list++bS k⟩ (h6.tail h2);refine⟨this.1,this.2.2.trans ?_⟩;have ha:e'.args=[]:=h6.args om;rw[<-h7,hx];simp only[aU,ha,mark,h3,hk,h4,ht,List.append_assoc];simp[bN]
theorem zX (c m:Nat) (hc:2<=c) (hm:2<=m):2<=cQ c m/\cQ c m<=c/\cQ c m<=m:=by
 unfold cQ;split<;>omega
theorem A6 {e:AE} {r:List AE} {c:Nat} (h:bC (e::r)) (hr:r≠[]) (hk:e.kind=3) (hc:2<=c):bC (jC c (e::r))/\aU (jC c (e::r))=aU (e::r)++List.replicate (cQ c e.count) 125:=by
 have ho:=h.head hr;have hm:2<=e.count:=by rcases ho.2 with h|h|h<;>omega
 obtain⟨k1,k2,k3⟩:=zX c e.count hc hm;have Cz:List.replicate e.count 123=List.replicate (e.count-cQ c e.count) 123++List.replicate (cQ c e.count) 123:=by rw[<-Xj];congr 1;omega
 unfold jC;dsimp only;split
 ·rename_i h2;refine⟨h.swap rfl (fun _=>rfl) (fun _=>⟨fun hn=>absurd hk hn,.inr (.inr ⟨hk,h2⟩)⟩),?_⟩;simp only[aU,mark,hk,uE,Cz,List.append_assoc];simp[bN]
 ·split
  ·rename_i h1;obtain⟨g1,_,g3⟩:=gO [123] (h.tail hr);have:=rV ⟨false,List.replicate (cQ c e.count) 123++aL e.list++bN e.args++List.replicate (cQ c e.count) 125⟩ g1;refine⟨this.1,this.2.2.trans ?_⟩;rw[g3];simp only[aU,mark,hk,Cz,h1,List.append_assoc];simp
  ·rename_i h1 h2;have:=rV ⟨false,List.replicate (cQ c e.count) 123++aL e.list++bN e.args++List.replicate (cQ c e.count) 125⟩ (h.tail hr);refine⟨this.1,this.2.2.trans ?_⟩;have h0:e.count-cQ c e.count=0:=om;simp only[aU,mark,hk,Cz,h0,List.append_assoc];simp
theorem Q':∀(f c:Nat) (st:List AE),bC st->c<f->bC (eL f c st)/\aU (eL f c st)=aU st++List.replicate c 125
 |0,c,st,h,hf=>by omega
 |f+1,c,st,h,hf=>by
  have ht:=gO (List.replicate c 125) h;unfold eL;split
  ·rename_i hc;split
   ·exact⟨ht.1,ht.2.2⟩
   ·rename_i j hj;obtain⟨e,he,hk⟩:=z6 hj;obtain⟨e',r,h1,h2,h3,_,_,h6,_,h7⟩:=tz h he om;rw[h1];obtain⟨b1,b2⟩:=A6 (c:=c) h6 h2 (h3.trans hk) hc;have hm:2<=e'.count:=by rcases(h6.head h2).2 with h|h|h<;>omega
    obtain⟨k1,k2,_⟩:=zX c e'.count hc hm;obtain⟨g1,g2⟩:=Q' f (c-cQ c e'.count) _ b1 om;refine⟨g1,?_⟩;show aU (eL f (c-cQ c e'.count) (jC c (e'::r)))=_;rw[g2,b2,h7,List.append_assoc,<-Xj];congr 2;omega
  ·exact⟨ht.1,ht.2.2⟩
def pB (k:Nat) (x:List Nat):Prop:=match k with
 |1=>x≠[]
 |2=>x=[10]
 |3=>2<=x.length/\x=List.replicate x.length 123
 |4=>2<=x.length/\x=List.replicate x.length 125
 |5=>x=[91,91]
 |6=>x=[93,93]
 |7=>x=[124]
 |8=>x=[61]
 |9=>True
 |10=>∃y,x=eB++y++gB
 |11=>∃g,(g=1\/g=2\/g=3)/\x=bR g
 |12=>∃g,(g=1\/g=2\/g=3)/\x=bS g
 |_=>False
theorem HT {g:Nat} (h:g=1\/g=2\/g=3):qv bR (bR g)=g:=by rcases h with rfl|rfl|rfl<;>rfl
theorem OT {g:Nat} (h:g=1\/g=2\/g=3):qv bS (bS g)=g:=by rcases h with rfl|rfl|rfl<;>rfl
theorem aav {st:List AE} {k:Nat} {x:List Nat} (h:bC st) (hg:pB k x):bC (jV st k x)/\aU (jV st k x)=aU st++x:=by
 have ht:=gO x h;have hn:=rV ⟨false,x⟩ h;unfold pB at hg;split at hg
 ·exact⟨ht.1,ht.2.2⟩
 ·exact⟨ht.1,ht.2.2⟩
 ·refine Jp h ⟨fun hh=>absurd rfl hh,.inr (.inr ⟨rfl,hg.1⟩)⟩ ?_;simp only[mark,aL,bN,List.map_nil,List.flatten_nil,List.append_nil];exact hg.2.symm
 ·have:=Q' (x.length+1) x.length st h om;rw[<-hg.2]at this;exact this
 ·exact Jp h ⟨fun _=>rfl,.inl rfl⟩ (by simp[mark,aL,bN,hg])
 ·rw[hg];exact aal h
 ·rw[hg];exact aaj h
 ·rw[hg];exact aap h
 ·exact⟨hn.1,hn.2.2⟩
 ·exact⟨hn.1,hn.2.2⟩
 ·obtain⟨g,hg,rfl⟩:=hg;refine Jp h ⟨fun _=>rfl,.inr (.inl ⟨rfl,?_⟩)⟩ ?_
  ·rw[HT hg];exact hg
  ·rw[HT hg];simp[mark,aL,bN]
 ·obtain⟨g,hg,rfl⟩:=hg;show bC (kT (qv bS (bS g)) _ st)/\aU (kT (qv bS (bS g)) _ st)=_;rw[OT hg];exact aan h rfl
 ·exact hg.elim
theorem G8 (c:Nat):∀s:List Nat,cT c s<=s.length/\s.take (cT c s)=List.replicate (cT c s) c
 |[]=>⟨Nat.le_refl _,rfl⟩
 |x::s=>by
  unfold cT;have ih:=G8 c s;cases h:Nat.beq x c with
  |true=>
   have:=Nat.eq_of_beq_eq_true h;subst this;exact⟨Nat.succ_le_succ ih.1,by rw[List.take_succ_cons,ih.2];rfl⟩
  |false=>exact⟨Nat.zero_le _,rfl⟩
theorem Du {f:Nat->List Nat} {s:List Nat} (h:c9 f s≠0):(c9 f s=1\/c9 f s=2\/c9 f s=3)/\pre (f (c9 f s)) s=true:=by
 unfold c9 at h ⊢;split
 ·rename_i h1;exact⟨.inl rfl,h1⟩
 ·split
  ·rename_i h1;exact⟨.inr (.inl rfl),h1⟩
  ·split
   ·rename_i h1;exact⟨.inr (.inr rfl),h1⟩
   ·rename_i h1 h2 h3;simp[h1,h2,h3]at h
theorem yr {c:Nat} {s:List Nat}:(c::s).take (cT c s+1)=List.replicate (cT c s+1) c/\((c::s).take (cT c s+1)).length=cT c s+1:=by
 have h:=G8 c s;have h1:(c::s).take (cT c s+1)=List.replicate (cT c s+1) c:=by rw[List.take_succ_cons,h.2];rfl
 exact⟨h1,by rw[h1,List.length_replicate]⟩
theorem aaD {s:List Nat} (hs:1<=s.length) (hk:(jD s).1≠0):1<=(jD s).2/\(jD s).2<=s.length/\pB (jD s).1 (s.take (jD s).2):=by
 unfold jD at hk ⊢;split
 ·rename_i hp;have h4:=oE hp;simp only[uU,List.length_cons,List.length_nil]at h4;dsimp only;split
  ·rename_i k hx;obtain⟨h1,h2,_⟩:=sN hx;have:=oE h1;simp only[yQ,List.length_cons,List.length_nil,List.length_drop]at this h2;exact⟨by omega,by omega,trivial⟩
  ·exact⟨by omega,Nat.le_refl _,trivial⟩
 ·rename_i Co;rw[if_neg Co]at hk;split
  ·rename_i k hx;split at hx
   ·rename_i hp;have h8:=oE hp;obtain⟨h1,h2,_⟩:=sN hx;have h9:=oE h1;have e1:=W5 hp;have e2:=W5 h1;simp only[eB,gB,List.length_cons,List.length_nil,List.length_drop]at h8 h9 h2;refine⟨by omega,by omega,(s.drop 8).take k,?_⟩;have e3:s=eB++(s.drop 8).take k++gB++((s.drop 8).drop k).drop 9:=by
     conv=>lhs;rw[e1]
     rw[List.append_assoc,List.append_assoc];congr 1;show s.drop 8=_
     conv=>lhs;rw[<-List.take_append_drop k (s.drop 8)]
     congr 1
    conv=>lhs;rw[e3]
    rw[List.take_append,List.take_of_length_le (by simp[eB,gB];omega)];have hl:(eB++(s.drop 8).take k++gB).length=8+k+9:=by simp[eB,gB];omega
    rw[hl,Nat.sub_self,List.take_zero,List.append_nil]
   ·cases hx
  ·rename_i hx;rw[hx]at hk;dsimp only at hk;split
   ·rename_i ho;rw[if_pos ho]at hk;split
    ·rename_i hc;rw[if_pos hc]at hk;exact absurd rfl hk
    ·rename_i hc;obtain⟨h1,h2⟩:=Du hc;refine⟨by simp[bS],oE h2,⟨_,h1,xX.1 h2⟩⟩
   ·rename_i ho;obtain⟨h1,h2⟩:=Du ho;refine⟨by simp[bR],oE h2,⟨_,h1,xX.1 h2⟩⟩
theorem YL {s:List Nat} (hs:s≠[]) (hk:(cm s).1≠0):1<=(cm s).2/\(cm s).2<=s.length/\pB (cm s).1 (s.take (cm s).2):=by
 have two:∀{c:Nat} {r:List Nat},2<=cT c r+1->(c::r).take 2=[c,c]/\2<=(c::r).length:=by
  intro c r h;have h1:=G8 c r;have e:(c::r).take 2=((c::r).take (cT c r+1)).take 2:=by rw[List.take_take,Nat.min_eq_left h]
  refine⟨?_,by simp;omega⟩;rw[e,yr.1];obtain⟨m,hm⟩:∃m,cT c r+1=m+2:=⟨cT c r-1,by omega⟩;rw[hm];rfl
 have rn:=fun(c:Nat) (r:List Nat)=>G8 c r
 unfold cm at hk ⊢;split at hk
 ·exact absurd rfl hk
 ·exact aaD (by simp) hk
 all_goals (try dsimp only)
 ·rename_i r;split at hk
  ·rename_i h;rw[if_pos h];have:=rn 123 r;refine⟨by omega,by simp;omega,?_,?_⟩
   ·rw[yr.2];exact h
   ·rw[yr.2];exact yr.1
  ·exact absurd rfl hk
 ·rename_i r;split at hk
  ·rename_i h;rw[if_pos h];have:=rn 125 r;refine⟨by omega,by simp;omega,?_,?_⟩
   ·rw[yr.2];exact h
   ·rw[yr.2];exact yr.1
  ·exact absurd rfl hk
 ·rename_i r;split at hk
  ·rename_i h;rw[if_pos h];exact⟨by omega,(two h).2,(two h).1⟩
  ·exact absurd rfl hk
 ·rename_i r;split at hk
  ·rename_i h;rw[if_pos h];exact⟨by omega,(two h).2,(two h).1⟩
  ·exact absurd rfl hk
 ·exact⟨Nat.le_refl _,by simp,rfl⟩
 ·exact⟨Nat.le_refl _,by simp,rfl⟩
 ·exact⟨Nat.le_refl _,by simp,rfl⟩
 ·exact absurd rfl hk
theorem Hu (s:List Nat):∀(f i t:Nat),t<=i->i<=s.length->s.length<f+i->
 (∀x∈oI s f i t,t<=x.2.1/\x.2.1<x.2.2/\x.2.2<=s.length/\pB x.1 (cB s x))/\((oI s f i t).map (cB s)).flatten=s.drop t
 |0,i,t,_,h1,h2=>by omega
 |f+1,i,t,ht,hi,hf=>by
  have one:∀i',t<i'->i'<=s.length->pB 1 (cB s (1,t,i'))/\cB s (1,t,i')++s.drop i'=s.drop t:=by
   intro i' h h';refine⟨?_,?_⟩
   ·intro e;have:=congrArg List.length e;simp only[cB,List.length_take,List.length_drop,List.length_nil]at this;omega
   ·show(s.drop t).take (i'-t)++s.drop i'=_;have:s.drop i'=(s.drop t).drop (i'-t):=by rw[List.drop_drop];congr 1;omega
    rw[this,List.take_append_drop]
  unfold oI;split
  ·rename_i hlt;have aP:s.drop i≠[]:=by
    intro e;have:=congrArg List.length e;simp at this;omega
   split
   ·exact Hu s f (i+1) t om om om
   ·rename_i hk;obtain⟨h1,h2,h3⟩:=YL aP hk;rw[List.length_drop]at h2;obtain⟨k1,k2⟩:=Hu s f (i+(cm (s.drop i)).2) (i+(cm (s.drop i)).2) (Nat.le_refl _) om om;have hT:cB s ((cm (s.drop i)).1,i,i+(cm (s.drop i)).2)=(s.drop i).take (cm (s.drop i)).2:=by simp only[cB,Nat.add_sub_cancel_left]
    have hd:(s.drop i).take (cm (s.drop i)).2++s.drop (i+(cm (s.drop i)).2)=s.drop i:=by rw[<-List.drop_drop,List.take_append_drop]
    constructor
    ·intro x hx;rcases List.mem_append.1 hx with hx|hx
     ·split at hx
      ·rename_i h;rw[List.mem_singleton.1 hx];exact⟨Nat.le_refl _,h,by dsimp only;omega,(one i h om).1⟩
      ·cases hx
     ·rcases List.mem_cons.1 hx with rfl|hx
      ·exact⟨ht,by dsimp only;omega,by dsimp only;omega,by rw[hT];exact h3⟩
      ·have:=k1 x hx;exact⟨by omega,this.2⟩
    ·rw[List.map_append,List.flatten_append,List.map_cons,List.flatten_cons,k2,hT,hd];split
     ·rename_i h;simp only[List.map_cons,List.map_nil,List.flatten_cons,List.flatten_nil,List.append_nil];exact(one i h om).2
     ·have:t=i:=om;subst this;rfl
  ·have hi:i=s.length:=om;split
   ·rename_i h;constructor
    ·intro x hx;rw[List.mem_singleton.1 hx];exact⟨Nat.le_refl _,h,Nat.le_refl _,(one _ h (Nat.le_refl _)).1⟩
    ·have:=(one _ h (Nat.le_refl _)).2;simpa using this
   ·have:t=s.length:=om;subst this;exact⟨fun x hx=>((by cases hx)),by simp⟩
theorem Ib (s:List Nat):(∀x∈cw s,x.2.1<x.2.2/\x.2.2<=s.length/\pB x.1 (cB s x))/\((cw s).map (cB s)).flatten=s:=by
 have h:=Hu s (s.length+1) 0 0 (Nat.le_refl _) (Nat.zero_le _) om;exact⟨fun x hx=>(h.1 x hx).2,h.2⟩
theorem Oy (s:List Nat):∀(l:List Tok) (st:List AE),bC st->(∀x∈l,pB x.1 (cB s x))->bC (l.foldl (fun st t=>jV st t.1 (cB s t)) st)/\aU (l.foldl (fun st t=>jV st t.1 (cB s t)) st)=aU st++(l.map (cB s)).flatten
 |[],st,h,_=>⟨h,by simp⟩
 |x::l,st,h,hg=>by
  obtain⟨h1,h2⟩:=aav h (hg x (List.mem_cons_self ..));obtain⟨k1,k2⟩:=Oy s l _ h1 fun y hy=>hg y (List.mem_cons_of_mem _ hy)
  refine⟨k1,?_⟩;show aU (l.foldl _ (jV st x.1 (cB s x)))=_;rw[k2,h2];simp
theorem Xt:bC [root]:=⟨rfl,rfl⟩
theorem aat (s:List Nat):bC (rW s (cw s))/\aU (rW s (cw s))=s:=by
 have h:=Ib s;obtain⟨h1,h2⟩:=Oy s (cw s) [root] Xt fun x hx=>(h.1 x hx).2.2
 exact⟨h1,h2.trans (by rw[h.2];rfl)⟩
theorem N2 (s:List Nat):aL (oD s)=s:=by
 obtain⟨h1,h2⟩:=aat s;have aP:=h1.ne;have hl:(rW s (cw s)).length≠0:=by simpa using aP
 obtain⟨k1,k2,k3⟩:=uQ (j:=(rW s (cw s)).length-1) h1 om;unfold oD;cases hc:eS ((rW s (cw s)).length-1) (rW s (cw s))with
 |nil=>rw[hc]at k1;exact k1.elim
 |cons e r=>
  rw[hc]at k1 k2 k3;have hr:r=[]:=by
   simp only[List.length_cons]at k2;exact List.eq_nil_of_length_eq_zero om
  subst hr;rw[h2]at k3;simp only[aU,k1.2,mark,k1.1]at k3;simp only[bN,List.map_nil,List.flatten_nil,List.append_nil,List.nil_append]at k3;exact k3
theorem N4 (s:List Nat):(fD s).length=s.length:=by
 have:∀l:List AN,((l.map fun n=>List.replicate n.s.length n.t).flatten).length=(aL l).length:=by
  intro l
  induction l with
  |nil=>rfl
  |cons n l ih=>simp only[List.map_cons,List.flatten_cons,List.length_append,List.length_replicate,ih,aL]
 rw[fD,this,N2]
end
end Go.Sh
