/-
  The shadow evaluator is sound: what it answers is what the program answers in every world that fits. No conditions beyond those that stand in the theorems.
-/
import Derived.Test.YtfgpklidnkdahaaGreatDoorShA3
import Derived.Test.YtfgpklidnkdahaaGreatDoorShA1
import Derived.Scope
import Derived.Recover
import Derived.Orders
set_option linter.all false
set_option maxHeartbeats 20000000
namespace Go.Sh
section
open Go.RowKit (Below)
def uM (φ:aI) (B:Nat) (H:ag) (w:World) (r:SV) (H':ag) (e:Ending) (w':World):Prop:=
 H.next<=H'.next/\∃bh u,φ.ext bh H.next/\e=.returned u/\VR bh r u/\HR bh B H' w'/\Below B w w'
structure Ground where
 p:aI->Nat->World->Prop
 st:∀φ bh B w w',p φ B w->φ.le bh->Below B w w'->p bh B w'
def HG (G:Ground) (φ:aI) (B:Nat) (H:ag) (w:World):Prop:=HR φ B H w/\G.p φ B w
def lV (G:Ground) (P:Program) (call:cb):Prop:=
 ∀f args H r H',call f args H=some (r,H')->jF P f=true/\
  ∀φ B w (args':Array Value),aE φ args args'.toList->HG G φ B H w->Calls P f args' w (uM φ B H w r H')
section
variable {G:Ground} {P:Program} {φ:aI} {B:Nat} {H H':ag} {w:World} {ts:T} {a:Act} {o:Oper} {v:SV} {call:cb}
theorem aE.set {xs:List SV} {vs:List Value} {x:SV} {u:Value} (h:aE φ xs vs) (hx:VR φ x u):∀d,aE φ (xs.set d x) (vs.set d u):=by
 induction h using aE.rec (motive_1:=fun _ _ _=>True)with
 |nil=>intro d;simpa using .nil
 |cons h t _ ih=>
  intro d;cases d with
  |zero=>exact .cons hx t
  |succ d=>exact .cons h (ih d)
 |_=>trivial
theorem W9 {dst:Option Nat} {u:Value} (ht:aE φ ts a.tmps.toList) (hv:VR φ v u):aE φ (c6 ts dst v) (a.put dst u).tmps.toList:=by
 cases dst with
 |none=>exact ht
 |some d=>simpa[c6,Act.put]using ht.set hv d
def Q8 (G:Ground) (φ:aI) (B:Nat) (H:ag) (w:World) (v:SV) (H':ag) (K:Act->World->Prop) (a:Act) (dst:Option Nat):Prop:=
 ∀bh u w',H.next<=H'.next->φ.ext bh H.next->VR bh v u->HG G bh B H' w'->Below B w w'->K (a.put dst u) w'
theorem Y9 {so:SK} (cK:lV G P call) (hc:yS P o=some so) (ht:aE φ ts a.tmps.toList) (hh:HG G φ B H w) (he:eu call so ts H=some (v,H')):
 ∀{K:Act->World->Prop} {Q:Exit->Act->World->Prop},Q8 G φ B H w v H' K a o.dst->o.wp P a w K Q:=by
 unfold yS at hc;split at hc
 ·rename_i gF b8;split at hc
  ·rename_i xu;cases hc;obtain⟨hn,bh,nx,u,w',h1,h2,h3,h4,h5,h6⟩:=Si b8 xu ht hh.1 he;have h5:HG G bh B H' w':=⟨h5,G.st _ _ _ _ _ hh.2 h1.1 h6⟩;intro K Q hK;unfold Oper.wp;rw[h2];rcases h3 with rfl|⟨rfl,rfl⟩
   ·exact hK _ _ _ hn h1 h4 h5 h6
   ·exact hK _ _ _ hn h1 h4 h5 h6
  ·cases hc;simp[eu,evalOp]at he
 ·split at hc
  ·rename_i c ho;split at hc
   case h_2=>cases hc;simp[eu,evalOp]at he
   rename_i k eV;cases hc;have key:∀f (args:List SV) (args':Array Value),call f args H=some (v,H')->aE φ args args'.toList->(execOp a.eval o).run P w=.ok (.enter f args') w->
    ∀{K:Act->World->Prop} {Q:Exit->Act->World->Prop},Q8 G φ B H w v H' K a o.dst->o.wp P a w K Q:=by
    intro f args args' hf hv hr;obtain⟨_,bO⟩:=cK _ _ _ _ _ hf;intro K Q hK;unfold Oper.wp;rw[hr];refine(bO φ B w args' hv hh).mono ?_;rintro e w' ⟨hn,bh,u,h1,rfl,h2,h3,h4⟩;exact hK _ _ _ hn h1 h2 ⟨h3,G.st _ _ _ _ _ hh.2 h1.1 h4⟩ h4
   cases so with
   |op so=>
    exfalso;unfold tk at eV;split at eV
    ·split at eV
     ·split at eV<;>cases eV
     ·cases eV
    ·split at eV<;>cases eV
    ·split at eV<;>cases eV
    ·cases eV
   |call f xs=>
    obtain⟨args',hv,hr⟩:=abN (w:=w) ho eV ht;intro K Q hK;exact key f _ _ he hv hr hK
   |tj y xs=>
    simp only[eu]at he;split at he
    ·rename_i f fs cs hy;obtain⟨tW,_⟩:=cK _ _ _ _ _ he;obtain⟨args',hv,hr⟩:=abO (w:=w) ho eV ht hy tW;intro K Q hK;exact key f _ _ he hv hr hK
    ·cases he
   |inv y cH xs=>
    simp only[eu]at he;split at he
    ·rename_i t x0 hy;split at he
     ·rename_i f hf;obtain⟨tW,_⟩:=cK _ _ _ _ _ he;obtain⟨args',hv,hr⟩:=abT (w:=w) ho eV ht hy hf tW;intro K Q hK;exact key f _ _ he hv hr hK
     ·cases he
    ·cases he
  ·cases hc;simp[eu,evalOp]at he
theorem Y3 {ops:Array Oper} {so:aG} (hc:pJ P ops o=some so) (ht:aE φ ts a.tmps.toList):Region.wanted o (yielded ops a.tmps)=bL ts so.guard:=by
 unfold pJ at hc;split at hc
 ·cases hc
 ·split at hc
  ·rename_i hg;cases hc;simp[Region.wanted,hg,bL]
  ·rename_i j want hg;split at hc
   ·rename_i t hj;cases hc;simp only[Region.wanted,hg,bL,yielded,hj,Option.bind_some];by_cases hl:t<ts.length
    ·obtain⟨u,hu,hr⟩:=ht.get t ts[t] (List.getElem?_eq_getElem hl);simp only[Array.getElem?_toList]at hu;rw[hu];have e:ts.getD t SV.undef=ts[t]:=by simp[List.getD,List.getElem?_eq_getElem hl]
     rw[e];generalize ts[t]=x at hr;cases hr with
     |bool b=>cases b<;>cases want<;>rfl
     |rM _ _ ho=>cases u<;>first|rfl|cases ho
     |_=>rfl
    ·have lg:¬t<a.tmps.size:=by
      have e:List.length ts=a.tmps.size:=ht.length.trans (by simp);intro hx;exact hl (by rw[e];exact hx)
     have e:ts.getD t SV.undef=SV.undef:=by simp[List.getD,List.getElem?_eq_none (Nat.le_of_not_lt hl)]
     rw[e,Array.getElem?_eq_none (Nat.le_of_not_lt lg)];rfl
   ·cases hc
theorem Sj {ops:Array Oper} {so:aG} (hc:pJ P ops o=some so):yS P o=some so.k/\so.dst=o.dst:=by
 unfold pJ at hc;split at hc
 ·cases hc
 ·rename_i k hk;split at hc
  ·cases hc;exact⟨hk,rfl⟩
  ·split at hc
   ·cases hc;exact⟨hk,rfl⟩
   ·cases hc
def Jj (G:Ground) (φ:aI) (B:Nat) (H:ag) (w:World) (aA:T) (H':ag) (ds:List Deferred) (K:Act->World->Prop):Prop:=
 ∀bh a' w',H.next<=H'.next->φ.ext bh H.next->aE bh aA a'.tmps.toList->HG G bh B H' w'->Below B w w'->a'.defers=ds->K a' w'
theorem put_defers (a:Act) (dst:Option Nat) (u:Value):(a.put dst u).defers=a.defers:=by cases dst<;>rfl
theorem Ij {ops:Array Oper} {Q:Exit->Act->World->Prop} {ds:List Deferred} {rest:List Nat} (cK:lV G P call):∀(l:List Oper) (is:List Nat) (sl:List aG) (φ:aI) (H:ag) (w:World) (ts:T) (a:Act) (aA:T) (H':ag),
 l.length=is.length->(∀(i:Nat) (o:Oper),l[i]? =some o->∃k,is[i]? =some k/\ops[k]? =some o)->cj (pJ P ops) l=some sl->iP call sl ts H=some (aA,H')->aE φ ts a.tmps.toList->HG G φ B H w->a.defers=ds->
 Jj G φ B H w aA H' ds (wpOps P ops Q rest)->wpOps P ops Q (is++rest) a w
 |[],is,sl,φ,H,w,ts,a,aA,H',hlen,_,hm,he,ht,hh,hd=>by
  simp[cj]at hm;subst hm;simp only[iP,Option.some.injEq,Prod.mk.injEq]at he;obtain⟨rfl,rfl⟩:=he;have:is=[]:=List.eq_nil_of_length_eq_zero (by simpa using hlen.symm);subst this;exact fun hT=>hT φ a w (Nat.le_refl _) (aI.ext.refl φ _) ht hh (Below.refl _ _) hd
 |o::l,[],sl,φ,H,w,ts,a,aA,H',hlen,_,hm,he,ht,hh,hd=>by simp at hlen
 |o::l,i::is,sl,φ,H,w,ts,a,aA,H',hlen,dp,hm,he,ht,hh,hd=>by
  intro hT;simp only[cj]at hm;split at hm
  ·rename_i so rl;split at hm
   ·rename_i OJ bE;cases hm;obtain⟨k,eW,dX⟩:=dp 0 o rfl;simp at eW;subst eW;have hw:=Y3 rl ht;obtain⟨eV,qV⟩:=Sj rl;have Up:∀(j:Nat) (o':Oper),l[j]? =some o'->∃k,is[j]? =some k/\ops[k]? =some o':=fun j o' hj=>by simpa using dp (j+1) o' (by simpa using hj)
    simp only[iP]at he;split at he
    ·rename_i M6;split at he
     ·rename_i v H1 dW;simp only[List.cons_append,wpOps,dX];rw[if_pos (by rw[hw,M6])];refine .inl (Y9 (w:=w) cK eV ht hh dW fun bh u w' ca h1 h2 h3 h4=>?_);have CB:aE bh (c6 ts so.dst v) (a.put so.dst u).tmps.toList:=W9 (ht.mono h1.1) h2;rw[qV]at CB he;exact Ij cK l is OJ bh H1 w' _ (a.put o.dst u) aA H' (by simpa using hlen) Up bE he CB h3 (by rw[put_defers];exact hd)
       fun anS a'' w'' dc g1 g2 g3 g4 g5=>hT anS a'' w'' (Nat.le_trans ca dc) (h1.trans g1 ca) g2 g3 (h4.trans g4) g5
     ·cases he
    ·rename_i M6;have CB:aE φ (c6 ts so.dst .undef) (a.put so.dst Go.undef).tmps.toList:=W9 ht (VR.undef φ);rw[qV]at CB he;simp only[List.cons_append,wpOps,dX];rw[if_neg (by rw[hw,M6];simp)];exact Ij cK l is OJ φ H w _ (a.put o.dst Go.undef) aA H' (by simpa using hlen) Up bE he CB hh (by rw[put_defers];exact hd) hT
   ·cases hm
  ·cases hm
theorem al9 {id:Nat} {ops:Array Oper} {Q:Exit->Act->World->Prop} {ds:List Deferred} {sl:List aG} {aA:T} (cK:lV G P call) (hm:cj (pJ P ops) ops.toList=some sl) (he:iP call sl ts H=some (aA,H'))
 (ht:aE φ ts a.tmps.toList) (hh:HG G φ B H w) (hd:a.defers=ds) (hT:Jj G φ B H w aA H' ds (Q .normal)):(Code.region id ops false).wp P Q a w:=
 wp_region (by
  have:=Ij (Q:=Q) (rest:=[]) cK ops.toList (List.range ops.size) sl φ H w ts a aA H' (by simp) (fun i o hi=>by
   have hlt:=(List.getElem?_eq_some_iff.1 hi).1;simp only[Array.length_toList]at hlt;exact⟨i,by simp[hlt],by simpa using hi⟩) hm he ht hh hd hT
  simpa using this)
inductive DR (φ:aI):DS->List Deferred->Prop where
 |nil:DR φ [] []
 |cons {f:FuncId} {args:List SV} {d:Deferred} {cap:Array Value} {D:DS} {ds:List Deferred} (ht:d.target=.fn (.func f) cap) (ha:aE φ args (d.args.toList++cap.toList)) (h:DR φ D ds):DR φ ((f,args)::D) (d::ds)
theorem DR.mono {φ ψ:aI} (hle:φ.le ψ):∀{D:DS} {ds:List Deferred},DR φ D ds->DR ψ D ds
 |_,_,.nil=>.nil
 |_,_,.cons ht ha h=>.cons ht (ha.mono hle) (DR.mono hle h)
def Jk (G:Ground) (φ:aI) (B:Nat) (H:ag) (w:World) (aA:T) (D':DS) (H':ag) (K:Act->World->Prop):Prop:=
 ∀bh a' w',H.next<=H'.next->φ.ext bh H.next->aE bh aA a'.tmps.toList->DR bh D' a'.defers->HG G bh B H' w'->Below B w w'->K a' w'
theorem Yj {α:Type}:∀{l a:List α} {x:α},AB l=some (a,x)->l=a++[x]
 |[],a,x,h=>by simp[AB]at h
 |[y],a,x,h=>by simp[AB]at h;obtain⟨rfl,rfl⟩:=h;rfl
 |y::z::l,a,x,h=>by
  simp only[AB]at h;split at h
  ·rename_i b u hb;cases h;rw[Yj hb];rfl
  ·cases h
theorem abU {ops:Array Oper} {sc:er} (h:Bh P ops=some sc):∃sl y xs,sc=.vQ sl y xs:=by
 unfold Bh at h
 (repeat' split at h)<;>cases h
 exact⟨_,_,_,rfl⟩
theorem ama {id:Nat} {ops:Array Oper} {Q:Exit->Act->World->Prop} {sl:List aG} {y:X} {xs:List X} {D D':DS} {x:fa} {aA:T} {lf:Nat} (cK:lV G P call) (hm:Bh P ops=some (.vQ sl y xs)) (he:cO call lf (.vQ sl y xs) ts D H=some (x,aA,D',H'))
 (ht:aE φ ts a.tmps.toList) (hh:HG G φ B H w) (hd:DR φ D a.defers) (hT:x=.normal->Jk G φ B H w aA D' H' (Q .normal)):(Code.region id ops false).wp P Q a w:=by
 unfold Bh at hm;split at hm
 ·rename_i l o gh;split at hm
  ·rename_i c b8 mz qV;split at hm
   ·rename_i yo db;split at hm
    ·rename_i OJ y' oM h1 h2 h3;cases hm;simp only[cO]at he;split at he
     ·rename_i t1 H1 dW;split at he
      ·rename_i f fs cs hy;cases he;have hl:=Yj gh;have dY:ops.size=l.length+1:=by rw[<-Array.length_toList,hl];simp
       refine wp_region ?_;rw[dY,List.range_succ];refine Ij (Q:=Q) (rest:=[l.length]) cK l (List.range l.length) sl φ H w ts a aA H' (by simp) (fun i o' hi=>?_) h1 dW ht hh rfl ?_
       ·have hlt:=(List.getElem?_eq_some_iff.1 hi).1;refine⟨i,by simp[hlt],?_⟩;rw[<-Array.getElem?_toList,hl,List.getElem?_append_left hlt,hi]
       ·intro bh a' w' n1 g1 g2 g3 g4 g5;have FL:ops[l.length]? =some o:=by rw[<-Array.getElem?_toList,hl];simp
        simp only[wpOps,FL];rw[if_pos (by simp[Region.wanted,mz])];left;have q1:=bF h2 g2;rw[hy]at q1;generalize hp:a'.eval yo=pv at q1;cases q1 with
        |func q1 q2=>
         rename_i us vs;have dK:(execOp a'.eval o).run P w'=.ok (.defer {target:=.fn (.func f) vs,args:=us++c.args.map a'.eval}) w':=by
          simp[execOp,b8,resolve,db,hp,Deferred.ofValue]
         unfold Oper.wp;rw[dK,Oper.upon_defer,qV];refine hT rfl bh _ w' n1 g1 g2 (.cons (cap:=vs) rfl ?_ (by rw[g5];exact hd.mono g1.1)) g3 g4;simp only[Array.toList_append,List.append_assoc];exact q1.append ((wB h3 g2).append q2)
      ·cases he
     ·cases he
    ·cases hm
   ·cases hm
  ·cases hm
 ·cases hm
def XR:fa->Exit
 |.normal=>.normal
 |.exit id=>.exit id
 |.ret=>.ret
def D5 (G:Ground) (P:Program) (call:cb):Prop:=
 ∀(φ:aI) (B:Nat) (H H':ag) (w:World) (ts aA:T) (a:Act) (ops:Array Oper) (dops:List (aG×DK)) (swap:Bool) (id:Nat) (Q:Exit->Act->World->Prop) (ds:List Deferred),
  yR P ops=some (.hX dops swap)->uY call dops swap ts H=some (aA,H')->aE φ ts a.tmps.toList->HG G φ B H w->a.defers=ds->Jj G φ B H w aA H' ds (Q .normal)->
  (Code.region id ops true).wp P Q a w
theorem YU {ops:Array Oper} {l:List aG} {wide:Bool} {sc:er} (h:tryD ops l wide=some sc):∃dops swap,sc=.hX dops swap:=by
 unfold tryD at h;split at h;rename_i dops sw _;split at h
 ·cases h;exact⟨dops,sw,rfl⟩
 ·cases h
theorem abR {ops:Array Oper} {sc:er} (h:yR P ops=some sc):∃dops swap,sc=.hX dops swap:=by
 unfold yR at h;split at h
 ·cases h
 ·split at h
  ·rename_i c hc;cases h;exact YU hc
  ·exact YU h
theorem oQ {lf:Nat} (cK:lV G P call) (k9:D5 G P call):∀(c:Code) (φ:aI) (H:ag) (w:World) (ts:T) (D:DS) (a:Act) (x:fa) (aA:T) (D':DS) (H':ag) (Q:Exit->Act->World->Prop),
 cO call lf (ix P c) ts D H=some (x,aA,D',H')->aE φ ts a.tmps.toList->HG G φ B H w->DR φ D a.defers->Jk G φ B H w aA D' H' (Q (XR x))->c.wp P Q a w
 |.skip,φ,H,w,ts,D,a,x,aA,D',H',Q,he,ht,hh,hd,hT=>by
  simp only[ix,cO,Option.some.injEq,Prod.mk.injEq]at he;obtain⟨rfl,rfl,rfl,rfl⟩:=he;exact wp_skip (hT φ a w (Nat.le_refl _) (aI.ext.refl φ _) ht hd hh (Below.refl _ _))
 |.region id ops d,φ,H,w,ts,D,a,x,aA,D',H',Q,he,ht,hh,hd,hT=>by
  simp only[ix]at he;cases d with
  |false=>
   dsimp only at he;split at he
   ·rename_i sc pg;obtain⟨sl,y,xs,rfl⟩:=abU pg;refine ama cK pg he ht hh hd fun e=>?_
    subst e;exact hT
   ·split at he
    ·rename_i sl bE;simp only[cO]at he;split at he
     ·rename_i t1 H1 dW;cases he;exact al9 cK bE dW ht hh rfl fun bh a' w' n g1 g2 g3 g4 g5=>hT bh a' w' n g1 g2 (by rw[g5];exact hd.mono g1.1) g3 g4
     ·cases he
    ·simp[cO]at he
  |true=>
   dsimp only at he;split at he
   ·rename_i sc hc;obtain⟨dops,swap,rfl⟩:=abR hc;simp only[cO]at he;split at he
    ·rename_i t1 H1 dW;cases he;exact k9 φ B H H' w ts aA a ops dops swap id Q _ hc dW ht hh rfl fun bh a' w' n g1 g2 g3 g4 g5=>hT bh a' w' n g1 g2 (by rw[g5];exact hd.mono g1.1) g3 g4
    ·cases he
   ·simp[cO]at he
 |.seq c1 c2,φ,H,w,ts,D,a,x,aA,D',H',Q,he,ht,hh,hd,hT=>by
  simp only[ix,cO]at he;refine wp_seq ?_;split at he
  ·rename_i t1 D1 H1 dW;refine oQ cK k9 c1 φ H w ts D a .normal t1 D1 H1 _ dW ht hh hd fun di a1 w1 n1 g1 g2 g3 g4 g5=>?_
   exact oQ cK k9 c2 di H1 w1 t1 D1 a1 x aA D' H' Q he g2 g4 g3 fun yF a2 w2 n2 k1 k2 k3 k4 k5=>hT yF a2 w2 (Nat.le_trans n1 n2) (g1.trans k1 n1) k2 k3 k4 (g5.trans k5)
  ·rename_i aP;refine oQ cK k9 c1 φ H w ts D a x aA D' H' _ he ht hh hd fun di a1 w1 n1 g1 g2 g3 g4 g5=>?_
   have:=hT di a1 w1 n1 g1 g2 g3 g4 g5;cases x with
   |normal=>exact absurd he (aP _ _ _)
   |exit id=>exact this
   |ret=>exact this
 |.cond cx c1 c2,φ,H,w,ts,D,a,x,aA,D',H',Q,he,ht,hh,hd,hT=>by
  simp only[ix]at he;split at he
  ·rename_i y hy;have hr:=bF hy ht;simp only[cO]at he;split at he
   ·rename_i hb;rw[hb]at hr;generalize hg:a.eval cx=u at hr;cases hr;exact wp_cond_true hg (oQ cK k9 c1 φ H w ts D a x aA D' H' Q he ht hh hd hT)
   ·rename_i hb;rw[hb]at hr;generalize hg:a.eval cx=u at hr;cases hr;exact wp_cond_false hg (oQ cK k9 c2 φ H w ts D a x aA D' H' Q he ht hh hd hT)
   ·cases he
  ·simp[cO]at he
 |.block id c,φ,H,w,ts,D,a,x,aA,D',H',Q,he,ht,hh,hd,hT=>by
  simp only[ix,cO]at he;refine wp_block ?_;split at he
  ·rename_i lM t1 D1 H1 dW;split at he
   ·rename_i hid;cases he;have aey:=Nat.eq_of_beq_eq_true hid;subst aey;refine oQ cK k9 c φ H w ts D a (.exit lM) aA D' H' _ dW ht hh hd fun di a1 w1 n1 g1 g2 g3 g4 g5=>?_
    simp only[XR,Exit.inBlock,if_true];exact hT di a1 w1 n1 g1 g2 g3 g4 g5
   ·rename_i hid;cases he;have aP:lM≠id:=fun e=>by subst e;simp at hid
    refine oQ cK k9 c φ H w ts D a (.exit lM) aA D' H' _ dW ht hh hd fun di a1 w1 n1 g1 g2 g3 g4 g5=>?_
    simp only[XR,Exit.inBlock,if_neg aP];exact hT di a1 w1 n1 g1 g2 g3 g4 g5
  ·rename_i aP;refine oQ cK k9 c φ H w ts D a x aA D' H' _ he ht hh hd fun di a1 w1 n1 g1 g2 g3 g4 g5=>?_
   have:=hT di a1 w1 n1 g1 g2 g3 g4 g5;cases x with
   |normal=>exact this
   |exit id=>exact absurd he (aP _ _ _ _)
   |ret=>exact this
 |.loop c,φ,H,w,ts,D,a,x,aA,D',H',Q,he,ht,hh,hd,hT=>by
  simp only[ix,cO]at he;refine wp_loop_rounds lf ?_;have key:∀(n:Nat) (φ:aI) (H:ag) (w:World) (ts:T) (D:DS) (a:Act),rH (cO call lf (ix P c)) n ts D H=some (x,aA,D',H')->aE φ ts a.tmps.toList->HG G φ B H w->DR φ D a.defers->Jk G φ B H w aA D' H' (Q (XR x))->
   Code.rounds P c Q n a w:=by
   intro n
   induction n with
   |zero=>intro φ H w ts D a hl;simp[rH]at hl
   |succ n ih=>
    intro φ H w ts D a hl ht hh hd hT;rw[rounds_succ];simp only[rH]at hl;split at hl
    ·rename_i t1 D1 H1 dW;refine oQ cK k9 c φ H w ts D a .normal t1 D1 H1 _ dW ht hh hd fun di a1 w1 n1 g1 g2 g3 g4 g5=>?_
     exact ih di H1 w1 t1 D1 a1 hl g2 g4 g3 fun yF a2 w2 n2 k1 k2 k3 k4 k5=>hT yF a2 w2 (Nat.le_trans n1 n2) (g1.trans k1 n1) k2 k3 k4 (g5.trans k5)
    ·rename_i aP;refine oQ cK k9 c φ H w ts D a x aA D' H' _ hl ht hh hd fun di a1 w1 n1 g1 g2 g3 g4 g5=>?_
     have:=hT di a1 w1 n1 g1 g2 g3 g4 g5;cases x with
     |normal=>exact absurd hl (aP _ _ _)
     |exit id=>exact this
     |ret=>exact this
  exact key lf φ H w ts D a he ht hh hd hT
 |.exit id,φ,H,w,ts,D,a,x,aA,D',H',Q,he,ht,hh,hd,hT=>by
  simp only[ix,cO,Option.some.injEq,Prod.mk.injEq]at he;obtain⟨rfl,rfl,rfl,rfl⟩:=he;exact wp_exit (hT φ a w (Nat.le_refl _) (aI.ext.refl φ _) ht hd hh (Below.refl _ _))
 |.ret,φ,H,w,ts,D,a,x,aA,D',H',Q,he,ht,hh,hd,hT=>by
  simp only[ix,cO,Option.some.injEq,Prod.mk.injEq]at he;obtain⟨rfl,rfl,rfl,rfl⟩:=he;exact wp_ret (hT φ a w (Nat.le_refl _) (aI.ext.refl φ _) ht hd hh (Below.refl _ _))
 |.rangeFunc _ _ _ _,φ,H,w,ts,D,a,x,aA,D',H',Q,he,ht,hh,hd,hT=>by simp[ix,cO]at he
 |.scope c,φ,H,w,ts,D,a,x,aA,D',H',Q,he,ht,hh,hd,hT=>by
  simp only[ix]at he;refine wp_scope_straight (oQ cK k9 c φ H w ts D a x aA D' H' _ he ht hh hd fun di a1 w1 n1 g1 g2 g3 g4 g5=>?_);have:=hT di a1 w1 n1 g1 g2 g3 g4 g5;cases x<;>exact this
 |.label _,φ,H,w,ts,D,a,x,aA,D',H',Q,he,ht,hh,hd,hT=>by
  simp only[ix,cO,Option.some.injEq,Prod.mk.injEq]at he;obtain⟨rfl,rfl,rfl,rfl⟩:=he;exact wp_label (hT φ a w (Nat.le_refl _) (aI.ext.refl φ _) ht hd hh (Below.refl _ _))
 |.goto _,φ,H,w,ts,D,a,x,aA,D',H',Q,he,ht,hh,hd,hT=>by simp[ix,cO]at he
 |.refuse _,φ,H,w,ts,D,a,x,aA,D',H',Q,he,ht,hh,hd,hT=>by simp[ix,cO]at he
end
end
section
open Go.RowKit (Below)
section
variable {P:Program} {φ:aI} {B:Nat} {H H':ag} {w:World} {ts:T} {a:Act} {v:SV} {call:cb}
theorem aj9 {rv:ResultVar} {sr:hJ} {tmps:Array Value} (hc:wA P rv=some sr) (ht:aE φ ts tmps.toList) (hh:HR φ B H w) (he:iI ts H sr=some v):
 ∃u,(match rv with|.tmp t=>pure (tmps.getD t Go.undef)|.cell a t=>do loadVar t (<-asAddr (tmps.getD a Go.undef)):Sem Value).run P w=.ok u w/\VR φ v u:=by
 have Vm:∀t,VR φ (ts.getD t SV.undef) (tmps.getD t Go.undef):=by
  intro t;have:=bF (φ:=φ) (x:=.tmp t) (y:=.t t) rfl (ts:=ts) (a:=⟨tmps,[]⟩) ht;exact this
 cases rv with
 |tmp t=>
  simp only[wA,Option.some.injEq]at hc;subst hc;simp only[iI,Option.some.injEq]at he;subst he;exact⟨_,rfl,Vm t⟩
 |cell c t=>
  simp only[wA]at hc;split at hc
  ·rename_i ti bu;cases hc;have hi:=gZ bu;simp only[iI]at he;have h0:=Vm c;split at he
   ·rename_i b off e1;rw[e1]at h0;generalize hp:tmps.getD c Go.undef=p at h0;split at he
    ·rename_i cs hcs;cases h0 with
     |ptr hl=>
      rename_i l;obtain⟨vs,hv,hlen,hcell,_⟩:=hh.load hl hcs;cases eG:ti.agg with
      |true=>
       rw[eG]at he;cases he;refine⟨.agg vs.toArray,?_,.agg (by simpa using hv)⟩;have:=run_loadCells_list (P:=P) w ⟨l.rb,l.base+off,none⟩ vs (fun j u hu=>by rw[rX];exact hcell j u hu);rw[hlen]at this;simp[asAddr,loadVar,hi.De,eG,hi.run_sizeOf,this,hp]
      |false=>
       rw[eG]at he;dsimp only at he;split at he
       ·cases he;cases hv with
        |cons hv0 CC=>
         rename_i u us;have hu:=hcell 0 u rfl;refine⟨u,?_,hv0⟩;simp only[Nat.add_zero]at hu;simp[asAddr,loadVar,hi.De,eG,hu,hp]
       ·cases he
    ·cases he
   ·cases he
  ·cases hc
theorem XJ {fn:Func} {rs:List hJ} {tmps:Array Value} (hc:cj (wA P) fn.results.toList=some rs) (ht:aE φ ts tmps.toList) (hh:HR φ B H w) (he:lQ rs ts H=some v):
 ∃u,(results fn tmps).run P w=.ok u w/\VR φ v u:=by
 have key:∀(l:List ResultVar) (rs:List hJ) (vs:List SV),cj (wA P) l=some rs->cj (iI ts H) rs=some vs->
  ∃us,(l.mapM fun rv=>(match rv with|.tmp t=>pure (tmps.getD t Go.undef)|.cell a t=>do loadVar t (<-asAddr (tmps.getD a Go.undef)):Sem Value)).run P w=.ok us w/\aE φ vs us:=by
  intro l
  induction l with
  |nil=>
   intro rs vs h1 h2;simp[cj]at h1;subst h1;simp[cj]at h2;subst h2;exact⟨[],rfl,.nil⟩
  |cons rv l ih=>
   intro rs vs h1 h2;simp only[cj]at h1;split at h1
   ·rename_i sr MO;split at h1
    ·rename_i rs' vq;cases h1;simp only[cj]at h2;split at h2
     ·rename_i x hx;split at h2
      ·rename_i xs vy;cases h2;obtain⟨u,hu,hr⟩:=aj9 (w:=w) MO ht hh hx;obtain⟨us,M0,afi⟩:=ih _ _ vq vy;refine⟨u::us,?_,.cons hr afi⟩;simp only[List.mapM_cons,Sem.run_bind,hu,Result.andThen_ok,M0,Sem.run_pure]
      ·cases h2
     ·cases h2
    ·cases h1
   ·cases h1
 unfold lQ at he;cases hm:cj (iI ts H) rs with
 |none=>rw[hm]at he;cases he
 |some vs=>
  rw[hm]at he;obtain⟨us,M0,bx⟩:=key _ _ _ hc hm;have dK:(fn.results.mapM fun rv=>(match rv with|.tmp t=>pure (tmps.getD t Go.undef)|.cell a t=>do loadVar t (<-asAddr (tmps.getD a Go.undef)):Sem Value)).run P w=.ok us.toArray w:=by
   rw[Array.mapM_eq_mapM_toList,Sem.run_map,M0];rfl
  have sJ:(results fn tmps).run P w=.ok (if h:us.toArray.size=1 then us.toArray[0]else .tuple us.toArray) w:=by
   have e:results fn tmps=((fn.results.mapM fun rv=>(match rv with|.tmp t=>pure (tmps.getD t Go.undef)|.cell a t=>do loadVar t (<-asAddr (tmps.getD a Go.undef)):Sem Value)) >>= fun vs=>pure (if h:vs.size=1 then vs[0]else .tuple vs)):=rfl;rw[e,Sem.run_bind,dK];rfl
  split at he
  ·rename_i x e1;cases e1;cases he;cases bx with
   |cons h1 h2=>
    cases h2;rename_i u;exact⟨u,by rw[sJ];rfl,h1⟩
  ·rename_i oL aP e1;cases e1;cases he;have hlen:us.length≠1:=by
    intro h;rw[<-bx.length]at h
    match vs,h with
    |[x],_=>exact aP x rfl
   refine⟨.tuple us.toArray,?_,.aJ (by simpa using bx)⟩;rw[sJ,dif_neg (by simpa using hlen)]
  ·rename_i e1;cases e1
def A0 (φ:aI) (B:Nat) (H:ag) (w:World) (H':ag) (e:Ending) (m:FrameMode) (w':World):Prop:=
 m=.returning/\H.next<=H'.next/\∃bh u,φ.ext bh H.next/\e=.returned u/\HR bh B H' w'/\Below B w w'
structure yH (G:Ground) (P:Program) (cH:FuncId->Option dM):Prop where
 code:∀f sf,cH f=some (.code sf)->∃fn,P.funcs[f]? =some fn/\Bg P fn=some sf/\(fn.name== "runtime.NumGoroutine")=false
 native:∀f g,cH f=some (.native g)->jF P f=true/\∀args H v H',g args H=some (v,H')->∀φ B w (args':Array Value),aE φ args args'.toList->HG G φ B H w->Calls P f args' w (uM φ B H w v H')
 qF:∀f g,cH f=some (.qF g)->jF P f=true/\∀args,g args=true->∀φ B H w (args':Array Value),aE φ args args'.toList->HG G φ B H w->CallsD P f args' .returning w (A0 φ B H w H)
def QE (G:Ground) (P:Program) (cd:FuncId->List SV->ag->Option ag):Prop:=
 ∀f args H H',cd f args H=some H'->jF P f=true/\
  ∀φ B w (args':Array Value),aE φ args args'.toList->HG G φ B H w->CallsD P f args' .returning w (A0 φ B H w H')
theorem aE.replicate (n:Nat):aE φ (List.replicate n SV.undef) (List.replicate n Go.undef):=by
 induction n with
 |zero=>exact .nil
 |succ n ih=>exact .cons (VR.undef φ) ih
theorem V2 {G:Ground} {cd:FuncId->List SV->ag->Option ag} (T4:QE G P cd) {fn:Func} {rs:List hJ} {tmps:Array Value} {R:Ending->World->Prop} (vq:cj (wA P) fn.results.toList=some rs):
 ∀(D:DS) (ds:List Deferred) (φ:aI) (H:ag) (w:World) (r:SV) (H':ag),pw cd rs ts D H=some (r,H')->DR φ D ds->aE φ ts tmps.toList->HG G φ B H w->
  (∀bh u w',H.next<=H'.next->φ.ext bh H.next->VR bh r u->HR bh B H' w'->Below B w w'->R (.returned u) w')->Leaves P fn tmps R ds .returning w
 |[],_,φ,H,w,r,H',h,.nil,ht,hh,hR=>by
  simp only[pw]at h;split at h
  ·rename_i v hv;cases h;obtain⟨u,hu,hr⟩:=XJ (w:=w) vq ht hh.1 hv;exact⟨u,hu,hR φ u w (Nat.le_refl _) (aI.ext.refl φ _) hr hh.1 (Below.refl _ _)⟩
  ·cases h
 |(f,args)::D,_,φ,H,w,r,H',h,.cons (d:=d) (cap:=cap) (ds:=ds) Vl ha B4,ht,hh,hR=>by
  simp only[pw]at h;split at h
  ·rename_i H1 hc;obtain⟨tW,cK⟩:=T4 f args H H1 hc;obtain⟨tg,da⟩:=d;simp only at Vl ha;subst Vl;have hinv:(invoke (.fn (.func f) cap) da).run P w=.ok (.enter f (da++cap)) w:=by
    unfold jF at tW;split at tW
    ·rename_i S6 hfn;simp only[Bool.and_eq_true,Bool.not_eq_true']at tW;have bU:S6.body.isNone=false:=by cases h:S6.body<;>simp_all
     simp only[invoke];exact G9 hfn tW.2 bU
    ·cases tW
   refine leaves_cons (by simp) hinv ((cK φ B w (da++cap) (by simpa using ha) hh).mono ?_);rintro e u' w' ⟨rfl,hn,bh,u,g1,rfl,g2,g3⟩;exact V2 T4 vq D ds bh H1 w' r H' h (B4.mono g1.1) (ht.mono g1.1) ⟨g2,G.st _ _ _ _ _ hh.2 g1.1 g3⟩
    fun yF u2 w2 n2 k1 k2 k3 k4=>hR yF u2 w2 (Nat.le_trans hn n2) (g1.trans k1 hn) k2 k3 (g3.trans k4)
  ·cases h
theorem Rt {args:List SV} {args':Array Value} {n:Nat} (eH:aE φ args args'.toList):aE φ (args++List.replicate (n-args.length) SV.undef) ((args'++Array.replicate (n-args'.size) Go.undef:Array Value)).toList:=by
 have e:args.length=args'.size:=eH.length.trans (by simp);rw[e,Array.toList_append,Array.toList_replicate];exact eH.append (aE.replicate _)
theorem abr {G:Ground} {cH:FuncId->Option dM} {lf:Nat} {call:cb} (rp:yH G P cH) (cK:lV G P call) (k9:D5 G P call):QE G P (wx cH call lf):=by
 intro f args H H' h;unfold wx at h;split at h
 ·rename_i g hg;split at h
  ·rename_i hv;cases h;obtain⟨h1,h2⟩:=rp.qF f g hg;exact⟨h1,fun φ B w args' eH hh=>h2 args hv φ B H w args' eH hh⟩
  ·cases h
 ·rename_i sf xG;obtain⟨fn,hfn,jZ,zE⟩:=rp.code f sf xG;unfold Bg at jZ;split at jZ
  ·cases jZ
  ·rename_i c BW;split at jZ
   ·rename_i rs vq;cases jZ;refine⟨by simp[jF,hfn,BW,zE],fun φ B w args' eH hh=>?_⟩;have fin:∀(x:fa) (aA:T) (v:SV),(x=.normal\/x=.ret)->cO call lf (ix P c) (args++List.replicate (fn.ntmps-args.length) SV.undef) [] H=some (x,aA,[],H')->
     lQ rs aA H'=some v->CallsD P f args' .returning w (A0 φ B H w H'):=by
     intro x aA v hx dW sJ;refine(callsD_of_wp (R:=fun e w'=>H.next<=H'.next/\∃bh u,φ.ext bh H.next/\e=.returned u/\HR bh B H' w'/\Below B w w') hfn BW ?_).mono fun e u' w' h=>⟨h.1,h.2⟩
     refine oQ cK k9 c φ H w _ [] ⟨args'++Array.replicate (fn.ntmps-args'.size) Go.undef,[]⟩ x aA [] H' _ dW (Rt eH) hh .nil fun di a1 w1 n1 g1 g2 g3 g4 g5=>?_
     obtain⟨u,hu,hr⟩:=XJ (w:=w1) vq g2 g4.1 sJ;have hd:a1.defers=[]:=by generalize a1.defers=l at g3;cases g3;rfl
     have:a1.defers=[]/\∃v,(results fn a1.tmps).run P w1=.ok v w1/\(H.next<=H'.next/\∃bh u,φ.ext bh H.next/\Ending.returned v=.returned u/\HR bh B H' w1/\Below B w w1):=⟨hd,u,hu,n1,di,u,g1,rfl,g4.1,g5⟩;rcases hx with rfl|rfl<;>exact this
    split at h
    ·rename_i aA H1 dW;split at h
     ·rename_i v hv;cases h;exact fin _ _ _ (.inl rfl) dW hv
     ·cases h
    ·rename_i aA H1 dW;split at h
     ·rename_i v hv;cases h;exact fin _ _ _ (.inr rfl) dW hv
     ·cases h
    ·cases h
   ·cases jZ
 ·cases h
theorem RV {G:Ground} {cH:FuncId->Option dM} {lf:Nat} (rp:yH G P cH) (k9:∀call,lV G P call->D5 G P call):∀n,lV G P (aj cH lf n)
 |0=>fun f args H r H' h=>by simp[aj]at h
 |n+1=>fun f args H r H' h=>by
  have ih:=RV rp k9 (lf:=lf) n;simp only[aj]at h;split at h
  ·rename_i g hg;obtain⟨h1,h2⟩:=rp.native f g hg;exact⟨h1,fun φ B w args' eH hh=>h2 args H r H' h φ B w args' eH hh⟩
  ·rename_i sf xG;obtain⟨fn,hfn,jZ,zE⟩:=rp.code f sf xG;unfold Bg at jZ;split at jZ
   ·cases jZ
   ·rename_i c BW;split at jZ
    ·rename_i rs vq;cases jZ;refine⟨by simp[jF,hfn,BW,zE],fun φ B w args' eH hh=>?_⟩;refine calls_of_wp_defers hfn BW ?_;have fin:∀(x:fa) (aA:T) (D:DS) (H1:ag),(x=.normal\/x=.ret)->cO (aj cH lf n) lf (ix P c) (args++List.replicate (fn.ntmps-args.length) SV.undef) [] H=some (x,aA,D,H1)->
      pw (wx cH (aj cH lf n) lf) rs aA D H1=some (r,H')->Code.wp P c (bodyPostD P fn (uM φ B H w r H')) ⟨args'++Array.replicate (fn.ntmps-args'.size) Go.undef,[]⟩ w:=by
      intro x aA D H1 hx dW dK;refine oQ ih (k9 _ ih) c φ H w _ [] ⟨args'++Array.replicate (fn.ntmps-args'.size) Go.undef,[]⟩ x aA D H1 _ dW (Rt eH) hh .nil fun di a1 w1 n1 g1 g2 g3 g4 g5=>?_
      have:Leaves P fn a1.tmps (uM φ B H w r H') a1.defers .returning w1:=
       V2 (abr rp ih (k9 _ ih)) vq D a1.defers di H1 w1 r H' dK g3 g2 g4 fun yF u w2 n2 k1 k2 k3 k4=>⟨Nat.le_trans n1 n2,yF,u,g1.trans k1 n1,rfl,k2,k3,g5.trans k4⟩
      rcases hx with rfl|rfl<;>exact this
     split at h
     ·rename_i aA D H1 dW;exact fin _ _ _ _ (.inl rfl) dW h
     ·rename_i aA D H1 dW;exact fin _ _ _ _ (.inr rfl) dW h
     ·cases h
    ·cases jZ
  ·cases h
end
end
section
def lz (L:List Nat) (ts us:T):Prop:=∀t∈L,ts.getD t SV.undef=us.getD t SV.undef
theorem lz.left {L M:List Nat} {ts us:T} (h:lz (L++M) ts us):lz L ts us:=fun t ht=>h t (List.mem_append.2 (.inl ht))
theorem lz.right {L M:List Nat} {ts us:T} (h:lz (L++M) ts us):lz M ts us:=fun t ht=>h t (List.mem_append.2 (.inr ht))
theorem X.congr {x:X} {ts us:T} (h:lz x.tm ts us):x.ev ts=x.ev us:=by
 cases x with
 |t n=>exact h n (List.mem_cons_self ..)
 |c v=>rfl
theorem wK:∀{xs:List X} {ts us:T},lz (xs.flatMap X.tm) ts us->fi ts xs=fi us xs
 |[],_,_,_=>rfl
 |x::xs,ts,us,h=>by
  rw[List.flatMap_cons]at h;simp only[fi,X.congr h.left,wK h.right]
theorem CP {x:Option X} {ts us:T} {d l:Nat} (h:lz (Xo.tm x) ts us):eY ts x d l=eY us x d l:=by
 cases x with
 |none=>rfl
 |some x=>simp only[eY,X.congr (x:=x) h]
theorem agY {x:Option X} {ts us:T} {c:Option Nat} {n:Nat} (h:lz (Xo.tm x) ts us):vJ ts x c n=vJ us x c n:=by
 cases x with
 |none=>rfl
 |some x=>simp only[vJ,X.congr (x:=x) h]
theorem KF:∀{ps:List (Nat×Nat×X)} {cs:List SV} {ts us:T},lz (ps.flatMap fun p=>p.2.2.tm) ts us->eM ts cs ps=eM us cs ps
 |[],_,_,_,_=>rfl
 |(off,size,x)::ps,cs,ts,us,h=>by
  rw[List.flatMap_cons]at h;simp only[eM,X.congr (x:=x) h.left];split
  ·exact KF h.right
  ·rfl
theorem SS {so:cJ} {ts us:T} {H:ag} (h:lz so.tm ts us):evalOp so ts H=evalOp so us H:=by
 cases so<;>simp only[cJ.tm]at h<;>simp only[evalOp]
 all_goals
  first
   |rfl
   |(rw[X.congr h];done)
   |(rw[X.congr h.left,X.congr h.right];done)
   |(rw[X.congr h.left,X.congr h.right.left,X.congr h.right.right];done)
   |(rw[KF h];done)
   |(rw[wK h];done)
   |(rw[wK h.left,wK h.right];done)
   |(rw[X.congr h.right.right];simp only[CP h.left,CP h.right.left];done)
   |(rw[X.congr h.right.right.right];simp only[CP h.left,CP h.right.left,CP h.right.right.left,agY h.right.right.left];done)
   |(rename_i x;cases x with
    |none=>rfl
    |some y=>have e:=X.congr (x:=y) h;dsimp only;rw[e])
   |skip
theorem acB {call:cb} {k:SK} {ts us:T} {H:ag} (h:lz k.tm ts us):eu call k ts H=eu call k us H:=by
 cases k with
 |op so=>exact SS h
 |call f xs=>simp only[eu,wK (xs:=xs) h]
 |tj x xs=>simp only[eu,X.congr (x:=x) h.left,wK (xs:=xs) h.right]
 |inv x cH xs=>simp only[eu,X.congr (x:=x) h.left,wK (xs:=xs) h.right]
theorem aja {so:cJ} {ts:T} {H H1:ag} {v:SV} (hp:so.CS=true) (h:evalOp so ts H=some (v,H1)) (H2:ag):evalOp so ts H2=some (v,H2):=by
 cases so<;>simp only[cJ.CS,Bool.false_eq_true]at hp<;>simp only[evalOp]at h ⊢
 all_goals
  (repeat' split at h)<;>simp_all
theorem ajj {so:cJ} {ts:T} {H H1:ag} {v:SV} (hp:so.zT=true) (h:evalOp so ts H=some (v,H1)):H1=H:=by
 cases so<;>simp only[cJ.zT,Bool.false_eq_true]at hp<;>simp only[evalOp]at h
 all_goals
  (repeat' split at h)<;>simp_all
theorem Jy {x y:SV} (h:eF x y=true):x=y:=by
 unfold eF at h;split at h<;>first
  |cases h;done
  |rfl
  |(simp only[Bool.and_eq_true,beq_iff_eq,decide_eq_true_eq,Nat.beq_eq]at h;simp_all;done)
  |(simp only[Bool.and_eq_true,beq_iff_eq,decide_eq_true_eq]at h;obtain⟨h1,h2⟩:=h;subst h1 h2;rfl)
  |(simp only[beq_iff_eq]at h;subst h;rfl)
  |(rw[EI.1 h])
theorem wu:∀{x y:List SV},eg x y=true->x=y
 |[],[],_=>rfl
 |[],_::_,h=>by simp[eg]at h
 |_::_,[],h=>by simp[eg]at h
 |a::x,b::y,h=>by
  simp only[eg,Bool.and_eq_true]at h;rw[Jy h.1,wu h.2]
theorem Ru {x y:SV} (h:bD x y=true):x=y:=by
 unfold bD at h;split at h
 ·rw[wu h]
 ·rw[wu h]
 ·simp only[Bool.and_eq_true]at h;rw[Nat.eq_of_beq_eq_true h.1,Jy h.2]
 ·exact Jy h
theorem sd (ops:List (aG×DK)):bc ops 0=0:=by cases ops<;>rfl
theorem JL (p:aG×DK) (os:List (aG×DK)) (i:Nat):bc (p::os) (i+1)=(match p.2 with|.cg=>1|_=>0)+bc os i:=rfl
theorem JN (ops:List (aG×DK)):∀(i:Nat) (o:aG) (dk:DK),ops[i]? =some (o,dk)->bc ops (i+1)=bc ops i+(match dk with|.cg=>1|_=>0):=by
 induction ops with
 |nil=>intro i o dk h;rw[List.getElem?_nil]at h;cases h
 |cons p os ih=>
  intro i o dk h;cases i with
  |zero=>
   rw[List.getElem?_cons_zero]at h;have h1:p=(o,dk):=Option.some.inj h;rw[JL,sd,sd,h1,Nat.add_zero,Nat.zero_add]
  |succ i=>
   rw[List.getElem?_cons_succ]at h;rw[JL,JL,ih i o dk h,Nat.add_assoc]
theorem JM (ops:List (aG×DK)) {i j:Nat} (h:i<=j):bc ops i<=bc ops j:=by
 induction ops generalizing i j with
 |nil=>simp[bc]
 |cons p os ih=>
  obtain⟨o,dk⟩:=p;cases i with
  |zero=>simp[bc]
  |succ i=>
   cases j with
   |zero=>omega
   |succ j=>
    have:=ih (i:=i) (j:=j) om;simp only[bc];omega
theorem yP:∀(ops:List (aG×DK)) (i c:Nat),c<bc ops i->∃j o,j<i/\ops[j]? =some (o,.cg)/\bc ops j=c
 |[],i,c,h=>by simp[bc]at h
 |_::_,0,c,h=>by simp[bc]at h
 |(o,dk)::os,i+1,c,h=>by
  simp only[bc]at h;cases dk with
  |cg=>
   dsimp only at h;cases c with
   |zero=>exact⟨0,o,by omega,rfl,by simp[bc]⟩
   |succ c=>
    obtain⟨j,o',h1,h2,h3⟩:=yP os i c om;exact⟨j+1,o',by omega,by simpa using h2,by simp[bc,h3];omega⟩
  |pure=>
   obtain⟨j,o',h1,h2,h3⟩:=yP os i c (by simpa using h);exact⟨j+1,o',by omega,by simpa using h2,by simp[bc,h3]⟩
  |read lo hi=>
   obtain⟨j,o',h1,h2,h3⟩:=yP os i c (by simpa using h);exact⟨j+1,o',by omega,by simpa using h2,by simp[bc,h3]⟩
  |hoist lo hi=>
   obtain⟨j,o',h1,h2,h3⟩:=yP os i c (by simpa using h);exact⟨j+1,o',by omega,by simpa using h2,by simp[bc,h3]⟩
structure At (call:cb) (ops:List (aG×DK)) (bx:List SV) (aM:List T) (vs:List SV) (hs:List ag) (tn:T) (i:Nat) (o:aG) (dk:DK):Prop where
 ex:∃t v hv h,aM[i]? =some t/\vs[i]? =some v/\bx[i]? =some hv/\hs[bc ops i]? =some h/\(aM++[tn])[i+1]? =some (c6 t o.dst v)/\
  (bL t o.guard=false->v=.undef/\(dk=.cg->hs[bc ops i+1]? =some h))/\
  (bL t o.guard=true->match dk with
   |.cg=>∃h',eu call o.k t h=some (v,h')/\hs[bc ops i+1]? =some h'
   |.hoist _ _=>v=hv
   |_=>gC o.k t h=some v)
theorem OW {call:cb}:∀(ops:List (aG×DK)) (bx:List SV) (ts:T) (H:ag) (aM:List T) (vs:List SV) (hs:List ag) (tn:T),dS call ops bx ts H=some (aM,vs,hs,tn)->
 aM.length=ops.length/\vs.length=ops.length/\hs.length=bc ops ops.length+1/\hs[0]? =some H/\(aM++[tn])[0]? =some ts/\
 ∀(i:Nat) (o:aG) (dk:DK),ops[i]? =some (o,dk)->At call ops bx aM vs hs tn i o dk
 |[],bx,ts,H,aM,vs,hs,tn,h=>by
  simp only[dS,Option.some.injEq,Prod.mk.injEq]at h;obtain⟨rfl,rfl,rfl,rfl⟩:=h;exact⟨rfl,rfl,rfl,rfl,rfl,fun i o dk h=>by simp at h⟩
 |_::_,[],ts,H,aM,vs,hs,tn,h=>by simp[dS]at h
 |(o,dk)::os,hv::bx,ts,H,aM,vs,hs,tn,h=>by
  have NV:∀(v:SV) (s0:List T) (oL:List SV),(∀h:dk=.cg,False)->dS call os bx (c6 ts o.dst v) H=some (s0,oL,hs,tn)->aM=ts::s0->vs=v::oL->
   (bL ts o.guard=false->v=.undef)->(bL ts o.guard=true->match dk with|.hoist _ _=>v=hv|.cg=>False|_=>gC o.k ts H=some v)->
   aM.length=((o,dk)::os).length/\vs.length=((o,dk)::os).length/\hs.length=bc ((o,dk)::os) ((o,dk)::os).length+1/\hs[0]? =some H/\(aM++[tn])[0]? =some ts/\
    ∀(i:Nat) (o':aG) (oR:DK),((o,dk)::os)[i]? =some (o',oR)->At call ((o,dk)::os) (hv::bx) aM vs hs tn i o' oR:=by
   intro v s0 oL aP p9 e1 e2 ny jS;obtain⟨q1,q2,q3,q4,q5,q6⟩:=OW os bx _ _ _ _ _ _ p9;subst e1 e2;have hc:(match dk with|.cg=>1|_=>0)=0:=by cases dk<;>first|rfl|exact(aP rfl).elim
   refine⟨by simp[q1],by simp[q2],by simp only[List.length_cons,bc,hc];omega,q4,rfl,fun i o' oR hi=>?_⟩;cases i with
   |zero=>
    simp at hi;obtain⟨rfl,rfl⟩:=hi;refine⟨ts,v,hv,H,rfl,rfl,rfl,by simp[sd,q4],by simpa using q5,fun hw=>⟨ny hw,fun h=>(aP h).elim⟩,fun hw=>?_⟩;have:=jS hw;cases dk<;>first|exact this|exact(aP rfl).elim
   |succ i=>
    obtain⟨t,v',kh,h',p1,p2,p3,p4,p5,p6,p7⟩:=(q6 i o' oR (by simpa using hi)).ex;have hcs:bc ((o,dk)::os) (i+1)=bc os i:=by simp only[bc,hc];omega
    exact⟨t,v',kh,h',by simpa using p1,by simpa using p2,by simpa using p3,by rw[hcs];exact p4,by simpa using p5,by rw[hcs];exact p6,by rw[hcs];exact p7⟩
  simp only[dS]at h;cases dk with
  |cg=>
   dsimp only at h;have Y6:∀(v:SV) (H':ag),(bL ts o.guard=false->v=.undef/\H'=H)->(bL ts o.guard=true->eu call o.k ts H=some (v,H'))->
    (match dS call os bx (c6 ts o.dst v) H' with
     |some (aM,vs,hs,tn)=>some (ts::aM,v::vs,H::hs,tn)
     |none=>none)=some (aM,vs,hs,tn)->
    aM.length=((o,DK.cg)::os).length/\vs.length=((o,DK.cg)::os).length/\hs.length=bc ((o,DK.cg)::os) ((o,DK.cg)::os).length+1/\hs[0]? =some H/\(aM++[tn])[0]? =some ts/\
     ∀(i:Nat) (o':aG) (oR:DK),((o,DK.cg)::os)[i]? =some (o',oR)->At call ((o,DK.cg)::os) (hv::bx) aM vs hs tn i o' oR:=by
    intro v H' ny jS p9;split at p9
    ·rename_i s0 oL cX O2 hr;simp only[Option.some.injEq,Prod.mk.injEq]at p9;obtain⟨rfl,rfl,rfl,rfl⟩:=p9;obtain⟨q1,q2,q3,q4,q5,q6⟩:=OW os bx _ _ _ _ _ _ hr;refine⟨by simp[q1],by simp[q2],by simp only[List.length_cons,bc];omega,rfl,rfl,fun i o' oR hi=>?_⟩;cases i with
     |zero=>
      simp at hi;obtain⟨rfl,rfl⟩:=hi;refine⟨ts,v,hv,H,rfl,rfl,rfl,by simp[sd],by simpa using q5,fun hw=>⟨(ny hw).1,fun _=>?_⟩,fun hw=>⟨H',jS hw,?_⟩⟩
      ·simp[sd,q4,(ny hw).2]
      ·simp[sd,q4]
     |succ i=>
      obtain⟨t,v',kh,h',p1,p2,p3,p4,p5,p6,p7⟩:=(q6 i o' oR (by simpa using hi)).ex;have hcs:bc ((o,DK.cg)::os) (i+1)=bc os i+1:=by simp only[bc];omega
      refine⟨t,v',kh,h',by simpa using p1,by simpa using p2,by simpa using p3,by rw[hcs];simpa using p4,by simpa using p5,by rw[hcs];simpa using p6,by rw[hcs];simpa using p7⟩
    ·cases p9
   cases hw:bL ts o.guard with
   |true=>
    rw[hw]at h;dsimp only at h;split at h
    ·cases h
    ·rename_i v H' dW;exact Y6 v H' (fun e=>by rw[hw]at e;cases e) (fun _=>dW) h
   |false=>
    rw[hw]at h;exact Y6 .undef H (fun _=>⟨rfl,rfl⟩) (fun e=>by rw[hw]at e;cases e) h
  |pure=>
   dsimp only at h;split at h
   ·cases h
   ·rename_i v hr;split at h
    ·rename_i s0 oL cX O2 p9;simp only[Option.some.injEq,Prod.mk.injEq]at h;obtain⟨rfl,rfl,rfl,rfl⟩:=h;refine NV v s0 oL (by simp) p9 rfl rfl (fun hw=>?_) (fun hw=>?_)
     ·rw[hw]at hr;simpa using hr.symm
     ·rw[hw]at hr;exact hr
    ·cases h
  |read lo hi=>
   dsimp only at h;split at h
   ·cases h
   ·rename_i v hr;split at h
    ·rename_i s0 oL cX O2 p9;simp only[Option.some.injEq,Prod.mk.injEq]at h;obtain⟨rfl,rfl,rfl,rfl⟩:=h;refine NV v s0 oL (by simp) p9 rfl rfl (fun hw=>?_) (fun hw=>?_)
     ·rw[hw]at hr;simpa using hr.symm
     ·rw[hw]at hr;exact hr
    ·cases h
  |hoist lo hi=>
   dsimp only at h;split at h
   ·cases h
   ·rename_i v hr;split at h
    ·rename_i s0 oL cX O2 p9;simp only[Option.some.injEq,Prod.mk.injEq]at h;obtain⟨rfl,rfl,rfl,rfl⟩:=h;refine NV v s0 oL (by simp) p9 rfl rfl (fun hw=>?_) (fun hw=>?_)
     ·rw[hw]at hr;simpa using hr.symm
     ·rw[hw]at hr;simpa using hr.symm
    ·cases h
end
section
open Go.RowKit (Below)
theorem SH {α:Type}:∀(l:List α) (k i:Nat) (x:α),l[i]? =some x->(k+i,x)∈enum k l
 |[],k,i,x,h=>by simp at h
 |y::l,k,0,x,h=>by simp at h;subst h;simp[enum]
 |y::l,k,i+1,x,h=>by
  have:=SH l (k+1) i x (by simpa using h);simp only[enum];exact List.mem_cons_of_mem _ (by rw[show k+(i+1)=k+1+i by omega];exact this)
theorem qI {α:Type} {l:List α} {p:Nat×α->Bool} (h:(enum 0 l).all p=true) (i:Nat) (x:α) (hi:l[i]? =some x):p (i,x)=true:=by
 have:=List.all_eq_true.1 h _ (SH l 0 i x hi);simpa using this
theorem SI {α:Type}:∀(l:List α) (k:Nat) (p:Nat×α),p∈enum k l->∃i,p.1=k+i/\l[i]? =some p.2
 |[],k,p,h=>by simp[enum]at h
 |y::l,k,p,h=>by
  simp only[enum,List.mem_cons]at h;rcases h with rfl|h
  ·exact⟨0,rfl,rfl⟩
  ·obtain⟨i,h1,h2⟩:=SI l (k+1) p h;exact⟨i+1,by omega,by simpa using h2⟩
theorem SG {α:Type} {l:List α} {p:Nat×α->Bool} (h:(enum 0 l).any p=true):∃i x,l[i]? =some x/\p (i,x)=true:=by
 obtain⟨q,hq,hp⟩:=List.any_eq_true.1 h;obtain⟨i,h1,h2⟩:=SI l 0 q hq;obtain⟨a,b⟩:=q;simp at h1;subst h1;exact⟨a,b,h2,hp⟩
structure Je (P:Program) (ops:Array Oper) (dops:List (aG×DK)) (A:Nat->List Nat) (sw:Bool):Prop where
 len:dops.length=ops.size
 comp:∀(i:Nat) (o:Oper),ops[i]? =some o->∃so dk,dops[i]? =some (so,dk)/\pJ P ops o=some so
 back:∀(i:Nat) (o:Oper),ops[i]? =some o->∀e∈pH o,e<i
 anc:∀(i:Nat) (o:Oper),ops[i]? =some o->∀x∈A i,∃e∈pH o,x=e\/x∈A e
 pI:∀(i j:Nat) (p q:aG×DK),i<j->dops[i]? =some p->dops[j]? =some q->pI p.1 q.1=true->i∈A j
 tr:∀(i j:Nat) (p q:aG×DK),i<j->dops[i]? =some p->dops[j]? =some q->gK p.2=true->gK q.2=true->i∈A j\/
  (sw=true/\bc dops i+2=bc dops dops.length/\bc dops j+1=bc dops dops.length)
 pure:∀(i:Nat) (so:aG),dops[i]? =some (so,.pure)->∃s,so.k=.op s/\s.CS=true
 lo:∀(i:Nat) (p:aG×DK) (lo hi:Nat),dops[i]? =some p->(p.2=.read lo hi\/p.2=.hoist lo hi)->lo=0\/∃(j:Nat) (q:aG×DK),dops[j]? =some q/\gK q.2=true/\j∈A i/\bc dops j+1=lo
 hi:∀(i:Nat) (p:aG×DK) (lo hi:Nat),dops[i]? =some p->(p.2=.read lo hi\/p.2=.hoist lo hi)->bc dops dops.length<=hi\/∃(j:Nat) (q:aG×DK),dops[j]? =some q/\gK q.2=true/\i∈A j/\bc dops j=hi
 swap:∀(i:Nat) (p:aG×DK) (lo hi:Nat),dops[i]? =some p->(p.2=.read lo hi\/p.2=.hoist lo hi)->sw=true->
  (∀(j:Nat) (q:aG×DK),dops[j]? =some q->gK q.2=true->bc dops dops.length<=bc dops j+2->j∈A i)\/(∀(j:Nat) (q:aG×DK),dops[j]? =some q->gK q.2=true->bc dops dops.length<=bc dops j+2->i∈A j)
 read:∀(i:Nat) (so:aG) (lo hi:Nat),dops[i]? =some (so,.read lo hi)->∃s,so.k=.op s/\s.zT=true
 hoist:∀(i:Nat) (so:aG) (lo hi:Nat),dops[i]? =some (so,.hoist lo hi)->(∃s,so.k=.op s/\s.qk=true)/\so.guard=none
theorem wC {l:List Nat} {x:Nat} (h:l.contains x=true):x∈l:=by simpa using h
theorem Wg {α β:Type} {f:α->Option β}:∀{l:List α} {r:List β},cj f l=some r->r.length=l.length
 |[],r,h=>by simp[cj]at h;subst h;rfl
 |x::l,r,h=>by
  simp only[cj]at h;split at h
  ·split at h
   ·rename_i hl;cases h;simp[Wg hl]
   ·cases h
  ·cases h
theorem Wf {α β:Type} {f:α->Option β}:∀{l:List α} {r:List β},cj f l=some r->∀(i:Nat) (x:α),l[i]? =some x->∃y,r[i]? =some y/\f x=some y
 |[],r,h,i,x,hi=>by simp at hi
 |a::l,r,h,i,x,hi=>by
  simp only[cj]at h;split at h
  ·rename_i y hy;split at h
   ·rename_i ys hl;cases h;cases i with
    |zero=>simp at hi;subst hi;exact⟨y,rfl,hy⟩
    |succ i=>
     obtain⟨z,h1,h2⟩:=Wf hl i x (by simpa using hi);exact⟨z,by simpa using h1,h2⟩
   ·cases h
  ·cases h
theorem YT {P:Program} {ops:Array Oper} {l:List aG} {wide:Bool} {dops:List (aG×DK)} {sw:Bool} (hl:cj (pJ P ops) ops.toList=some l) (h:tryD ops l wide=some (.hX dops sw)):∃A,Je P ops dops A sw:=by
 unfold tryD at h
 ·split at h;rename_i fX Dq jK;split at h
  ·rename_i tT;simp only[Option.some.injEq,er.hX.injEq]at h;obtain⟨rfl,rfl⟩:=h;simp only[Bool.and_eq_true]at tT;obtain⟨hlen,tT⟩:=tT;have hlen:=Nat.eq_of_beq_eq_true hlen;have dE:=Wg hl;simp only[Array.length_toList]at dE;have aed:∀(i:Nat) (o:Oper),ops[i]? =some o->∃so dk,fX[i]? =some (so,dk)/\pJ P ops o=some so:=by
    intro i o hi;obtain⟨so,h1,h2⟩:=Wf hl i o (by simpa using hi);have hz:∃Bn,fX=l.zip Bn:=by
     unfold Sy at jK;simp only[Prod.mk.injEq]at jK;exact⟨_,jK.1.symm⟩
    obtain⟨Bn,hz⟩:=hz;have aeD:i<fX.length:=by
     have:=(Array.getElem?_eq_some_iff.1 hi).1;omega
    have hd:=List.getElem?_eq_getElem aeD;have:(l.zip Bn)[i]? =some fX[i]:=by rw[<-hz];exact hd
    rw[List.getElem?_zip_eq_some]at this;have e1:=this.1;rw[h1]at e1;exact⟨so,fX[i].2,by rw[hd,Option.some.inj e1],h2⟩
   unfold R6 at tT;simp only[Bool.and_eq_true]at tT;obtain⟨⟨⟨c1,c2⟩,c3⟩,c4⟩:=tT;have U':∀(lo hi i:Nat),yc fX (lZ ops.toList []) lo hi i=true->
    (lo=0\/∃(j:Nat) (q:aG×DK),fX[j]? =some q/\gK q.2=true/\j∈(lZ ops.toList []).getD i []/\bc fX j+1=lo)/\
    (bc fX fX.length<=hi\/∃(j:Nat) (q:aG×DK),fX[j]? =some q/\gK q.2=true/\i∈(lZ ops.toList []).getD j []/\bc fX j=hi):=by
    intro lo hi i hr;unfold yc at hr;simp only[Bool.and_eq_true,Bool.or_eq_true]at hr;refine⟨?_,?_⟩
    ·rcases hr.1 with h|h
     ·exact .inl (Nat.eq_of_beq_eq_true h)
     ·obtain⟨j,q,h1,h2⟩:=SG h;simp only[Bool.and_eq_true]at h2;exact .inr ⟨j,q,h1,h2.1.1,wC h2.1.2,Nat.eq_of_beq_eq_true h2.2⟩
    ·rcases hr.2 with h|h
     ·exact .inl (Nat.le_of_ble_eq_true h)
     ·obtain⟨j,q,h1,h2⟩:=SG h;simp only[Bool.and_eq_true]at h2;exact .inr ⟨j,q,h1,h2.1.1,wC h2.1.2,Nat.eq_of_beq_eq_true h2.2⟩
   have CA:∀(i:Nat),yp fX (lZ ops.toList []) Dq i=true->Dq=true->
    (∀(j:Nat) (q:aG×DK),fX[j]? =some q->gK q.2=true->bc fX fX.length<=bc fX j+2->j∈(lZ ops.toList []).getD i [])\/
    (∀(j:Nat) (q:aG×DK),fX[j]? =some q->gK q.2=true->bc fX fX.length<=bc fX j+2->i∈(lZ ops.toList []).getD j []):=by
    intro i hr lh;unfold yp at hr;simp only[lh,Bool.not_true,Bool.false_or,Bool.or_eq_true]at hr;rcases hr with h|h
    ·refine .inl fun j q h1 h2 h3=>?_
     have:=qI h j q h1;simp only[h2,Nat.ble_eq_true_of_le h3,Bool.not_true,Bool.false_or]at this;exact wC this
    ·refine .inr fun j q h1 h2 h3=>?_
     have:=qI h j q h1;simp only[h2,Nat.ble_eq_true_of_le h3,Bool.not_true,Bool.false_or]at this;exact wC this
   have U9:∀(i:Nat) (so:aG) (lo hi:Nat),fX[i]? =some (so,.read lo hi)->(∃s,so.k=.op s/\s.zT=true)/\yc fX (lZ ops.toList []) lo hi i=true/\yp fX (lZ ops.toList []) Dq i=true:=by
    intro i so lo hi cu;have:=qI c4 i _ cu;dsimp only at this;split at this
    ·rename_i s hs;simp only[Bool.and_eq_true]at this;exact⟨⟨s,hs,this.1.1⟩,this.1.2,this.2⟩
    ·cases this
   have Um:∀(i:Nat) (so:aG) (lo hi:Nat),fX[i]? =some (so,.hoist lo hi)->((∃s,so.k=.op s/\s.qk=true)/\so.guard=none)/\yc fX (lZ ops.toList []) lo hi i=true/\yp fX (lZ ops.toList []) Dq i=true:=by
    intro i so lo hi cu;have:=qI c4 i _ cu;dsimp only at this;split at this
    ·rename_i s hs;simp only[Bool.and_eq_true,Option.isNone_iff_eq_none]at this;exact⟨⟨⟨s,hs,this.1.1.1⟩,this.1.1.2⟩,this.1.2,this.2⟩
    ·cases this
   have uj:∀(i:Nat) (p:aG×DK) (lo hi:Nat),fX[i]? =some p->(p.2=.read lo hi\/p.2=.hoist lo hi)->yc fX (lZ ops.toList []) lo hi i=true/\yp fX (lZ ops.toList []) Dq i=true:=by
    intro i p lo hi hp hk;obtain⟨so,dk⟩:=p;rcases hk with hk|hk
    ·dsimp only at hk;subst hk;exact(U9 i so lo hi hp).2
    ·dsimp only at hk;subst hk;exact(Um i so lo hi hp).2
   refine⟨fun i=>(lZ ops.toList []).getD i [],?_⟩;refine⟨hlen,aed,?_,?_,?_,?_,?_,?_,?_,?_,fun i so lo hi h=>(U9 i so lo hi h).1,fun i so lo hi h=>(Um i so lo hi h).1⟩
   ·intro i o hi e he;have:=qI c1 i o (by simpa using hi);simp only[Bool.and_eq_true,List.all_eq_true]at this;have:=this.1 e he;exact Nat.le_of_ble_eq_true this
   ·intro i o hi x hx;have:=qI c1 i o (by simpa using hi);simp only[Bool.and_eq_true,List.all_eq_true]at this;have:=this.2 x hx;obtain⟨e,he,h2⟩:=List.any_eq_true.1 this;simp only[Bool.or_eq_true]at h2;rcases h2 with h2|h2
    ·exact⟨e,he,.inl (Nat.eq_of_beq_eq_true h2)⟩
    ·exact⟨e,he,.inr (wC h2)⟩
   ·intro i j p q qZ hp hq bO;have:=qI (qI c2 i p hp) j q hq;have hb:Nat.blt i j=true:=Nat.ble_eq_true_of_le qZ;simp only[hb,bO,Bool.not_true,Bool.false_or]at this;exact wC this
   ·intro i j p q qZ hp hq ij Cq;have:=qI (qI c3 i p hp) j q hq;have hb:Nat.blt i j=true:=Nat.ble_eq_true_of_le qZ;simp only[hb,ij,Cq,Bool.not_true,Bool.false_or,Bool.or_eq_true,Bool.and_eq_true]at this;rcases this with h|h
    ·exact .inl (wC h)
    ·exact .inr ⟨h.1.1,Nat.eq_of_beq_eq_true h.1.2,Nat.eq_of_beq_eq_true h.2⟩
   ·intro i so hi;have:=qI c4 i _ hi;dsimp only at this;split at this
    ·rename_i s hs;exact⟨s,hs,this⟩
    ·cases this
   ·intro i p lo hi hp hk;exact(U' _ _ _ (uj i p lo hi hp hk).1).1
   ·intro i p lo hi hp hk;exact(U' _ _ _ (uj i p lo hi hp hk).1).2
   ·intro i p lo hi hp hk lh;exact CA i (uj i p lo hi hp hk).2 lh
  ·cases h
theorem abQ {P:Program} {ops:Array Oper} {dops:List (aG×DK)} {sw:Bool} (h:yR P ops=some (.hX dops sw)):∃A,Je P ops dops A sw:=by
 unfold yR at h;split at h
 ·cases h
 ·rename_i l hl;split at h
  ·rename_i c hc;cases h;exact YT hl hc
  ·exact YT hl h
end
section
open Go.RowKit (Below)
theorem VR.flat {φ ψ:aI} {x:SV} {v:Value} (h:VR φ x v) (hf:x.flat=true):VR ψ x v:=by
 cases h with
 |bool b=>exact .bool b
 |int k n=>exact .int k n
 |str h=>exact .str h
 |cM=>exact .cM
 |ao=>exact .ao
 |lP=>exact .lP
 |lO=>exact .lO
 |lq=>exact .lq
 |_=>simp[SV.flat]at hf
def cz.kB:cz->cz
 |.row cs e ex _ frz=>.row cs e ex true frz
 |_=>.dead
def Tr.map {α β:Type} (f:α->β):Tr α->Tr β
 |.leaf=>.leaf
 |.node l v r=>.node (l.map f) (v.map f) (r.map f)
theorem Tr.get_map {α β:Type} (f:α->β):∀(t:Tr α) (n:Nat),(t.map f).get n=(t.get n).map f
 |.leaf,n=>by cases n<;>rfl
 |.node l v r,n=>by
  cases n with
  |zero=>rfl
  |succ m=>
   simp only[Tr.map,Tr.get];split
   ·exact Tr.get_map f l _
   ·exact Tr.get_map f r _
def ag.kB (H:ag):ag:=⟨H.next,H.oC.map cz.kB⟩
theorem ag.KP (H:ag) (b:Nat):H.kB.get b=(H.get b).map cz.kB:=Tr.get_map _ _ _
theorem ag.ac5 {H:ag} {b:Nat} {cs:List SV} {e:TypeId} {ex ro:Bool} {frz:Nat} (h:H.get b=some (.row cs e ex ro frz)):H.kB.get b=some (.row cs e ex true frz):=by
 rw[ag.KP,h];rfl
theorem HR.kB {φ:aI} {B:Nat} {H:ag} {w:World} (h:HR φ B H w):HR φ w.heap.size H.kB w where
 dD b l e:=h.dD b l e
 inj b b' l l' e e' hr hb dP:=by
  have key:∀c,live (H.kB.get c)->live (H.get c):=by
   intro c hc;rw[ag.KP]at hc;cases hg:H.get c with
   |none=>rw[hg]at hc;exact hc.elim
   |some o=>
    rw[hg]at hc;cases o<;>first|trivial|exact hc.elim
  exact h.inj b b' l l' e e' hr (key _ hb) (key _ dP)
 obj b l e:=by
  rw[ag.KP];have ho:=h.obj b l e;cases hg:H.get b with
  |none=>exact .none
  |some o=>
   rw[hg]at ho;cases o with
   |row cs e' ex ro frz=>
    cases ho with
    |row hb hs hc hl hex iU jh=>exact .row hb hs hc hl hex (fun h=>(by cases h)) (fun h=>(by cases h))
   |_=>exact .dead
 sz:=Nat.le_refl _
theorem VR.under {φ bh:aI} {b:Nat} (hs:∀c m,bh c=some m->c<b->φ c=some m) {x:SV} {v:Value} (hx:x.under b=true) (h:VR bh x v):VR φ x v:=by
 cases x with
 |ptr c o=>cases h with|ptr h=>exact .ptr (hs _ _ h (Nat.le_of_ble_eq_true hx))
 |slice c o n cp z=>cases h with
  |slice h hc hn ht=>exact .slice (hs _ _ h (Nat.le_of_ble_eq_true hx)) hc hn ht
  |kQ hc=>exact .kQ hc
 |map c=>cases h with|map h=>exact .map (hs _ _ h (Nat.le_of_ble_eq_true hx))
 |_=>exact h.flat hx
section
variable {P:Program} {φ:aI} {B:Nat} {H H' h:ag} {w w':World} {ts:T} {a:Act} {o:Oper} {v:SV} {call:cb}
theorem HR.aay (hh:HR φ B h w) {b:Nat} {l:Loc} {so:cz} (hb:φ b=none) (hlt:b<h.next) (bj:h.get b=some so) (hl:w.heap.size<=l.rb) (dY:l.rb<w'.heap.size)
 (hw:∀k,k<w.heap.size->w'.heap[k]? =w.heap[k]?) (ho:OR (φ.ins b l) B w' l (some so)):HR (φ.ins b l) B h w' where
 dD c m e:=by
  unfold aI.ins at e;split at e
  ·cases e;subst_vars;exact⟨hlt,dY⟩
  ·have:=hh.dD c m e;omega
 inj c c' m m' e e' hr hc fk:=by
  unfold aI.ins at e e';split at e<;>split at e'
  ·subst_vars;rfl
  ·cases e;have:=(hh.dD _ _ e').2;omega
  ·cases e';have:=(hh.dD _ _ e).2;omega
  ·exact hh.inj c c' m m' e e' hr hc fk
 obj c m e:=by
  unfold aI.ins at e;split at e
  ·rename_i k;cases e;rw[k,bj];exact ho
  ·exact(hh.obj c m e).mono (aI.sO hb) (hw _ (hh.dD c m e).2)
 sz:=by have:=hh.sz;omega
theorem HR.ajb (hh:HR φ B H w) (so:cz):HR φ B (H.push so) w where
 dD c m e:=by have:=hh.dD c m e;simp only[ag.push];omega
 inj c c' m m' e e' hr hc fk:=by
  have h1:=(hh.dD c m e).1;have h2:=(hh.dD c' m' e').1;rw[ag.mU,if_neg om]at hc fk;exact hh.inj c c' m m' e e' hr hc fk
 obj c m e:=by
  have h1:=(hh.dD c m e).1;rw[ag.mU,if_neg om];exact hh.obj c m e
 sz:=hh.sz
theorem HR.same (hh:HR φ B H w) (hn:H'.next=H.next) (hg:∀b,H'.get b=H.get b):HR φ B H' w where
 dD c m e:=by rw[hn];exact hh.dD c m e
 inj c c' m m' e e' hr hc fk:=by
  rw[hg]at hc fk;exact hh.inj c c' m m' e e' hr hc fk
 obj c m e:=by rw[hg];exact hh.obj c m e
 sz:=hh.sz
def ahg:aI:=fun _=>none
def GL:ag:=⟨0,.leaf⟩
theorem HR.empty (w:World):HR ahg w.heap.size GL w:=by
 constructor
 ·intro b l e;cases e
 ·intro b b' l l' e;cases e
 ·intro b l e;cases e
 ·exact Nat.le_refl _
def cJ.s6 (so:cJ) (ts:T):List SV×TypeId:=
 match so with
 |.alloc zero e=>(zero,e)
 |.hO e _ _ zero ps=>((eM ts zero ps).getD [],e)
 |_=>([],0)
def cJ.made (so:cJ) (b:Nat):SV:=
 match so with
 |.alloc _ _=>.ptr b 0
 |.hO _ z len _ _=>.slice b 0 len (some len) z
 |_=>.undef
theorem ae2 {so:cJ} {ts:T} {H H':ag} {v:SV} (hp:so.qk=true) (h:evalOp so ts H=some (v,H')):v=so.made H.next/\H'=H.push (.row (so.s6 ts).1 (so.s6 ts).2 true false 0):=by
 unfold cJ.qk at hp;split at hp
 ·cases h;exact⟨rfl,rfl⟩
 ·rename_i e z len zero ps;simp only[evalOp]at h;split at h
  ·rename_i cs hf;cases h;refine⟨rfl,?_⟩;show H.push _=H.push (.row ((eM ts zero ps).getD []) e true false 0);rw[hf];rfl
  ·cases h
 ·cases hp
theorem ae1 {so:cJ} {b:Nat} {ts:T} {vv:SV} {HH:ag} (hc:yS P o=some (.op so)) (hp:so.qk=true) (ht:aE φ ts a.tmps.toList) (hh:HR φ B h w) (hb:φ b=none) (hlt:b<h.next)
 (LM:evalOp so ts GL=some (vv,HH)) (bj:h.get b=some (.row (so.s6 ts).1 (so.s6 ts).2 true false 0)) (hf:(so.s6 ts).1.all (SV.under b)=true):
 ∃di u w',(execOp a.eval o).run P w=.ok (.value u) w'/\φ.le di/\(∀c,c≠b->di c=φ c)/\HR di B h w'/\VR di (so.made b) u/\Below B w w':=by
 have b8:Ez P o=some so/\HJ o=true:=by
  unfold yS at hc;split at hc
  ·rename_i gF h1;split at hc
   ·rename_i h2;cases hc;exact⟨h1,h2⟩
   ·cases hc;cases hp
  ·split at hc
   ·split at hc
    ·rename_i k hk;cases hc;exfalso;unfold tk at hk
     (repeat' split at hk)<;>cases hk
    ·cases hc;cases hp
   ·cases hc;cases hp
 have dW:evalOp so ts h.kB=some (so.made h.next,h.kB.push (.row (so.s6 ts).1 (so.s6 ts).2 true false 0)):=by
  clear bj hf b8 hc;unfold cJ.qk at hp;split at hp
  ·rfl
  ·rename_i e z len zero ps;simp only[evalOp]at LM;split at LM
   ·rename_i cs hfs;show(match eM ts zero ps with|some cs=>some (SV.slice h.kB.next 0 len (some len) z,h.kB.push (.row cs e true false 0))|none=>none)=some (SV.slice h.next 0 len (some len) z,h.kB.push (.row ((eM ts zero ps).getD []) e true false 0));rw[hfs];rfl
   ·cases LM
  ·cases hp
 obtain⟨hn,bh,nx,u,w',h1,h2,h3,h4,h5,h6⟩:=Si (ts:=ts) (a:=a) b8.1 b8.2 ht hh.kB dW;have hold:∀k,k<w.heap.size->w'.heap[k]? =w.heap[k]? :=h6.block;have Cv:∀c m,bh c=some m->c<b->φ c=some m:=by
  intro c m e Fw;rcases h1.2 c m e with h7|h7
  ·exact h7
  ·have:h.next<=c:=h7;omega
 have key:∀l,bh h.next=some l->HR (φ.ins b l) B h w':=by
  intro l hl;have mC:=h5.obj h.next l hl;rw[ag.mU,if_pos (show h.next=h.kB.next from rfl)]at mC;have FP:=(h5.dD h.next l hl).2;cases mC with
  |row dP hs bn lg hex iU jh=>
   have Va:=iU rfl;refine hh.aay hb hlt bj Va FP hold (.row dP hs (fun i x hx=>?_) lg hex (fun _=>Nat.le_trans hh.sz Va) jh);obtain⟨v,g1,g2⟩:=bn i x hx;exact⟨v,g1,(g2.under Cv (List.all_eq_true.1 hf x (List.mem_of_getElem? hx))).mono (aI.sO hb)⟩
 have BU:Below B w w':=⟨h6.os,h6.tape,h6.output,h6.size,fun k hk=>h6.block k (Nat.lt_of_lt_of_le hk hh.sz)⟩;have Uo:∀l c,c≠b->φ.ins b l c=φ c:=fun l c hc=>by simp[aI.ins,hc]
 clear dW;unfold cJ.qk at hp;split at hp
 ·change VR bh (.ptr h.next 0) u at h4;cases h4 with
  |ptr hl=>
   rename_i l;rcases h3 with rfl|⟨rfl,h3⟩
   ·exact⟨φ.ins b l,_,w',h2,aI.sO hb,Uo l,key l hl,.ptr (aI.qi _ _ _),BU⟩
   ·cases h3
 ·rename_i e z len zero ps;change VR bh (.slice h.next 0 len (some len) z) u at h4;cases h4 with
  |slice hl hc hn ht=>
   rename_i l;rcases h3 with rfl|⟨rfl,h3⟩
   ·exact⟨φ.ins b l,_,w',h2,aI.sO hb,Uo l,key l hl,.slice (aI.qi _ _ _) hc hn ht,BU⟩
   ·cases h3
  |kQ hc=>
   rcases h3 with rfl|⟨rfl,h3⟩
   ·exact⟨φ,_,w',h2,aI.le.refl φ,fun c _=>rfl,hh.world h6.size hold,.kQ hc,BU⟩
   ·cases h3
 ·cases hp
theorem Yr {b p:Nat} {vs:List SV} (h:gN H b p vs=some H'):∃cs e ex frz,H.get b=some (.row cs e ex false frz)/\(Nat.ble (p+vs.length) cs.length&&Nat.ble frz p&&vs.all SV.one)=true/\
 H'=H.put b (.row (cs.take p++(vs++cs.drop (p+vs.length))) e ex false frz):=by
 unfold gN at h;split at h
 ·rename_i cs e ex frz hg;split at h
  ·rename_i hx;cases h;exact⟨cs,e,ex,frz,hg,hx,rfl⟩
  ·cases h
 ·cases h
theorem akR {H1 H2:ag} {x y p q:Nat} {us vs:List SV} (h1:gN H x p us=some H1) (h2:gN H1 y q vs=some H2) (aP:x≠y):
 ∃G1 G2,gN H y q vs=some G1/\gN G1 x p us=some G2/\H2.next=G2.next/\∀b,H2.get b=G2.get b:=by
 obtain⟨cs,e,ex,frz,a1,a2,rfl⟩:=Yr h1;obtain⟨iO,e',l8,Ta,b1,b2,rfl⟩:=Yr h2;rw[ag.mV,if_neg (Ne.symm aP)]at b1;refine⟨H.put y (.row (iO.take q++(vs++iO.drop (q+vs.length))) e' l8 false Ta),(H.put y (.row (iO.take q++(vs++iO.drop (q+vs.length))) e' l8 false Ta)).put x (.row (cs.take p++(us++cs.drop (p+us.length))) e ex false frz),?_,?_,?_,?_⟩
 ·simp only[gN,b1,b2]
 ·simp only[gN,ag.mV,if_neg aP,a1,a2]
 ·rfl
 ·intro b;simp only[ag.mV];by_cases e1:b=x
  ·subst e1;simp[aP]
  ·by_cases e2:b=y
   ·subst e2;simp[e1]
   ·simp[e1,e2]
end
end
section
open Go.RowKit (Below)
def Wr (dst:Nat->Option Nat) (val:Nat->SV) (init:SV) (S:Nat->Prop) (t:Nat) (x:SV):Prop:=
 (∃i,S i/\dst i=some t/\x=val i/\∀k,S k->dst k=some t->k<=i)\/(x=init/\∀i,S i->dst i≠some t)
theorem Wr.Sv {dst:Nat->Option Nat} {val:Nat->SV} {init:SV} {S S':Nat->Prop} {t:Nat} {x y:SV} (h:Wr dst val init S t x) (k:Wr dst val init S' t y)
 (hs:∀i,dst i=some t->(S i↔S' i)):x=y:=by
 rcases h with⟨i,a1,a2,a3,a4⟩|⟨a1,a2⟩<;>rcases k with⟨j,b1,b2,b3,b4⟩|⟨b1,b2⟩
 ·have h1:=b4 i ((hs i a2).1 a1) a2;have h2:=a4 j ((hs j b2).2 b1) b2;have:i=j:=Nat.le_antisymm h1 h2;subst this;rw[a3,b3]
 ·exact absurd a2 (b2 i ((hs i a2).1 a1))
 ·exact absurd b2 (a2 j ((hs j b2).2 b1))
 ·rw[a1,b1]
theorem Wr.congr {dst:Nat->Option Nat} {val:Nat->SV} {init:SV} {S S':Nat->Prop} {t:Nat} {x:SV} (h:Wr dst val init S t x)
 (hs:∀i,dst i=some t->(S i↔S' i)):Wr dst val init S' t x:=by
 rcases h with⟨i,a1,a2,a3,a4⟩|⟨a1,a2⟩
 ·exact .inl ⟨i,(hs i a2).1 a1,a2,a3,fun k hk hd=>a4 k ((hs k hd).2 hk) hd⟩
 ·exact .inr ⟨a1,fun i hi hd=>a2 i ((hs i hd).2 hi) hd⟩
theorem Wr.new {dst:Nat->Option Nat} {val:Nat->SV} {init:SV} {S:Nat->Prop} {t j:Nat} (hj:S j) (hd:dst j=some t) (hl:∀k,S k->dst k=some t->k<=j):Wr dst val init S t (val j):=
 .inl ⟨j,hj,hd,rfl,hl⟩
theorem aiZ {n:Nat} {p:Nat->SV->Prop} (h:∀t,t<n->∃x,p t x):∃l:List SV,l.length=n/\∀t,t<n->p t (l.getD t SV.undef):=by
 induction n with
 |zero=>exact⟨[],rfl,fun t ht=>by omega⟩
 |succ n ih=>
  obtain⟨l,h1,h2⟩:=ih fun t ht=>h t om
  obtain⟨x,hx⟩:=h n om;refine⟨l++[x],by simp[h1],fun t ht=>?_⟩;by_cases e:t<n
  ·have:=h2 t e;rwa[List.getD_eq_getElem?_getD,List.getElem?_append_left om,<-List.getD_eq_getElem?_getD]
  ·have:t=n:=om;subst this;rw[List.getD_eq_getElem?_getD,List.getElem?_append_right om,h1];simpa using hx
theorem ajd (ts:T) (d:Option Nat) (v:SV):(c6 ts d v).length=ts.length:=by cases d<;>simp[c6]
theorem ajc {ts:T} {d:Option Nat} {v:SV} {t:Nat} (ht:t<ts.length):(c6 ts d v).getD t SV.undef=if d=some t then v else ts.getD t SV.undef:=by
 cases d with
 |none=>simp[c6]
 |some d=>
  simp only[c6,List.getD_eq_getElem?_getD,List.getElem?_set,Option.some.injEq];split
  ·rename_i e;subst e;simp[ht]
  ·rfl
theorem Be {ops:List (aG×DK)} {i j:Nat} {p q:aG×DK} (hi:ops[i]? =some p) (hj:ops[j]? =some q) (h1:gK p.2=true) (h2:gK q.2=true) (h:bc ops i=bc ops j):i=j:=by
 obtain⟨o,dk⟩:=p;obtain⟨o',oR⟩:=q;have a:=JN ops i o dk hi;have b:=JN ops j o' oR hj;cases dk<;>simp only[gK,Bool.false_eq_true]at h1;cases oR<;>simp only[gK,Bool.false_eq_true]at h2;dsimp only at a b;rcases Nat.lt_trichotomy i j with hlt|he|hlt
 ·have:=JM ops (show i+1<=j from hlt);omega
 ·exact he
 ·have:=JM ops (show j+1<=i from hlt);omega
theorem Sf {ops:List (aG×DK)} {i:Nat} {p:aG×DK} (hi:ops[i]? =some p) (h1:gK p.2=true):bc ops i<bc ops ops.length:=by
 obtain⟨o,dk⟩:=p;have a:=JN ops i o dk hi;cases dk<;>simp only[gK,Bool.false_eq_true]at h1;dsimp only at a;have:=JM ops (show i+1<=ops.length from(List.getElem?_eq_some_iff.1 hi).1);omega
theorem My:∀(ops:List (aG×DK)) (ts:T) (H:ag) (bx:List SV) (H0:ag),fC ops ts H=some (bx,H0)->
 (∀(i:Nat) (so:aG) (lo hi:Nat),ops[i]? =some (so,.hoist lo hi)->∃s,so.k=.op s/\s.qk=true)->
 H.next<=H0.next/\(∀φ B w,HR φ B H w->HR φ B H0 w)/\∃hb:Nat->Nat,
  (∀(i:Nat) (so:aG) (lo hi:Nat),ops[i]? =some (so,.hoist lo hi)->H.next<=hb i/\hb i<H0.next/\∀s,so.k=.op s->bx[i]? =some (s.made (hb i)))/\
  ∀(i j:Nat) (so gF:aG) (lo hi eA cu:Nat),i<j->ops[i]? =some (so,.hoist lo hi)->ops[j]? =some (gF,.hoist eA cu)->hb i<hb j
 |[],ts,H,bx,H0,h,_=>by
  simp only[fC,Option.some.injEq,Prod.mk.injEq]at h;obtain⟨rfl,rfl⟩:=h;exact⟨Nat.le_refl _,fun _ _ _ h=>h,fun _=>0,fun i so lo hi h=>by simp at h,fun i j so gF lo hi eA cu _ h=>by simp at h⟩
 |(o,dk)::os,ts,H,bx,H0,h,hk=>by
  have nT:∀(i:Nat) (so:aG) (lo hi:Nat),os[i]? =some (so,.hoist lo hi)->∃s,so.k=.op s/\s.qk=true:=fun i so lo hi h=>hk (i+1) so lo hi (by simpa using h)
  have other:∀vs H' aA,(∀lo hi,dk≠ .hoist lo hi)->fC os aA H=some (vs,H')->bx=.undef::vs->H0=H'->
   H.next<=H0.next/\(∀φ B w,HR φ B H w->HR φ B H0 w)/\∃hb:Nat->Nat,
   (∀(i:Nat) (so:aG) (lo hi:Nat),((o,dk)::os)[i]? =some (so,.hoist lo hi)->H.next<=hb i/\hb i<H0.next/\∀s,so.k=.op s->bx[i]? =some (s.made (hb i)))/\
   ∀(i j:Nat) (so gF:aG) (lo hi eA cu:Nat),i<j->((o,dk)::os)[i]? =some (so,.hoist lo hi)->((o,dk)::os)[j]? =some (gF,.hoist eA cu)->hb i<hb j:=by
   intro vs H' aA aP hr e1 e2;subst e1 e2;obtain⟨h1,h2,hb,h3,h4⟩:=My os aA H vs H0 hr nT;refine⟨h1,h2,fun i=>hb (i-1),fun i so lo hi cu=>?_,fun i j so gF lo hi eA cu qZ ha dP=>?_⟩
   ·cases i with
    |zero=>simp at cu;exact absurd cu.2 (aP _ _)
    |succ i=>simpa using h3 i so lo hi (by simpa using cu)
   ·cases i with
    |zero=>simp at ha;exact absurd ha.2 (aP _ _)
    |succ i=>
     cases j with
     |zero=>omega
     |succ j=>exact h4 i j so gF lo hi eA cu om (by simpa using ha) (by simpa using dP)
  cases dk with
  |hoist lo0 FF=>
   obtain⟨s,fH,oe⟩:=hk 0 o lo0 FF rfl;simp only[fC,fH]at h;split at h
   case h_2=>cases h
   rename_i v1 H1 dW;obtain⟨rfl,rfl⟩:=ae2 oe dW;split at h
   ·rename_i vs H' hr;simp only[Option.some.injEq,Prod.mk.injEq]at h;obtain⟨rfl,rfl⟩:=h;obtain⟨h1,h2,hb,h3,h4⟩:=My os _ _ vs H' hr nT;simp only[ag.push]at h1;refine⟨by omega,fun φ B w hh=>h2 φ B w (hh.ajb _),fun i=>match i with|0=>H.next|i+1=>hb i,fun i so lo hi cu=>?_,fun i j so gF lo hi eA cu qZ ha dP=>?_⟩
    ·cases i with
     |zero=>
      simp at cu;obtain⟨rfl,_⟩:=cu;refine⟨Nat.le_refl _,show H.next<H'.next by omega,fun s' cX=>?_⟩;rw[fH]at cX;cases cX;rfl
     |succ i=>
      obtain⟨a1,a2,a3⟩:=h3 i so lo hi (by simpa using cu);simp only[ag.push]at a1;exact⟨by dsimp only;omega,a2,fun s' cX=>by simpa using a3 s' cX⟩
    ·cases j with
     |zero=>omega
     |succ j=>
      cases i with
      |zero=>
       obtain⟨a1,_⟩:=h3 j gF eA cu (by simpa using dP);simp only[ag.push]at a1;dsimp only;omega
      |succ i=>exact h4 i j so gF lo hi eA cu om (by simpa using ha) (by simpa using dP)
   ·cases h
  |pure=>
   simp only[fC]at h;split at h
   ·rename_i vs H' hr;simp only[Option.some.injEq,Prod.mk.injEq]at h;exact other vs H' _ (by simp) hr h.1.symm h.2.symm
   ·cases h
  |read lo hi=>
   simp only[fC]at h;split at h
   ·rename_i vs H' hr;simp only[Option.some.injEq,Prod.mk.injEq]at h;exact other vs H' _ (by simp) hr h.1.symm h.2.symm
   ·cases h
  |cg=>
   simp only[fC]at h;split at h
   ·rename_i vs H' hr;simp only[Option.some.injEq,Prod.mk.injEq]at h;exact other vs H' _ (by simp) hr h.1.symm h.2.symm
   ·cases h
theorem Ek {p:ag->Bool}:∀{hs:List ag} {lo hi c:Nat} {h:ag},fN p hs lo hi=true->lo<=c->c<=hi->hs[c]? =some h->p h=true
 |[],lo,hi,c,h,_,_,_,hc=>by simp at hc
 |x::xs,lo,hi,c,h,ha,fA,jM,hc=>by
  unfold fN at ha;cases lo with
  |zero=>
   simp only[Bool.and_eq_true]at ha;cases c with
   |zero=>simp at hc;subst hc;exact ha.1
   |succ c=>
    cases hi with
    |zero=>omega
    |succ hi=>exact Ek (lo:=0) (hi:=hi) (c:=c) ha.2 om om (by simpa using hc)
  |succ lo=>
   cases hi with
   |zero=>omega
   |succ hi=>
    cases c with
    |zero=>omega
    |succ c=>exact Ek (lo:=lo) (hi:=hi) (c:=c) ha om om (by simpa using hc)
theorem ajB {zero:List SV} {e:TypeId} {b:Nat} {h:ag} (hr:nD zero e b h=true):h.get b=some (.row zero e true false 0)/\zero.all (SV.under b)=true:=by
 unfold nD at hr;split at hr
 ·rename_i cs e' hg;simp only[Bool.and_eq_true]at hr;rw[hg,wu hr.1.2,Nat.eq_of_beq_eq_true hr.2];exact⟨rfl,hr.1.1⟩
 ·cases hr
theorem Og {hs:List ag}:∀{ops:List (aG×DK)} {aM:List T} {vs:List SV},ef hs ops aM vs=true->∀(i:Nat) (so:aG) (dk:DK) (t:T) (v:SV),ops[i]? =some (so,dk)->aM[i]? =some t->vs[i]? =some v->
 bL t so.guard=true->
 (∀lo hi,dk=.read lo hi->fN (fun H=>match gC so.k t H with|some u=>bD u v|none=>false) hs lo hi=true)/\
 (∀lo hi,dk=.hoist lo hi->∀s b,so.k=.op s->s.qk=true->v=s.made b->(∀ro,s.s6 t=ro->(∃v' H',evalOp s t GL=some (v',H'))/\fN (nD ro.1 ro.2 b) hs lo hi=true))
 |[],_,_,_,i,so,dk,t,v,h,_,_,_=>by simp at h
 |_::_,[],_,_,i,so,dk,t,v,_,h,_,_=>by simp at h
 |_::_,_::_,[],_,i,so,dk,t,v,_,_,h,_=>by simp at h
 |(o,d)::os,t0::aM,v0::vs,hr,i,so,dk,t,v,h1,h2,h3,hw=>by
  simp only[ef,Bool.and_eq_true]at hr;cases i with
  |succ i=>exact Og hr.2 i so dk t v (by simpa using h1) (by simpa using h2) (by simpa using h3) hw
  |zero=>
   simp at h1 h2 h3;obtain⟨rfl,rfl⟩:=h1;subst h2 h3;have hr:=hr.1;rw[hw]at hr;refine⟨fun lo hi e=>?_,fun lo hi e s b fH oe hv=>?_⟩
   ·subst e;exact hr
   ·subst e hv;dsimp only at hr;rw[fH]at hr;cases s with
    |alloc zero e=>
     rintro ro rfl;exact⟨⟨_,_,rfl⟩,hr⟩
    |hO e2 z2 V3 Zc W7=>
     rintro ro rfl;have oa:(match eM t0 Zc W7 with|some cs=>fN (nD cs e2 b) hs lo hi|none=>false)=true:=hr;split at oa
     ·rename_i cs hf;refine⟨⟨.slice 0 0 V3 (some V3) z2,GL.push (.row cs e2 true false 0),?_⟩,?_⟩
      ·simp only[evalOp,hf];rfl
      ·show fN (nD ((eM t0 Zc W7).getD []) e2 b) hs lo hi=true;rw[hf];exact oa
     ·cases oa
    |_=>cases oe
theorem EF:∀(ops:List (aG×DK)) (k m x:Nat),(qH ops k)[m]? =some x->∃i o,x=k+i/\ops[i]? =some (o,.cg)/\bc ops i=m
 |[],k,m,x,h=>by simp[qH]at h
 |(o,dk)::os,k,m,x,h=>by
  have other:bc ((o,dk)::os) 1=0->qH ((o,dk)::os) k=qH os (k+1)->∃i o',x=k+i/\((o,dk)::os)[i]? =some (o',.cg)/\bc ((o,dk)::os) i=m:=by
   intro hz e;rw[e]at h;obtain⟨i,o',h1,h2,h3⟩:=EF os (k+1) m x h;refine⟨i+1,o',by omega,by simpa using h2,?_⟩;simp only[bc,sd]at hz ⊢;omega
  cases dk with
  |cg=>
   simp only[qH]at h;cases m with
   |zero=>simp at h;subst h;exact⟨0,o,rfl,rfl,by simp[bc]⟩
   |succ m=>
    obtain⟨i,o',h1,h2,h3⟩:=EF os (k+1) m x (by simpa using h);exact⟨i+1,o',by omega,by simpa using h2,by simp only[bc,h3];omega⟩
  |pure=>exact other (by simp[bc,sd]) rfl
  |read lo hi=>exact other (by simp[bc,sd]) rfl
  |hoist lo hi=>exact other (by simp[bc,sd]) rfl
theorem SC:∀(ops:List (aG×DK)) (k:Nat),(qH ops k).length=bc ops ops.length
 |[],k=>rfl
 |(o,dk)::os,k=>by cases dk<;>simp[qH,bc,SC os,Nat.add_comm]
theorem akX {ops:List (aG×DK)} {aM:List T} (h:uG ops aM=true):∃(i j:Nat) (d e:Option Nat) (n m:Nat) (a x b y:X) (t u:T) (p p' q q':Nat),
 ops[i]? =some (⟨d,.op (.store n a x),none⟩,.cg)/\ops[j]? =some (⟨e,.op (.store m b y),none⟩,.cg)/\aM[i]? =some t/\aM[j]? =some u/\a.ev t=.ptr p p'/\b.ev u=.ptr q q'/\p≠q/\
 bc ops i+2=bc ops ops.length/\bc ops j+1=bc ops ops.length:=by
 unfold uG at h;split at h
 ·rename_i j i rest afh;have hl:=SC ops 0;have he:qH ops 0=rest.reverse++[i,j]:=by
   have:=congrArg List.reverse afh;simpa using this
  have fB:rest.length+2=bc ops ops.length:=by rw[<-hl,he];simp
  obtain⟨i',oi,e1,e2,e3⟩:=EF ops 0 rest.length i (by rw[he];simp);obtain⟨j',oj,f1,f2,f3⟩:=EF ops 0 (rest.length+1) j (by rw[he,List.getElem?_append_right (by simp)];simp);have e1':i=i':=om;have f1':j=j':=om;subst e1' f1';split at h
  ·rename_i d n a x dk e m b y oR t u h1 h2 h3 h4;split at h
   ·rename_i p p' q q' h5 h6;rw[e2]at h1;rw[f2]at h2;cases h1;cases h2;refine⟨i,j,d,e,n,m,a,x,b,y,t,u,p,p',q,q',e2,f2,h3,h4,h5,h6,fun rj=>?_,by omega,by omega⟩;subst rj;simp at h
   ·cases h
  ·cases h
 ·cases h
end
section
open Go.RowKit (Below)
def sg (dops:List (aG×DK)) (i:Nat):Option Nat:=(dops[i]?).bind (·.1.dst)
structure Run (G:Ground) (P:Program) (call:cb) (ops:Array Oper) (dops:List (aG×DK)) (A:Nat->List Nat) (sw:Bool) (ts:T) (m:Nat) (H0 Hn G1 G2:ag) (bx:List SV) (aM:List T) (vs:List SV) (hs:List ag) (tn:T) (hb:Nat->Nat):Prop where
 kY:Je P ops dops A sw
 Sg:lV G P call
 hl:hs.length=bc dops dops.length+1
 h0:hs[0]? =some H0
 t0:(aM++[tn])[0]? =some ts
 tl:aM.length=dops.length
 at_:∀(i:Nat) (o:aG) (dk:DK),dops[i]? =some (o,dk)->At call dops bx aM vs hs tn i o dk
 hn:hs[bc dops dops.length]? =some Hn
 m0:m<=H0.next
 hoist:∀(i:Nat) (so:aG) (lo hi:Nat),dops[i]? =some (so,.hoist lo hi)->m<=hb i/\hb i<H0.next/\∀s,so.k=.op s->bx[i]? =some (s.made (hb i))
 LZ:∀(i j:Nat) (so gF:aG) (lo hi eA cu:Nat),i<j->dops[i]? =some (so,.hoist lo hi)->dops[j]? =some (gF,.hoist eA cu)->hb i<hb j
 reads:ef hs dops aM vs=true
 swp:sw=true->∃(i j:Nat) (p q:aG) (t u:T) (v v':SV) (h:ag),dops[i]? =some (p,.cg)/\dops[j]? =some (q,.cg)/\aM[i]? =some t/\aM[j]? =some u/\p.guard=none/\q.guard=none/\
  vs[i]? =some v/\vs[j]? =some v'/\bc dops i+2=bc dops dops.length/\bc dops j+1=bc dops dops.length/\hs[bc dops i]? =some h/\
  eu call q.k u h=some (v',G1)/\eu call p.k t G1=some (v,G2)/\Hn.next=G2.next/\∀b,Hn.get b=G2.get b
section
variable {G:Ground} {P:Program} {call:cb} {ops:Array Oper} {dops:List (aG×DK)} {A:Nat->List Nat} {sw:Bool} {ts:T} {m B:Nat} {H0 Hn G1 G2:ag} {bx:List SV} {aM:List T} {vs:List SV} {hs:List ag} {tn:T} {hb:Nat->Nat} {oN φ:aI} {w0 w:World} {a:Act} {L:Array Bool} {ds:List Deferred}
abbrev dr (L:Array Bool) (i:Nat):Prop:=L.getD i false=true
theorem dr.lt {i:Nat} (h:dr L i):i<L.size:=by
 unfold dr at h;rw[Array.getD_eq_getD_getElem?]at h;by_cases hi:i<L.size
 ·exact hi
 ·rw[Array.getElem?_eq_none (Nat.le_of_not_lt hi)]at h;cases h
theorem dr.set {i j:Nat} (hj:j<L.size):dr (L.setIfInBounds j true) i↔i=j\/dr L i:=by
 by_cases h:i=j
 ·subst h;simp[dr,Array.getD_eq_getD_getElem?,Array.getElem?_setIfInBounds,hj]
 ·simp only[h,false_or,dr];rw[getD_set_ne false (Ne.symm h)]
def HS (dops:List (aG×DK)) (hs:List ag) (G1:ag) (sw:Bool) (B:Nat) (S:Nat->Prop) (φ:aI) (h:ag) (w:World):Prop:=
 HR φ B h w/\((∃c,hs[c]? =some h/\∀(j:Nat) (p:aG×DK),dops[j]? =some p->gK p.2=true->(S j↔bc dops j<c))\/
  (sw=true/\h=G1/\∀(j:Nat) (p:aG×DK),dops[j]? =some p->gK p.2=true->(S j↔bc dops j+2≠bc dops dops.length)))
structure Inv (ops:Array Oper) (dops:List (aG×DK)) (sw:Bool) (ts:T) (m B:Nat) (H0 G1:ag) (vs:List SV) (hs:List ag) (hb:Nat->Nat) (oN:aI) (w0:World) (ds:List Deferred) (L:Array Bool) (φ:aI) (a:Act) (w:World):Prop where
 size:L.size=ops.size
 down:∀(j:Nat) (o:Oper),ops[j]? =some o->dr L j->∀e∈pH o,dr L e
 Ic:a.tmps.size=ts.length
 tmps:∀t,t<ts.length->∃x u,a.tmps[t]? =some u/\VR φ x u/\Wr (sg dops) (fun i=>vs.getD i SV.undef) (ts.getD t SV.undef) (dr L) t x
 heap:∃h,H0.next<=h.next/\HS dops hs G1 sw B (dr L) φ h w
 aD:∀(i:Nat) (so:aG) (lo hi:Nat),dops[i]? =some (so,.hoist lo hi)->¬dr L i->φ (hb i)=none
 ext:oN.ext φ m
 bel:Below B w0 w
 Sw:a.defers=ds
theorem Run.canon (R:Run G P call ops dops A sw ts m H0 Hn G1 G2 bx aM vs hs tn hb):∀(j:Nat) (t:T),(aM++[tn])[j]? =some t->t.length=ts.length/\
 ∀i,i<ts.length->Wr (sg dops) (fun i=>vs.getD i SV.undef) (ts.getD i SV.undef) (· <j) i (t.getD i SV.undef)
 |0,t,h=>by
  rw[R.t0]at h;cases h;exact⟨rfl,fun i _=>.inr ⟨rfl,fun k hk=>absurd hk (Nat.not_lt_zero _)⟩⟩
 |j+1,t,h=>by
  have hj:j<dops.length:=by
   have:=(List.getElem?_eq_some_iff.1 h).1;simp[R.tl]at this;omega
  have hd:=List.getElem?_eq_getElem hj;obtain⟨t',v,hv,hh,p1,p2,p3,p4,p5,p6,p7⟩:=(R.at_ j _ _ hd).ex;rw[p5]at h;cases h;have hp:(aM++[tn])[j]? =some t':=by
   rw[List.getElem?_append_left (by rw[R.tl];exact hj)];exact p1
  obtain⟨q1,q2⟩:=R.canon j t' hp;refine⟨by rw[ajd,q1],fun i hi=>?_⟩;rw[ajc (by rw[q1];exact hi)];have B3:sg dops j=dops[j].1.dst:=by simp[sg,hd]
  split
  ·rename_i e;have hval:v=(fun i=>vs.getD i SV.undef) j:=by simp[List.getD_eq_getElem?_getD,p2]
   rw[hval];exact Wr.new (Nat.lt_succ_self j) (B3.trans e) fun k hk _=>Nat.le_of_lt_succ hk
  ·rename_i e;refine(q2 i hi).congr fun k hk=>⟨fun h=>Nat.lt_succ_of_lt h,fun h=>?_⟩
   rcases Nat.lt_succ_iff_lt_or_eq.1 h with h|h
   ·exact h
   ·subst h;exact absurd (B3.symm.trans hk) e
theorem Run.before (R:Run G P call ops dops A sw ts m H0 Hn G1 G2 bx aM vs hs tn hb) (hd:∀(j:Nat) (o:Oper),ops[j]? =some o->dr L j->∀e∈pH o,dr L e):∀(j:Nat) (o:Oper),ops[j]? =some o->(∀e∈pH o,dr L e)->∀x∈A j,dr L x:=by
 intro j
 induction j using Nat.strongRecOn with
 |ind j ih=>
  intro o ho ha x hx;obtain⟨e,he,h⟩:=R.kY.anc j o ho x hx;have hlt:=R.kY.back j o ho e he;rcases h with rfl|h
  ·exact ha x he
  ·have UQ:ops[e]? =some ops[e]! :=by
    have:e<ops.size:=by have:=(Array.getElem?_eq_some_iff.1 ho).1;omega
    rw[getElem!_def,Array.getElem?_eq_getElem this]
   exact ih e hlt _ UQ (hd e _ UQ (ha e he)) x h
theorem Inv.next (R:Run G P call ops dops A sw ts m H0 Hn G1 G2 bx aM vs hs tn hb) (I:Inv ops dops sw ts m B H0 G1 vs hs hb oN w0 ds L φ a w) {j:Nat} {o:Oper} {so:aG} {dk:DK} {v:SV} {u:Value} {bh:aI} {w':World}
 (ho:ops[j]? =some o) (hd:dops[j]? =some (so,dk)) (zk:∀e∈pH o,dr L e) (kf:¬dr L j) (hv:vs[j]? =some v) (hle:φ.le bh) (hr:VR bh v u)
 (aeu:∃h,H0.next<=h.next/\HS dops hs G1 sw B (fun i=>i=j\/dr L i) bh h w')
 (aev:∀(i:Nat) (so:aG) (lo hi:Nat),dops[i]? =some (so,.hoist lo hi)->i≠j->¬dr L i->bh (hb i)=none) (aem:oN.ext bh m) (BU:Below B w w'):
 Inv ops dops sw ts m B H0 G1 vs hs hb oN w0 ds (L.setIfInBounds j true) bh (a.put so.dst u) w':=by
 have hj:j<L.size:=by rw[I.size];exact(Array.getElem?_eq_some_iff.1 ho).1
 have mE:=fun i=>dr.set (i:=i) hj
 have U3:dr (L.setIfInBounds j true)=fun i=>i=j\/dr L i:=funext fun i=>propext (mE i)
 refine⟨by simp[I.size],?_,?_,?_,?_,?_,aem,I.bel.trans BU,by rw[put_defers];exact I.Sw⟩
 ·intro k ok hk Cf e he;rcases(mE k).1 Cf with rfl|Cf
  ·rw[ho]at hk;cases hk;exact(mE e).2 (.inr (zk e he))
  ·exact(mE e).2 (.inr (I.down k ok hk Cf e he))
 ·cases qV:so.dst<;>simp[Act.put,I.Ic]
 ·intro t ht;obtain⟨x,y,h1,h2,h3⟩:=I.tmps t ht;rw[U3];have B3:sg dops j=so.dst:=by simp[sg,hd]
  by_cases e:so.dst=some t
  ·refine⟨v,u,?_,hr,?_⟩
   ·rw[e];simp[Act.put,Array.getElem?_setIfInBounds,I.Ic,ht]
   ·have hval:v=(fun i=>vs.getD i SV.undef) j:=by simp[List.getD_eq_getElem?_getD,hv]
    rw[hval];refine Wr.new (.inl rfl) (B3.trans e) fun k hk sD=>?_
    rcases hk with rfl|hk
    ·exact Nat.le_refl _
    ·rcases Nat.lt_or_ge j k with zq|zq
     ·exfalso;unfold sg at sD;cases dX:dops[k]? with
      |none=>rw[dX]at sD;cases sD
      |some q=>
       rw[dX]at sD;have bO:pI so q.1=true:=by
        simp only[Option.bind_some]at sD;simp[pI,e,sD]
       have:=R.kY.pI j k (so,dk) q zq hd dX bO;have cZ:ops[k]? =some ops[k]! :=by
        have hlt:=(List.getElem?_eq_some_iff.1 dX).1;rw[R.kY.len]at hlt;rw[getElem!_def,Array.getElem?_eq_getElem hlt]
       exact kf (R.before I.down k _ cZ (I.down k _ cZ hk) j this)
     ·exact zq
  ·refine⟨x,y,?_,h2.mono hle,?_⟩
   ·cases qV:so.dst with
    |none=>exact h1
    |some d=>
     have:d≠t:=fun e'=>e (by rw[qV,e'])
     simp[Act.put,Array.getElem?_setIfInBounds,this,h1]
   ·refine h3.congr fun k hk=>⟨.inr,fun h=>?_⟩
    rcases h with rfl|h
    ·exact absurd (B3.symm.trans hk) e
    ·exact h
 ·obtain⟨h,h1,h2⟩:=aeu;exact⟨h,h1,by rw[U3];exact h2⟩
 ·intro i gF lo hi cu hn;rw[mE i]at hn;simp only[not_or]at hn;exact aev i gF lo hi cu hn.1 hn.2
theorem al4 {g:Option (Nat×Bool)} {us t:T} (h:∀x b,g=some (x,b)->us.getD x SV.undef=t.getD x SV.undef):bL us g=bL t g:=by
 cases g with
 |none=>rfl
 |some p=>
  obtain⟨x,b⟩:=p;simp only[bL,h x b rfl]
theorem HS.quiet {S S':Nat->Prop} {bh:aI} {w':World} {h:ag} (hh:HS dops hs G1 sw B S φ h w) (hr:HR bh B h w') (hS:∀(j:Nat) (p:aG×DK),dops[j]? =some p->gK p.2=true->(S j↔S' j)):HS dops hs G1 sw B S' bh h w':=by
 refine⟨hr,?_⟩;rcases hh.2 with⟨c,h1,h2⟩|⟨h1,h2,h3⟩
 ·exact .inl ⟨c,h1,fun j p hp he=>(hS j p hp he).symm.trans (h2 j p hp he)⟩
 ·exact .inr ⟨h1,h2,fun j p hp he=>(hS j p hp he).symm.trans (h3 j p hp he)⟩
end
end
section
open Go.RowKit (Below)
section
variable {G:Ground} {P:Program} {call:cb} {ops:Array Oper} {dops:List (aG×DK)} {A:Nat->List Nat} {sw:Bool} {ts:T} {m B:Nat} {H0 Hn G1 G2:ag} {bx:List SV} {aM:List T} {vs:List SV} {hs:List ag} {tn:T} {hb:Nat->Nat} {oN φ:aI} {w0 w:World} {a:Act} {L:Array Bool} {ds:List Deferred}
 {Q:Exit->Act->World->Prop} {K:Act->World->Prop}
theorem Run.step (R:Run G P call ops dops A sw ts m H0 Hn G1 G2 bx aM vs hs tn hb) (I:Inv ops dops sw ts m B H0 G1 vs hs hb oN w0 ds L φ a w) (qX:G.p oN B w0) {j:Nat} (hr:j∈Region.ready .any ops L)
 (hK:∀bh a' w',Inv ops dops sw ts m B H0 G1 vs hs hb oN w0 ds (L.setIfInBounds j true) bh a' w'->K a' w'):wpOp P ops Q j K a w:=by
 rw[mem_ready]at hr;obtain⟨hl,o,ho,ad3⟩:=hr;have zk:∀e∈pH o,dr L e:=by
  intro e he;unfold pH at he;simp only[List.mem_map,List.mem_filter]at he;obtain⟨e',⟨h1,h2⟩,rfl⟩:=he;exact ad3 e' (by simpa using h1) h2
 have mA:j<ops.size:=(Array.getElem?_eq_some_iff.1 ho).1;have kf:¬dr L j:=by
  intro h;have:j<L.size:=by rw[I.size];exact mA
  unfold dr at h;rw[Array.getD_eq_getD_getElem?,Array.getElem?_eq_getElem this]at h hl;simp only[Option.getD_some]at h hl;rw[hl]at h;cases h
 obtain⟨so,dk,hd,rl⟩:=R.kY.comp j o ho;obtain⟨eV,qV⟩:=Sj rl;have hA:=R.before I.down j o ho zk;have UU:∀(k:Nat) (q:aG×DK),dops[k]? =some q->ops[k]? =some ops[k]! :=by
  intro k q hk;have hlt:=(List.getElem?_eq_some_iff.1 hk).1;rw[R.kY.len]at hlt;rw[getElem!_def,Array.getElem?_eq_getElem hlt]
 have hS:∀(k:Nat) (q:aG×DK),dops[k]? =some q->j∈A k->¬dr L k:=by
  intro k q hk zq Cf;exact kf (R.before I.down k _ (UU k q hk) (I.down k _ (UU k q hk) Cf) j zq)
 obtain⟨t,v,hv,hh,p1,p2,p3,p4,p5,p6,p7⟩:=(R.at_ j so dk hd).ex;have L6:j<dops.length:=(List.getElem?_eq_some_iff.1 hd).1;have htp:(aM++[tn])[j]? =some t:=by rw[List.getElem?_append_left (by rw[R.tl];exact L6)];exact p1
 obtain⟨fU,LD⟩:=R.canon j t htp;obtain⟨us,Vq,Vr⟩:=aiZ (n:=ts.length) (p:=fun i x=>∃u,a.tmps[i]? =some u/\VR φ x u/\Wr (sg dops) (fun i=>vs.getD i SV.undef) (ts.getD i SV.undef) (dr L) i x)
  (fun i hi=>let ⟨x,u,h⟩:=I.tmps i hi;⟨x,u,h⟩)
 have xI:aE φ us a.tmps.toList:=by
  refine aE.mk (by rw[Vq];simp[I.Ic]) fun i x hi=>?_
  have hlt:i<ts.length:=by rw[<-Vq];exact(List.getElem?_eq_some_iff.1 hi).1
  obtain⟨u,h1,h2,_⟩:=Vr i hlt;rw[List.getD_eq_getElem?_getD,hi]at h2;exact⟨u,by simpa using h1,h2⟩
 have eG:lz so.looks us t:=by
  intro x hx;by_cases hlt:x<ts.length
  ·obtain⟨u,_,_,h3⟩:=Vr x hlt;refine h3.Sv (LD x hlt) fun k hk=>?_
   have nT:∃q,dops[k]? =some q/\q.1.dst=some x:=by
    unfold sg at hk;cases e:dops[k]? with
    |none=>rw[e]at hk;cases hk
    |some q=>rw[e]at hk;exact⟨q,rfl,by simpa using hk⟩
   obtain⟨q,hq,U6⟩:=nT;rcases Nat.lt_trichotomy k j with pa|rfl|pa
   ·have bO:pI q.1 so=true:=by simp[pI,U6,hx]
    exact⟨fun _=>pa,fun _=>hA k (R.kY.pI k j q (so,dk) pa hq hd bO)⟩
   ·exact⟨fun h=>absurd h kf,fun h=>absurd h (Nat.lt_irrefl _)⟩
   ·have bO:pI so q.1=true:=by simp[pI,U6,hx]
    exact⟨fun h=>absurd h (hS k q hq (R.kY.pI j k (so,dk) q pa hd hq bO)),fun h=>by omega⟩
  ·rw[List.getD_eq_getElem?_getD,List.getD_eq_getElem?_getD,List.getElem?_eq_none om,List.getElem?_eq_none om]
 have M5:Region.wanted o (yielded ops a.tmps)=bL t so.guard:=by
  rw[Y3 rl xI];refine al4 fun x b hg=>eG x ?_
  simp[aG.looks,hg]
 have TS:lz so.k.tm us t:=fun x hx=>eG x (by simp only[aG.looks,List.mem_append];exact .inr hx)
 obtain⟨h,kL,qR⟩:=I.heap;have BD:=qR.1;have Bt:∀(h':ag),bL t so.guard=true->eu call so.k t h=some (v,h')->
  (∀bh w',HR bh B h' w'->H0.next<=h'.next->∃g,H0.next<=g.next/\HS dops hs G1 sw B (fun i=>i=j\/dr L i) bh g w')->wpOp P ops Q j K a w:=by
  intro h' hw dW fy;unfold wpOp;rw[ho];dsimp only;rw[if_pos (by rw[M5,hw])];rw[<-acB TS]at dW;refine .inl (Y9 (w:=w) R.Sg eV xI ⟨BD,G.st _ _ _ _ _ qX I.ext.1 I.bel⟩ dW fun bh u w' ca h1 h2 h3 h4=>?_);rw[<-qV];refine hK bh _ w' (I.next R ho hd zk kf p2 h1.1 h2 (fy bh w' h3.1 (Nat.le_trans kL ca)) ?_ (I.ext.trans h1 (Nat.le_trans R.m0 kL)) h4);intro i gF lo hi cu _ xC;cases hx:bh (hb i)with
  |none=>rfl
  |some l=>
   exfalso;rcases h1.2 _ _ hx with h5|h5
   ·rw[I.aD i gF lo hi cu xC]at h5;cases h5
   ·have:=(R.hoist i gF lo hi cu).2.1;omega
 have skip:bL t so.guard=false->(∃g,H0.next<=g.next/\HS dops hs G1 sw B (fun i=>i=j\/dr L i) φ g w)->wpOp P ops Q j K a w:=by
  intro hw fy;unfold wpOp;rw[ho];dsimp only;rw[if_neg (by rw[M5,hw];simp),<-qV];have hvu:=(p6 hw).1;subst hvu;exact hK φ _ w (I.next R ho hd zk kf p2 (aI.le.refl φ) (VR.undef φ) fy (fun i gF lo hi cu _ xC=>I.aD i gF lo hi cu xC) I.ext (Below.refl _ _))
 have uj:gK dk=false->∀(k:Nat) (q:aG×DK),dops[k]? =some q->gK q.2=true->(dr L k↔(k=j\/dr L k)):=by
  intro aP k q hk he;refine⟨.inr,fun h=>h.elim (fun e=>?_) id⟩;subst e;rw[hd]at hk;cases hk;rw[aP]at he;cases he
 have U1:∀lo hi,(dk=.read lo hi\/dk=.hoist lo hi)->∃c,hs[c]? =some h/\lo<=c/\c<=hi:=by
  intro lo hi sD;rcases qR.2 with⟨c,hc,kG⟩|⟨lh,Mg,kG⟩
  ·refine⟨c,hc,?_,?_⟩
   ·rcases R.kY.lo j (so,dk) lo hi hd sD with h0|⟨k,q,h1,h2,h3,h4⟩
    ·omega
    ·have:=(kG k q h1 h2).1 (hA k h3);omega
   ·have bO:c<hs.length:=(List.getElem?_eq_some_iff.1 hc).1;rw[R.hl]at bO;rcases R.kY.hi j (so,dk) lo hi hd sD with h0|⟨k,q,h1,h2,h3,h4⟩
    ·omega
    ·rcases Nat.lt_or_ge hi c with hlt|o7
     ·exact absurd ((kG k q h1 h2).2 om) (hS k q h1 h3)
     ·exact o7
  ·exfalso;obtain⟨i1,i2,q1,q2,t1,t2,v1,v2,hx,e1,e2,e3,e4,e5,e6,e7,e8,e9,J6,EE⟩:=R.swp lh;rcases R.kY.swap j (so,dk) lo hi hd sD lh with h1|h1
   ·exact((kG i1 _ e1 rfl).1 (hA i1 (h1 i1 _ e1 rfl om))) e9
   ·exact hS i2 _ e2 (h1 i2 _ e2 rfl om) ((kG i2 _ e2 rfl).2 om)
 cases dk with
 |pure=>
  cases hw:bL t so.guard with
  |false=>exact skip hw ⟨h,kL,qR.quiet BD (uj rfl)⟩
  |true=>
   obtain⟨s,fH,oe⟩:=R.kY.pure j so hd;have:=p7 hw;dsimp only at this;simp only[gC,fH]at this;split at this
   ·rename_i v' H' dW;cases this;refine Bt h hw ?_ fun bh w' g1 g2=>⟨h,g2,qR.quiet g1 (uj rfl)⟩
    rw[fH];exact aja oe dW h
   ·cases this
 |read lo hi=>
  cases hw:bL t so.guard with
  |false=>exact skip hw ⟨h,kL,qR.quiet BD (uj rfl)⟩
  |true=>
   obtain⟨s,fH,oe⟩:=R.kY.read j so lo hi hd;obtain⟨c,hc,fA,jM⟩:=U1 lo hi (.inl rfl);have:=Ek ((Og R.reads j so _ t v hd p1 p2 hw).1 lo hi rfl) fA jM hc;split at this
   ·rename_i u hq;have:=Ru this;subst this;simp only[gC,fH]at hq;split at hq
    ·rename_i v' H' dW;cases hq;have:=ajj oe dW;subst this;exact Bt H' hw (by rw[fH];exact dW) fun bh w' g1 g2=>⟨H',g2,qR.quiet g1 (uj rfl)⟩
    ·cases hq
   ·cases this
 |hoist lo hi=>
  obtain⟨⟨s,fH,oe⟩,hg⟩:=R.kY.hoist j so lo hi hd;have hw:bL t so.guard=true:=by rw[hg];rfl
  obtain⟨c,hc,fA,jM⟩:=U1 lo hi (.inr rfl);have CI:=p7 hw;dsimp only at CI;obtain⟨dn,eo,iS⟩:=R.hoist j so lo hi hd;have Vv:=iS s fH;rw[p3]at Vv;have Vu:v=s.made (hb j):=by rw[CI];exact Option.some.inj Vv
  have TT:lz s.tm us t:=by
   have:=TS;rw[fH]at this;exact this
  have xL:s.s6 us=s.s6 t:=by
   cases s with
   |hO e z len zero ps=>
    have hx:lz (ps.flatMap fun p=>p.2.2.tm) us t:=TT;show((eM us zero ps).getD [],e)=((eM t zero ps).getD [],e);rw[KF hx]
   |_=>rfl
  obtain⟨⟨v1,HH1,Ug⟩,gS⟩:=(Og R.reads j so _ t v hd p1 p2 hw).2 lo hi rfl s (hb j) fH oe Vu _ rfl;have bj:=ajB (Ek gS fA jM hc);rw[<-SS TT]at Ug;rw[<-xL]at bj;rw[fH]at eV;obtain⟨di,u,w',g1,g2,g3,g4,g5,g6⟩:=ae1 (a:=a) eV oe xI BD (I.aD j so lo hi hd kf) om Ug bj.1 bj.2;rw[<-Vu]at g5;unfold wpOp;rw[ho];dsimp only;rw[if_pos (by rw[M5,hw])];left;unfold Oper.wp;rw[g1];show K (a.put o.dst u) w';rw[<-qV];refine hK di _ w' (I.next R ho hd zk kf p2 g2 g5 ⟨h,kL,qR.quiet g4 (uj rfl)⟩ ?_ ?_ g6)
  ·intro i gF eA cu LX qZ xC;have aP:hb i≠hb j:=by
    intro e;rcases Nat.lt_or_gt_of_ne qZ with hlt|hlt
    ·have:=R.LZ i j gF so eA cu lo hi hlt LX hd;omega
    ·have:=R.LZ j i so gF lo hi eA cu hlt hd LX;omega
   rw[g3 _ aP];exact I.aD i gF eA cu LX xC
  ·refine⟨fun b l hx=>g2 b l (I.ext.1 b l hx),fun b l hx=>?_⟩;by_cases e:b=hb j
   ·exact .inr om
   ·rw[g3 b e]at hx;exact I.ext.2 b l hx
 |cg=>
  rcases qR.2 with⟨c,hc,kG⟩|⟨lh,Mg,kG⟩
  ·have o7:c<=bc dops j:=by
    rcases Nat.lt_or_ge (bc dops j) c with h1|h1
    ·exact absurd ((kG j _ hd rfl).2 h1) kf
    ·exact h1
   rcases Nat.lt_or_ge c (bc dops j)with hlt|hle
   ·
    obtain⟨i,oi,h1,h2,h3⟩:=yP dops j c hlt;have xC:¬dr L i:=fun h=>by have:=(kG i _ h2 rfl).1 h;omega
    rcases R.kY.tr i j _ _ h1 h2 hd rfl rfl with h4|⟨lh,h5,h6⟩
    ·exact absurd (hA i h4) xC
    ·obtain⟨i1,i2,q1,q2,t1,t2,v1,v2,hx,e1,e2,e3,e4,e5,e6,e7,e8,e9,J6,EE,Sz,SA,SB⟩:=R.swp lh;have ej:i2=j:=Be e2 hd rfl rfl om;subst ej;rw[hd]at e2;cases e2;rw[p1]at e4;cases e4;rw[p2]at e8;cases e8;have ehx:hx=h:=by
      have:bc dops i1=c:=om;rw[this,hc]at EE;exact(Option.some.inj EE).symm
     subst ehx;refine Bt G1 (by rw[e6];rfl) Sz fun bh w' g1 g2=>⟨G1,g2,g1,.inr ⟨lh,rfl,fun k q hk he=>?_⟩⟩
     have p0:=Sf hk he;constructor
     ·rintro(rfl|eJ)
      ·omega
      ·have:=(kG k q hk he).1 eJ;omega
     ·intro aP;by_cases pa:k=i2
      ·exact .inl pa
      ·refine .inr ((kG k q hk he).2 ?_);have:bc dops k≠bc dops i2:=fun e=>pa (Be hk hd he rfl e)
       omega
   ·have Fx:bc dops j=c:=Nat.le_antisymm hle o7;rw[Fx,hc]at p4;cases p4;have mB:∀(k:Nat) (q:aG×DK),dops[k]? =some q->gK q.2=true->((k=j\/dr L k)↔bc dops k<c+1):=by
     intro k q hk he;constructor
     ·rintro(rfl|eJ)
      ·omega
      ·have:=(kG k q hk he).1 eJ;omega
     ·intro hlt;by_cases pa:k=j
      ·exact .inl pa
      ·refine .inr ((kG k q hk he).2 ?_);have:bc dops k≠bc dops j:=fun e=>pa (Be hk hd he rfl e)
       omega
    cases hw:bL t so.guard with
    |false=>
     have:=(p6 hw).2 rfl;rw[Fx]at this;exact skip hw ⟨_,kL,BD,.inl ⟨c+1,this,mB⟩⟩
    |true=>
     obtain⟨h',h1,h2⟩:=p7 hw;rw[Fx]at h2;exact Bt h' hw h1 fun bh w' g1 g2=>⟨h',g2,g1,.inl ⟨c+1,h2,mB⟩⟩
  ·obtain⟨i1,i2,q1,q2,t1,t2,v1,v2,hx,e1,e2,e3,e4,e5,e6,e7,e8,e9,J6,EE,Sz,SA,SB,e15⟩:=R.swp lh;have Fx:bc dops j+2=bc dops dops.length:=by
    by_cases e:bc dops j+2=bc dops dops.length
    ·exact e
    ·exact absurd ((kG j _ hd rfl).2 e) kf
   have ej:i1=j:=Be e1 hd rfl rfl om;subst ej;rw[hd]at e1;cases e1;rw[p1]at e3;cases e3;rw[p2]at e7;cases e7;subst Mg;refine Bt G2 (by rw[e5];rfl) SA fun bh w' g1 g2=>⟨Hn,by omega,g1.same SB e15,.inl ⟨_,R.hn,fun k q hk he=>?_⟩⟩
   have p0:=Sf hk he;refine⟨fun _=>p0,fun _=>?_⟩;by_cases pa:k=i1
   ·exact .inl pa
   ·refine .inr ((kG k q hk he).2 fun e=>pa (Be hk hd he rfl om))
theorem Run.all (R:Run G P call ops dops A sw ts m H0 Hn G1 G2 bx aM vs hs tn hb) (qX:G.p oN B w0) (hT:∀bh a' w',m<=Hn.next->oN.ext bh m->aE bh tn a'.tmps.toList->HR bh B Hn w'->Below B w0 w'->a'.defers=ds->Q .normal a' w'):
 ∀(fuel:Nat) (U:List Nat) (L:Array Bool) (φ:aI) (a:Act) (w:World),U.length<=fuel->(∀j,j<ops.size->¬dr L j->j∈U)->Inv ops dops sw ts m B H0 G1 vs hs hb oN w0 ds L φ a w->wpAny P .any ops Q fuel L a w:=by
 have fin:∀(L:Array Bool) (φ:aI) (a:Act) (w:World),Inv ops dops sw ts m B H0 G1 vs hs hb oN w0 ds L φ a w->(∀j,j<ops.size->dr L j)->Q .normal a w:=by
  intro L φ a w I gS;obtain⟨h,kL,qR⟩:=I.heap;have b8:∀(k:Nat) (q:aG×DK),dops[k]? =some q->k<ops.size:=by
   intro k q hk;have:=(List.getElem?_eq_some_iff.1 hk).1;rw[R.kY.len]at this;exact this
  have hh:h=Hn:=by
   rcases qR.2 with⟨c,hc,kG⟩|⟨lh,Mg,kG⟩
   ·have bO:c<hs.length:=(List.getElem?_eq_some_iff.1 hc).1;rw[R.hl]at bO;have:c=bc dops dops.length:=by
     rcases Nat.lt_or_ge c (bc dops dops.length)with hlt|o7
     ·obtain⟨i,oi,h1,h2,h3⟩:=yP dops dops.length c hlt;have:=(kG i _ h2 rfl).1 (gS i (b8 i _ h2));omega
     ·omega
    rw[this,R.hn]at hc;exact(Option.some.inj hc).symm
   ·exfalso;obtain⟨i1,i2,q1,q2,t1,t2,v1,v2,hx,e1,e2,e3,e4,e5,e6,e7,e8,e9,J6⟩:=R.swp lh;exact(kG i1 _ e1 rfl).1 (gS i1 (b8 i1 _ e1)) e9
  subst hh;obtain⟨fU,LD⟩:=R.canon dops.length tn (by rw[List.getElem?_append_right (by rw[R.tl];exact Nat.le_refl _),R.tl];simp);refine hT φ a w (Nat.le_trans R.m0 kL) I.ext (aE.mk (by rw[fU];simp[I.Ic]) fun i x hi=>?_) qR.1 I.bel I.Sw;have hlt:i<ts.length:=by rw[<-fU];exact(List.getElem?_eq_some_iff.1 hi).1
  obtain⟨y,u,h1,h2,h3⟩:=I.tmps i hlt;have he:=h3.Sv (LD i hlt) fun k hk=>by
   have nT:∃q,dops[k]? =some q:=by
    unfold sg at hk;cases e:dops[k]? with
    |none=>rw[e]at hk;cases hk
    |some q=>exact⟨q,rfl⟩
   obtain⟨q,hq⟩:=nT;exact⟨fun _=>(List.getElem?_eq_some_iff.1 hq).1,fun _=>gS k (b8 k q hq)⟩
  rw[List.getD_eq_getElem?_getD,hi]at he;simp only[Option.getD_some]at he;subst he;exact⟨u,by simpa using h1,h2⟩
 intro fuel
 induction fuel with
 |zero=>
  intro U L φ a w hU Fq I;have:U=[]:=List.eq_nil_of_length_eq_zero om;subst this;have gS:∀j,j<ops.size->dr L j:=fun j hj=>by
   by_cases h:dr L j
   ·exact h
   ·exact absurd (Fq j hj h) (by simp)
  refine⟨?_,fin L φ a w I gS⟩;apply List.eq_nil_iff_forall_not_mem.2;intro j hj;rw[mem_ready]at hj;obtain⟨h1,o,ho,_⟩:=hj;have mA:j<ops.size:=(Array.getElem?_eq_some_iff.1 ho).1;have h2:=gS j mA;have:j<L.size:=by rw[I.size];exact mA
  unfold dr at h2;rw[Array.getD_eq_getD_getElem?,Array.getElem?_eq_getElem this]at h1 h2;simp only[Option.getD_some]at h1 h2;rw[h1]at h2;cases h2
 |succ fuel ih=>
  intro U L φ a w hU Fq I;refine⟨fun Mp=>fin L φ a w I ?_,fun j hj=>R.step I qX hj fun bh a' w' I'=>?_⟩
  ·intro j
   induction j using Nat.strongRecOn with
   |ind j ihj=>
    intro mA;by_cases h:dr L j
    ·exact h
    ·exfalso;have Ch:j∈Region.ready .any ops L:=by
      rw[mem_ready];refine⟨?_,ops[j],Array.getElem?_eq_getElem mA,fun e he ad5=>?_⟩
      ·have:j<L.size:=by rw[I.size];exact mA
       unfold dr at h;rw[Array.getD_eq_getD_getElem?,Array.getElem?_eq_getElem this]at h ⊢;simpa using h
      ·have LI:e.on∈pH ops[j]:=by
        unfold pH;simp only[List.mem_map,List.mem_filter];exact⟨e,⟨by simpa using he,ad5⟩,rfl⟩
       have hlt:=R.kY.back j _ (Array.getElem?_eq_getElem mA) e.on LI;exact ihj e.on hlt om
     rw[Mp]at Ch;cases Ch
  ·have Cd:=(mem_ready.1 hj);obtain⟨h1,o,ho,_⟩:=Cd;have mA:j<ops.size:=(Array.getElem?_eq_some_iff.1 ho).1;have kI:j<L.size:=by rw[I.size];exact mA
   have kf:¬dr L j:=by
    intro h;unfold dr at h;rw[Array.getD_eq_getD_getElem?,Array.getElem?_eq_getElem kI]at h h1;simp only[Option.getD_some]at h h1;rw[h1]at h;cases h
   have hjU:=Fq j mA kf;refine ih (U.erase j) _ bh a' w' (by rw[List.length_erase_of_mem hjU];omega) (fun k hk FW=>?_) I';rw[dr.set kI]at FW;simp only[not_or]at FW;exact(List.mem_erase_of_ne FW.1).2 (Fq k hk FW.2)
end
end
section
open Go.RowKit (Below)
theorem Ys {n:Nat} {a x:X} {ts:T} {H H':ag} {v:SV} {p p':Nat} {call:cb} (ha:a.ev ts=.ptr p p') (h:eu call (.op (.store n a x)) ts H=some (v,H')):v=.undef/\Nat.beq (x.ev ts).cells.length n=true/\gN H p p' (x.ev ts).cells=some H':=by
 simp only[eu,evalOp,ha]at h;split at h
 ·rename_i hb;split at h
  ·rename_i H1 hs;cases h;exact⟨rfl,hb,hs⟩
  ·cases h
 ·cases h
theorem Yt {n:Nat} {a x:X} {ts:T} {H H':ag} {p p':Nat} {call:cb} (ha:a.ev ts=.ptr p p') (hb:Nat.beq (x.ev ts).cells.length n=true) (h:gN H p p' (x.ev ts).cells=some H'):eu call (.op (.store n a x)) ts H=some (.undef,H'):=by
 simp only[eu,evalOp,ha,hb,h]
theorem acf {G:Ground} {P:Program} (hm:P.follows .mixedOrders=true) {call:cb} (cK:lV G P call):D5 G P call:=by
 intro φ B H H' w ts aA a ops dops swap id Q ds hc he ht hh hd hT;obtain⟨A,xu⟩:=abQ hc;unfold uY at he;split at he
 ·cases he
 ·rename_i bx H0 hho;split at he
  ·cases he
  ·rename_i aM vs hs tn MZ;split at he
   ·cases he
   ·rename_i tT;split at he
    ·rename_i Hn FL;simp only[Option.some.injEq,Prod.mk.injEq]at he;obtain⟨rfl,rfl⟩:=he;simp only[Bool.and_eq_true,Bool.or_eq_true,Bool.not_eq_true']at tT;obtain⟨hrd,lh⟩:=tT;obtain⟨m0,jt,hb,dn,eo⟩:=My dops ts H bx H0 hho fun i so lo hi h=>(xu.hoist i so lo hi h).1
     obtain⟨q1,q2,q3,q4,q5,q6⟩:=OW dops bx ts H0 aM vs hs tn MZ;have hn:hs[bc dops dops.length]? =some Hn:=by
      rw[List.getLast?_eq_getElem?,q3]at FL;simpa using FL
     have CA:∃G1 G2,swap=true->∃(i j:Nat) (p q:aG) (t u:T) (v v':SV) (h:ag),dops[i]? =some (p,.cg)/\dops[j]? =some (q,.cg)/\aM[i]? =some t/\aM[j]? =some u/\p.guard=none/\q.guard=none/\
      vs[i]? =some v/\vs[j]? =some v'/\bc dops i+2=bc dops dops.length/\bc dops j+1=bc dops dops.length/\hs[bc dops i]? =some h/\
      eu call q.k u h=some (v',G1)/\eu call p.k t G1=some (v,G2)/\Hn.next=G2.next/\∀b,Hn.get b=G2.get b:=by
      cases swap with
      |false=>exact⟨H,H,fun e=>by cases e⟩
      |true=>
       rcases lh with h|h
       ·cases h
       ·obtain⟨i,j,d,e,n,m,x,x',y,y',t,u,p,p',q,q',e1,e2,e3,e4,e5,e6,e7,e8,e9⟩:=akX h;obtain⟨t0,v,hv,h0,p1,p2,p3,p4,_,_,p7⟩:=(q6 i _ _ e1).ex;obtain⟨u0,v',kh,h1,r1,r2,r3,r4,_,_,r7⟩:=(q6 j _ _ e2).ex;rw[e3]at p1;cases p1;rw[e4]at r1;cases r1;obtain⟨h1',s1,s2⟩:=p7 rfl;obtain⟨h2',s3,s4⟩:=r7 rfl;have ec:bc dops i+1=bc dops j:=om;rw[ec,r4]at s2;cases s2;rw[e9,hn]at s4;cases s4;obtain⟨v1,b1,c1⟩:=Ys e5 s1;obtain⟨v2,b2,c2⟩:=Ys e6 s3;obtain⟨G1,G2,g1,g2,g3,g4⟩:=akR c1 c2 e7;subst v1 v2;exact⟨G1,G2,fun _=>⟨i,j,_,_,t,u,_,_,h0,e1,e2,e3,e4,rfl,rfl,p2,r2,e8,e9,p4,Yt e6 b2 g1,Yt e5 b1 g2,g3,g4⟩⟩
     obtain⟨G1,G2,CA⟩:=CA;have R:Run G P call ops dops A swap ts H.next H0 Hn G1 G2 bx aM vs hs tn hb:=
      {kY:=xu,Sg:=cK,hl:=q3,h0:=q4,t0:=q5,tl:=q1,at_:=q6,hn:=hn,m0:=m0,hoist:=dn,LZ:=eo,reads:=hrd,swp:=CA}
     refine wp_region_any hm ?_;have LW:HR φ B H0 {w with drawn:=w.drawn+1}:=(jt φ B w hh.1).world (Nat.le_refl _) fun _ _=>rfl
     have lH:∀i,¬dr (Array.replicate ops.size false) i:=by
      intro i h;unfold dr at h;rw[Array.getD_eq_getD_getElem?,Array.getElem?_replicate]at h;split at h<;>cases h
     refine R.all (B:=B) (oN:=φ) (w0:=w) (ds:=ds) hh.2 (fun bh a' w' h1 h2 h3 h4 h5 h6=>hT bh a' w' h1 h2 h3 ⟨h4,G.st _ _ _ _ _ hh.2 h2.1 h5⟩ h5 h6) ops.size (List.range ops.size) _ φ a _ (by simp) (fun j hj _=>by simpa using hj) ?_;refine⟨by simp,fun j o _ hl=>absurd hl (lH j),?_,?_,?_,?_,aI.ext.refl φ _,?_,hd⟩
     ·have:=ht.length;simpa using this.symm
     ·intro t hlt;obtain⟨u,h1,h2⟩:=ht.get t ts[t] (List.getElem?_eq_getElem hlt);refine⟨ts[t],u,by simpa using h1,h2,.inr ⟨by simp[List.getD_eq_getElem?_getD,hlt],fun i hi=>absurd hi (lH i)⟩⟩
     ·refine⟨H0,Nat.le_refl _,LW,.inl ⟨0,q4,fun j p _ _=>⟨fun h=>absurd h (lH j),fun h=>absurd h (Nat.not_lt_zero _)⟩⟩⟩
     ·intro i so lo hi cu _;cases hx:φ (hb i)with
      |none=>rfl
      |some l=>
       have h1:=(hh.1.dD _ _ hx).1;have h2:=(dn i so lo hi cu).1;omega
     ·exact⟨rfl,rfl,rfl,Nat.le_refl _,fun _ _=>rfl⟩
    ·cases he
theorem X9 {G:Ground} {P:Program} (hm:P.follows .mixedOrders=true) {cH:FuncId->Option dM} (rp:yH G P cH) (lf n:Nat):lV G P (aj cH lf n):=
 RV rp (fun _ h=>acf hm h) n
end
end Go.Sh
