/-
  A fast form of the evaluator, and the rules by which it is reckoned symbolically, are proved. No conditions beyond those that stand in the theorems.
-/
import Derived.Test.YtfgpklidnkdahaaGreatDoorShA1
import Derived.WalkKit
set_option linter.all false
set_option maxHeartbeats 20000000
namespace Go.Sh
section
noncomputable def qK {α:Type} (n:Nat) (k:Nat->α):α:=Nat.rec (motive:=fun _=>α) (k 0) (fun m _=>k (m+1)) n
theorem u7 {α:Type} (n:Nat) (k:Nat->α):qK n k=k n:=by cases n<;>rfl
noncomputable def vO:Nat->Nat->List Bool:=fun f=>Nat.rec (motive:=fun _=>Nat->List Bool) (fun _=>[]) (fun _ ih n=>Nat.rec (motive:=fun _=>List Bool) [] (fun m _=>Nat.rec (motive:=fun _=>List Bool) (false::ih (m/2)) (fun _ _=>true::ih (m/2)) (m%2)) n) f
noncomputable def lu (n:Nat):List Bool:=vO (n+1) n
noncomputable def KO {α:Type} (t:Tr α):List Bool->Option α:=Tr.rec (motive:=fun _=>List Bool->Option α) (fun _=>none) (fun _ v _ il ir p=>List.rec (motive:=fun _=>Option α) v (fun b q _=>Bool.rec (motive:=fun _=>Option α) (il q) (ir q) b) p) t
noncomputable def rR {α:Type} (p:List Bool):Tr α->α->Tr α:=List.rec (motive:=fun _=>Tr α->α->Tr α)
 (fun t a=>Tr.rec (motive:=fun _=>Tr α) (.node .leaf (some a) .leaf) (fun l _ r _ _=>.node l (some a) r) t)
 (fun b _ ih t a=>Bool.rec (motive:=fun _=>Tr α)
  (Tr.rec (motive:=fun _=>Tr α) (.node (ih .leaf a) none .leaf) (fun l v r _ _=>.node (ih l a) v r) t)
  (Tr.rec (motive:=fun _=>Tr α) (.node .leaf none (ih .leaf a)) (fun l v r _ _=>.node l v (ih r a)) t) b) p
theorem N9 (f m:Nat):vO (f+1) (m+1)=(match m%2 with|0=>false|_+1=>true)::vO f (m/2):=by
 have e:vO (f+1) (m+1)=Nat.rec (motive:=fun _=>List Bool) (false::vO f (m/2)) (fun _ _=>true::vO f (m/2)) (m%2):=rfl;rw[e];cases m%2<;>rfl
theorem EZ {α:Type}:∀(f:Nat) (t:Tr α) (n:Nat),n<f->KO t (vO f n)=t.get n
 |0,_,_,h=>by omega
 |f+1,t,0,_=>by cases t<;>rfl
 |f+1,.leaf,m+1,_=>rfl
 |f+1,.node l v r,m+1,h=>by
  rw[N9,Tr.get];have hl:=EZ f l (m/2) om;have hr:=EZ f r (m/2) om;cases m%2 with
  |zero=>exact hl
  |succ k=>exact hr
theorem uA {α:Type}:∀(f:Nat) (t:Tr α) (n:Nat) (a:α),n<f->rR (vO f n) t a=Tr.set f t n a
 |0,_,_,_,h=>by omega
 |f+1,t,0,a,_=>by cases t<;>rfl
 |f+1,.leaf,m+1,a,h=>by
  rw[N9,Tr.set];have hl:=uA f .leaf (m/2) a om;cases m%2 with
  |zero=>exact congrArg (fun x=>Tr.node x none .leaf) hl
  |succ k=>exact congrArg (fun x=>Tr.node .leaf none x) hl
 |f+1,.node l v r,m+1,a,h=>by
  rw[N9,Tr.set];have hl:=uA f l (m/2) a om;have hr:=uA f r (m/2) a om;cases m%2 with
  |zero=>exact congrArg (fun x=>Tr.node x v r) hl
  |succ k=>exact congrArg (fun x=>Tr.node l v x) hr
noncomputable def j9 (H:ag) (b:Nat):Option cz:=KO H.oC (lu b)
theorem FE (H:ag) (b:Nat):j9 H b=H.get b:=EZ _ _ _ (Nat.lt_succ_self _)
noncomputable def F2 (H:ag) (b:Nat) (o:cz):ag:=⟨H.next,rR (lu b) H.oC o⟩
theorem aff (H:ag) (b:Nat) (o:cz):F2 H b o=H.put b o:=by
 unfold F2 lu;rw[uA _ _ _ _ (Nat.lt_succ_self _)];rfl
noncomputable def Ai {α:Type} (l:List α):Nat->Option α:=List.rec (motive:=fun _=>Nat->Option α) (fun _=>none) (fun x _ ih n=>Nat.rec (motive:=fun _=>Option α) (some x) (fun m _=>ih m) n) l
theorem GM {α:Type}:∀(l:List α) (n:Nat),Ai l n=l[n]?
 |[],_=>rfl
 |_::_,0=>rfl
 |x::l,n+1=>by
  have e:Ai (x::l) (n+1)=Ai l n:=rfl;rw[e,GM l n];simp
noncomputable def jz {α:Type} (l:List α):Nat:=List.rec (motive:=fun _=>Nat) 0 (fun _ _ ih=>Nat.succ ih) l
theorem rF {α:Type} (l:List α):jz l=l.length:=by
 induction l with
 |nil=>rfl
 |cons x l ih=>exact congrArg Nat.succ ih
noncomputable def qw {α:Type} (l:List α):Nat->List α:=List.rec (motive:=fun _=>Nat->List α) (fun _=>[]) (fun x _ ih n=>Nat.rec (motive:=fun _=>List α) [] (fun m _=>x::ih m) n) l
theorem yq {α:Type}:∀(l:List α) (n:Nat),qw l n=l.take n
 |[],n=>by simp[qw]
 |_::_,0=>rfl
 |x::l,n+1=>by
  have e:qw (x::l) (n+1)=x::qw l n:=rfl;rw[e,yq l n];rfl
noncomputable def pL {α:Type} (l:List α):Nat->List α:=List.rec (motive:=fun _=>Nat->List α) (fun _=>[]) (fun x xs ih n=>Nat.rec (motive:=fun _=>List α) (x::xs) (fun m _=>ih m) n) l
theorem wH {α:Type}:∀(l:List α) (n:Nat),pL l n=l.drop n
 |[],n=>by simp[pL]
 |_::_,0=>rfl
 |x::l,n+1=>by
  have e:pL (x::l) (n+1)=pL l n:=rfl;rw[e,wH l n];rfl
noncomputable def qA {α:Type} (l k:List α):List α:=List.rec (motive:=fun _=>List α) k (fun x _ ih=>x::ih) l
theorem A' {α:Type} (l k:List α):qA l k=l++k:=by
 induction l with
 |nil=>rfl
 |cons x l ih=>exact congrArg (x:: ·) ih
noncomputable def A9 (cs:List SV):Bool:=List.rec (motive:=fun _=>Bool) true (fun x _ ih=>Bool.rec (motive:=fun _=>Bool) false ih (SV.one x)) cs
theorem Rp (cs:List SV):A9 cs=cs.all SV.one:=by
 induction cs with
 |nil=>rfl
 |cons x l ih=>
  have e:A9 (x::l)=Bool.rec (motive:=fun _=>Bool) false (A9 l) (SV.one x):=rfl;rw[e,ih,List.all_cons];cases SV.one x<;>rfl
noncomputable def wO:T->Nat->SV:=fun ts=>List.rec (motive:=fun _=>Nat->SV) (fun _=>SV.undef) (fun x _ ih n=>Nat.rec (motive:=fun _=>SV) x (fun m _=>ih m) n) ts
theorem Tf:∀(ts:T) (n:Nat),wO ts n=ts.getD n SV.undef
 |[],n=>by simp[wO]
 |x::ts,0=>rfl
 |x::ts,n+1=>by
  have:wO (x::ts) (n+1)=wO ts n:=rfl;rw[this,Tf ts n];simp
noncomputable def Aw:T->Nat->SV->T:=fun ts=>List.rec (motive:=fun _=>Nat->SV->T) (fun _ _=>[]) (fun x xs ih n v=>Nat.rec (motive:=fun _=>T) (v::xs) (fun m _=>x::ih m v) n) ts
theorem X5:∀(ts:T) (n:Nat) (v:SV),Aw ts n v=ts.set n v
 |[],n,v=>by simp[Aw]
 |x::ts,0,v=>rfl
 |x::ts,n+1,v=>by
  have:Aw (x::ts) (n+1) v=x::Aw ts n v:=rfl;rw[this,X5 ts n v];simp
abbrev TC:=List (List SV)
noncomputable def Ah (tc:TC):Nat->T:=List.rec (motive:=fun _=>Nat->T) (fun _=>[]) (fun c _ ih k=>Nat.rec (motive:=fun _=>T) c (fun m _=>ih m) k) tc
noncomputable def wN (tc:TC) (i:Nat):SV:=wO (Ah tc (i/8)) (i%8)
noncomputable def vZ (tc:TC):Nat->Nat->SV->TC:=List.rec (motive:=fun _=>Nat->Nat->SV->TC) (fun _ _ _=>[]) (fun c cs ih k j v=>Nat.rec (motive:=fun _=>TC) (Aw c j v::cs) (fun m _=>c::ih m j v) k) tc
noncomputable def Hx (tc:TC) (i:Nat) (v:SV):TC:=vZ tc (i/8) (i%8) v
def dU:TC->Prop
 |[]=>True
 |c::cs=>(cs=[]\/c.length=8)/\c.length<=8/\dU cs
theorem WE:∀(tc:TC) (k j:Nat),dU tc->j<8->wO (Ah tc k) j=tc.flatten.getD (8*k+j) SV.undef
 |[],k,j,_,_=>by simp[Ah,wO]
 |c::cs,0,j,h,hj=>by
  have e:Ah (c::cs) 0=c:=rfl;rw[e,Tf,List.flatten_cons,Nat.mul_zero,Nat.zero_add];by_cases hc:j<c.length
  ·simp[List.getD_eq_getElem?_getD,List.getElem?_append_left hc]
  ·rcases h.1 with h1|h1
   ·subst h1;simp
   ·omega
 |c::cs,k+1,j,h,hj=>by
  have e:Ah (c::cs) (k+1)=Ah cs k:=rfl;rw[e,WE cs k j h.2.2 hj,List.flatten_cons];have:=h.2.1;rw[List.getD_eq_getElem?_getD,List.getD_eq_getElem?_getD,List.getElem?_append_right om];rcases h.1 with h1|h1
  ·subst h1;simp
  ·rw[show 8*(k+1)+j-c.length=8*k+j by omega]
theorem Bs {tc:TC} (h:dU tc) (i:Nat):wN tc i=tc.flatten.getD i SV.undef:=by
 unfold wN;rw[WE tc _ _ h (Nat.mod_lt _ (by decide)),Nat.div_add_mod]
theorem Y0:∀(tc:TC) (k j:Nat) (v:SV),dU tc->j<8->(vZ tc k j v).flatten=tc.flatten.set (8*k+j) v/\dU (vZ tc k j v)/\((vZ tc k j v=[])=(tc=[]))
 |[],k,j,v,_,_=>by simp[vZ,dU]
 |c::cs,0,j,v,h,hj=>by
  have e:vZ (c::cs) 0 j v=Aw c j v::cs:=rfl;rw[e,X5];refine⟨?_,⟨by simpa using h.1,by simpa using h.2.1,h.2.2⟩,by simp⟩;rw[List.flatten_cons,List.flatten_cons,Nat.mul_zero,Nat.zero_add];by_cases hc:j<c.length
  ·rw[List.set_append_left _ _ hc]
  ·rcases h.1 with h1|h1
   ·subst h1;simp
   ·omega
 |c::cs,k+1,j,v,h,hj=>by
  have e:vZ (c::cs) (k+1) j v=c::vZ cs k j v:=rfl;obtain⟨h1,h2,h3⟩:=Y0 cs k j v h.2.2 hj;rw[e];refine⟨?_,⟨by rw[h3];exact h.1,h.2.1,h2⟩,by simp⟩;rw[List.flatten_cons,List.flatten_cons,h1];have:=h.2.1;rw[List.set_append_right _ _ om];rcases h.1 with h4|h4
  ·subst h4;simp
  ·rw[show 8*(k+1)+j-c.length=8*k+j by omega]
theorem akj {tc:TC} (h:dU tc) (i:Nat) (v:SV):(Hx tc i v).flatten=tc.flatten.set i v/\dU (Hx tc i v):=by
 obtain⟨h1,h2,_⟩:=Y0 tc (i/8) (i%8) v h (Nat.mod_lt _ (by decide));unfold Hx;rw[h1,Nat.div_add_mod];exact⟨rfl,h2⟩
noncomputable def Ar:Nat->List SV->TC:=fun f=>Nat.rec (motive:=fun _=>List SV->TC) (fun l=>[l]) (fun _ ih l=>qw l 8::ih (pL l 8)) f
theorem Xv:∀(f:Nat) (l:List SV),l.length<=8*(f+1)->8*f<=l.length->(Ar f l).flatten=l/\dU (Ar f l)/\Ar f l≠[]
 |0,l,h,_=>⟨List.append_nil l,⟨.inl rfl,by omega,trivial⟩,fun e=>(by cases e)⟩
 |f+1,l,h,h'=>by
  have e:Ar (f+1) l=qw l 8::Ar f (pL l 8):=rfl;rw[e,yq,wH];obtain⟨h1,h2,h3⟩:=Xv f (l.drop 8) (by simp;omega) (by simp;omega);refine⟨by rw[List.flatten_cons,h1,List.take_append_drop],⟨.inr (by simp;omega),by simp;omega,h2⟩,by simp⟩
noncomputable def en (x:X):TC->SV:=X.rec (motive:=fun _=>TC->SV) (fun n tc=>wN tc n) (fun v _=>v) x
theorem iy {tc:TC} (h:dU tc) (x:X):en x tc=x.ev tc.flatten:=by
 cases x with
 |t n=>exact Bs h n
 |c v=>rfl
noncomputable def uZ (xs:List X):TC->List SV:=List.rec (motive:=fun _=>TC->List SV) (fun _=>[]) (fun x _ ih tc=>en x tc::ih tc) xs
theorem EP {tc:TC} (h:dU tc) (xs:List X):uZ xs tc=fi tc.flatten xs:=by
 induction xs with
 |nil=>rfl
 |cons x xs ih=>
  have:uZ (x::xs) tc=en x tc::uZ xs tc:=rfl;rw[this,ih,iy h];rfl
abbrev R1:=Option (SV×ag)
noncomputable def yZ (x:X) (tc:TC) (H:ag):R1:=some (en x tc,H)
noncomputable def WY (v:SV) (a b:X):TC->ag->R1:=match v with
 |.bool c=>match c with
  |true=>yZ a
  |false=>yZ b
 |_=>fun _ _=>none
noncomputable def Kn (c a b:X) (tc:TC) (H:ag):R1:=WY (en c tc) a b tc H
noncomputable def J7 (zero:List SV) (elem:TypeId) (_:TC) (H:ag):R1:=qK H.next fun b=>some (.ptr b 0,⟨b+1,rR (lu b) H.oC (.row zero elem true false 0)⟩)
noncomputable def J' (elem:TypeId) (x:X) (tc:TC) (H:ag):R1:=qK H.next fun b=>some (.ptr b 0,⟨b+1,rR (lu b) H.oC (.row (en x tc).cells elem true false 0)⟩)
noncomputable def G5 (o:Option cz):Option (List SV):=match o with
 |some p=>match p with
  |.row cs _ _ _ _=>some cs
  |_=>none
 |none=>none
noncomputable def NY (r:Option SV) (H:ag):R1:=match r with
 |some v=>some (v,H)
 |none=>none
noncomputable def Rn (n o:Nat) (cs:List SV) (H:ag):R1:=match Nat.ble (o+n) (jz cs)with
 |true=>some (.agg (qw (pL cs o) n),H)
 |false=>none
noncomputable def GO (n o:Nat) (cs:List SV):ag->R1:=match n with
 |0=>fun _=>none
 |m+1=>match m with
  |0=>NY (Ai cs o)
  |_+1=>fun _=>none
noncomputable def R0 (agg:Bool) (n o:Nat) (r:Option (List SV)):ag->R1:=match r with
 |some cs=>match agg with
  |true=>Rn n o cs
  |false=>GO n o cs
 |none=>fun _=>none
noncomputable def V' (agg:Bool) (n:Nat) (v:SV) (H:ag):R1:=match v with
 |.ptr b o=>R0 agg n o (G5 (j9 H b)) H
 |_=>none
noncomputable def Kk (agg:Bool) (n:Nat) (a:X) (tc:TC) (H:ag):R1:=V' agg n (en a tc) H
noncomputable def HP (H:ag) (b o:Nat) (vs:List SV):Option ag:=match j9 H b with
 |some p=>match p with
  |.row cs e ex ro frz=>match ro with
   |false=>match Nat.ble (o+jz vs) (jz cs)with
    |true=>match Nat.ble frz o with
     |true=>match A9 vs with
      |true=>some (F2 H b (.row (qA (qw cs o) (qA vs (pL cs (o+jz vs)))) e ex false frz))
      |false=>none
     |false=>none
    |false=>none
   |true=>none
  |_=>none
 |none=>none
theorem Yu (H:ag) (b o:Nat) (vs:List SV):HP H b o vs=gN H b o vs:=by
 unfold HP gN;rw[FE];cases H.get b with
 |none=>rfl
 |some p=>
  cases p with
  |row cs e ex ro frz=>
   cases ro with
   |true=>rfl
   |false=>
    simp only[rF,Rp,A',yq,wH,aff];cases Nat.ble (o+vs.length) cs.length<;>cases Nat.ble frz o<;>cases vs.all SV.one<;>rfl
  |_=>rfl
noncomputable def Yv (r:Option ag):R1:=match r with
 |some H'=>some (.undef,H')
 |none=>none
noncomputable def Yw (n:Nat) (v:SV) (cs:List SV) (H:ag):R1:=match v with
 |.ptr b o=>match Nat.beq (jz cs) n with
  |true=>Yv (HP H b o cs)
  |false=>none
 |_=>none
noncomputable def Kp (n:Nat) (a x:X) (tc:TC) (H:ag):R1:=Yw n (en a tc) (en x tc).cells H
noncomputable def ahe (v:SV) (H:ag):R1:=match v with
 |.cM=>none
 |.lq=>none
 |.lO=>none
 |.rM _=>none
 |v=>some (v,H)
noncomputable def Km (x:X) (tc:TC) (H:ag):R1:=ahe (en x tc) H
noncomputable def uw (r:Option SV) (H:ag):R1:=match r with
 |some v=>some (v,H)
 |none=>none
noncomputable def JK (k:IntKind):Nat:=match k with
 |.i64=>9223372036854775807
 |_=>127
noncomputable def rY (op:BinOp) (k:IntKind) (m n:Nat):Option SV:=match op with
 |.add=>qK (m+n) fun s=>match Nat.ble s (JK k)with
  |true=>some (.int k (.ofNat s))
  |false=>bX .add (.int k (.ofNat m)) (.int k (.ofNat n))
 |.eql=>some (.bool (Nat.beq m n))
 |.neq=>some (.bool (!Nat.beq m n))
 |.lss=>some (.bool (Nat.ble (m+1) n))
 |.leq=>some (.bool (Nat.ble m n))
 |.gtr=>some (.bool (Nat.ble (n+1) m))
 |.geq=>some (.bool (Nat.ble n m))
 |op=>bX op (.int k (.ofNat m)) (.int k (.ofNat n))
noncomputable def Jz (op:BinOp) (k k':IntKind) (a b:Int):Option SV:=match a with
 |.ofNat m=>match b with
  |.ofNat n=>match k with
   |.i64=>match k' with
    |.i64=>rY op .i64 m n
    |k'=>bX op (.int .i64 (.ofNat m)) (.int k' (.ofNat n))
   |.u8=>match k' with
    |.u8=>rY op .u8 m n
    |k'=>bX op (.int .u8 (.ofNat m)) (.int k' (.ofNat n))
   |k=>bX op (.int k (.ofNat m)) (.int k' (.ofNat n))
  |b=>bX op (.int k a) (.int k' b)
 |a=>bX op (.int k a) (.int k' b)
noncomputable def Rx (op:BinOp) (x:SV):SV->Option SV:=match x with
 |.int k a=>fun y=>match y with
  |.int k' b=>Jz op k k' a b
  |y=>bX op (.int k a) y
 |x=>bX op x
theorem yM (m n:Nat):Nat.ble m n=decide (m<=n):=by
 cases h:Nat.ble m n with
 |true=>exact(decide_eq_true (Nat.le_of_ble_eq_true h)).symm
 |false=>exact(decide_eq_false (Nat.not_le_of_not_ble_eq_true (by simp[h]))).symm
theorem Rw (m n:Nat):Nat.beq m n=decide (m=n):=by
 cases h:Nat.beq m n with
 |true=>exact(decide_eq_true (Nat.eq_of_beq_eq_true h)).symm
 |false=>exact(decide_eq_false (Nat.ne_of_beq_eq_false h)).symm
theorem wrap_small {k:IntKind} (hk:k=.i64\/k=.u8) {s:Nat} (h:s<=JK k):k.wrap (s:Int)=(s:Int):=by
 rcases hk with rfl|rfl
 ·have h:s<=9223372036854775807:=h;have e1:((s:Int))%(2^(IntKind.i64).bits:Int)=s:=Int.emod_eq_of_lt om (by simp[IntKind.bits];omega);unfold IntKind.wrap;simp only[e1];simp[IntKind.bits,IntKind.signed];omega
 ·have h:s<=127:=h;have e1:((s:Int))%(2^(IntKind.u8).bits:Int)=s:=Int.emod_eq_of_lt om (by simp[IntKind.bits];omega);unfold IntKind.wrap;simp only[e1];simp[IntKind.signed]
theorem Ry (op:BinOp) (k:IntKind) (hk:k=.i64\/k=.u8) (m n:Nat):rY op k m n=bX op (.int k (.ofNat m)) (.int k (.ofNat n)):=by
 cases op with
 |add=>
  unfold rY;simp only[u7];cases h:Nat.ble (m+n) (JK k)with
  |false=>rfl
  |true=>
   have e0:bX .add (.int k (.ofNat m)) (.int k (.ofNat n))=if k≠k then none else some (.int k (k.wrap ((m+n:Nat):Int))):=rfl
   rw[e0,if_neg (by simp),wrap_small hk (Nat.le_of_ble_eq_true h)];rfl
 |eql=>
  have e0:bX .eql (.int k (.ofNat m)) (.int k (.ofNat n))=if k≠k then none else some (.bool ((m:Int)==(n:Int))):=rfl
  rw[e0,if_neg (by simp)];simp only[rY,Rw];congr 2;rw[Bool.eq_iff_iff];simp;omega
 |neq=>
  have e0:bX .neq (.int k (.ofNat m)) (.int k (.ofNat n))=if k≠k then none else some (.bool ((m:Int)!=(n:Int))):=rfl
  rw[e0,if_neg (by simp)];simp only[rY,Rw];congr 2;rw[Bool.eq_iff_iff];simp;omega
 |lss=>
  have e0:bX .lss (.int k (.ofNat m)) (.int k (.ofNat n))=if k≠k then none else some (.bool (decide ((m:Int)<(n:Int)))):=rfl
  rw[e0,if_neg (by simp)];simp only[rY,yM];congr 2;rw[Bool.eq_iff_iff];simp;omega
 |leq=>
  have e0:bX .leq (.int k (.ofNat m)) (.int k (.ofNat n))=if k≠k then none else some (.bool (decide ((m:Int)<=(n:Int)))):=rfl
  rw[e0,if_neg (by simp)];simp only[rY,yM];congr 2;rw[Bool.eq_iff_iff];simp
 |gtr=>
  have e0:bX .gtr (.int k (.ofNat m)) (.int k (.ofNat n))=if k≠k then none else some (.bool (decide ((m:Int)>(n:Int)))):=rfl
  rw[e0,if_neg (by simp)];simp only[rY,yM];congr 2;rw[Bool.eq_iff_iff];simp;omega
 |geq=>
  have e0:bX .geq (.int k (.ofNat m)) (.int k (.ofNat n))=if k≠k then none else some (.bool (decide ((m:Int)>=(n:Int)))):=rfl
  rw[e0,if_neg (by simp)];simp only[rY,yM];congr 2;rw[Bool.eq_iff_iff];simp
 |_=>rfl
theorem aaQ (op:BinOp) (x y:SV):Rx op x y=bX op x y:=by
 cases x<;>try rfl
 cases y<;>try rfl
 rename_i k a k' b;show Jz op k k' a b=_;unfold Jz;cases a with
 |negSucc a=>rfl
 |ofNat m=>
  cases b with
  |negSucc b=>rfl
  |ofNat n=>
   cases k<;>cases k'<;>first|rfl|exact Ry _ _ (.inl rfl) _ _|exact Ry _ _ (.inr rfl) _ _
noncomputable def J9 (op:BinOp) (x y:X) (tc:TC) (H:ag):R1:=uw (Rx op (en x tc) (en y tc)) H
noncomputable def acJ (off:Nat) (v:SV) (H:ag):R1:=match v with
 |.ptr b o=>some (.ptr b (o+off),H)
 |_=>none
noncomputable def Kd (off:Nat) (x:X) (tc:TC) (H:ag):R1:=acJ off (en x tc) H
noncomputable def acV (agg:Bool) (n off:Nat) (v:SV) (H:ag):R1:=match v with
 |.agg cs=>uw (qp agg n off cs) H
 |_=>none
noncomputable def Ke (agg:Bool) (n off:Nat) (x:X) (tc:TC) (H:ag):R1:=acV agg n off (en x tc) H
noncomputable def VI (z b o n z':Nat) (v:SV) (H:ag):R1:=match v with
 |.int _ k=>match k with
  |.ofNat k=>match Nat.ble (k+1) n with
   |true=>match Nat.beq z z' with
    |true=>qK (o+k*z) fun p=>some (.ptr b p,H)
    |false=>none
   |false=>none
  |.negSucc _=>none
 |_=>none
noncomputable def VJ (z:Nat) (v i:SV):ag->R1:=match v with
 |.slice b o n _ z'=>VI z b o n z' i
 |_=>fun _=>none
noncomputable def Kg (z:Nat) (x i:X) (tc:TC) (H:ag):R1:=VJ z (en x tc) (en i tc) H
noncomputable def VU (r:Option Nat) (H:ag):R1:=match r with
 |some b=>some (.int .u8 (Int.ofNat b),H)
 |none=>none
noncomputable def VS (s:List Nat) (v:SV) (H:ag):R1:=match v with
 |.int _ k=>match k with
  |.ofNat k=>VU (Ai s k) H
  |.negSucc _=>none
 |_=>none
noncomputable def VV (v i:SV):ag->R1:=match v with
 |.str s=>VS s i
 |_=>fun _=>none
noncomputable def Kh (x i:X) (tc:TC) (H:ag):R1:=VV (en x tc) (en i tc) H
noncomputable def SU (i:Nat) (v:SV) (H:ag):R1:=match v with
 |.aJ vs=>uw (Ai vs i) H
 |_=>none
noncomputable def Kc (i:Nat) (x:X) (tc:TC) (H:ag):R1:=SU i (en x tc) H
noncomputable def X' (n:Nat) (H:ag):R1:=qK n fun m=>some (.int .i64 (Int.ofNat m),H)
noncomputable def V4 (v:SV) (H:ag):R1:=match v with
 |.str s=>X' (jz s) H
 |_=>none
noncomputable def Kj (x:X) (tc:TC) (H:ag):R1:=V4 (en x tc) H
noncomputable def agE (v:SV) (H:ag):R1:=match v with
 |.ao=>some (sint 0,H)
 |.slice _ _ n _ _=>some (sint n,H)
 |_=>none
noncomputable def Ki (x:X) (tc:TC) (H:ag):R1:=agE (en x tc) H
noncomputable def CV (H:ag) (b o n:Nat):Option (List SV):=match G5 (j9 H b)with
 |some cs=>match Nat.ble (o+n) (jz cs)with
  |true=>some (qw (pL cs o) n)
  |false=>none
 |none=>none
theorem NF (H:ag) (b o n:Nat):CV H b o n=eK H b o n:=by
 unfold CV eK;rw[FE];cases H.get b with
 |none=>rfl
 |some p=>cases p<;>simp only[G5,rF,yq,wH]<;>rfl
noncomputable def RJ (s:List Nat):List SV:=List.rec (motive:=fun _=>List SV) [] (fun b _ ih=>.int .u8 (Int.ofNat b)::ih) s
theorem abl (s:List Nat):RJ s=byteCells s:=by
 induction s with
 |nil=>rfl
 |cons x l ih=>exact congrArg (SV.int .u8 (Int.ofNat x):: ·) ih
noncomputable def HL (H:ag) (str:Bool) (z:Nat) (x:SV):Option (Nat×List SV):=
 match str with
 |true=>match x with
  |.str l=>some (jz l,RJ l)
  |_=>none
 |false=>match x with
  |.ao=>some (0,[])
  |.slice b o n _ z'=>match n with
   |0=>some (0,[])
   |_+1=>match Nat.beq z z' with
    |true=>match CV H b o (n*z)with
     |some cs=>some (n,cs)
     |none=>none
    |false=>none
  |_=>none
theorem akI (H:ag) (str:Bool) (z:Nat) (x:SV):HL H str z x=lT H str z x:=by
 simp only[HL,rF,abl,NF];rfl
noncomputable def Jt (H:ag) (elem:TypeId) (z bytes:Nat) (s:SV) (r:Option (Nat×List SV)):R1:=
 match r with
 |none=>none
 |some (0,_)=>match s with
  |.ao=>some (s,H)
  |.slice .. =>some (s,H)
  |_=>none
 |some (n+1,new)=>
  match s with
  |.ao=>match Nat.ble ((n+1)*bytes) dR&&Nat.ble (n+1) dR with
   |true=>qK H.next fun a=>some (.slice a 0 (n+1) none z,⟨a+1,rR (lu a) H.oC (.row new elem false false 0)⟩)
   |false=>none
  |.slice b o len cap z'=>
   match Nat.beq z z'&&Nat.ble ((len+(n+1))*bytes) dR&&Nat.ble (len+(n+1)) dR with
   |false=>none
   |true=>match CV H b o (len*z)with
    |none=>none
    |some old=>
     match cap with
     |some c=>match Nat.ble (len+(n+1)) c with
      |true=>match HP H b (o+len*z) new with
       |some H'=>some (.slice b o (len+(n+1)) cap z,H')
       |none=>none
      |false=>qK H.next fun a=>some (.slice a 0 (len+(n+1)) none z,⟨a+1,rR (lu a) H.oC (.row (qA old new) elem false false 0)⟩)
     |none=>match j9 H b with
      |some (.row _ e0 _ false frz)=>match Nat.ble frz (o+len*z)&&Nat.beq e0 elem&&A9 new with
       |true=>qK H.next fun a=>some (.slice a 0 (len+(n+1)) none z,⟨a+1,rR (lu a) (rR (lu b) H.oC .dead) (.row (qA old new) elem false false (frz-o))⟩)
       |false=>none
      |_=>none
  |_=>none
theorem aaG (H:ag) (str:Bool) (elem:TypeId) (z bytes:Nat) (s x:SV):Jt H elem z bytes s (HL H str z x)=gP H str elem z bytes s x:=by
 simp only[akI,Jt,gP,NF,Yu,FE,u7,A',Rp,lu,uA _ _ _ _ (Nat.lt_succ_self _)];rfl
noncomputable def J8 (str:Bool) (elem:TypeId) (z bytes:Nat) (s x:X) (tc:TC) (H:ag):R1:=Jt H elem z bytes (en s tc) (HL H str z (en x tc))
noncomputable def YY (op:UnOp) (x:SV) (H:ag):R1:=match op with
 |.not=>match x with
  |.bool b=>match b with
   |true=>some (.bool false,H)
   |false=>some (.bool true,H)
  |x=>uw (yv .not x) H
 |op=>uw (yv op x) H
noncomputable def Kq (op:UnOp) (x:X) (tc:TC) (H:ag):R1:=YY op (en x tc) H
theorem alS (op:UnOp) (x:SV) (H:ag):YY op x H=uw (yv op x) H:=by
 cases op<;>try rfl
 cases x<;>try rfl
 rename_i b;cases b<;>rfl
noncomputable def zc (parts:List (Nat×Nat×X)):TC->List SV->Option (List SV):=List.rec (motive:=fun _=>TC->List SV->Option (List SV)) (fun _ cs=>some cs)
 (fun p _ ih tc cs=>Bool.rec (motive:=fun _=>Option (List SV)) none (Bool.rec (motive:=fun _=>Option (List SV)) none
  (ih tc (qA (qw cs p.1) (qA (en p.2.2 tc).cells (pL cs (p.1+jz (en p.2.2 tc).cells))))) (Nat.ble (p.1+jz (en p.2.2 tc).cells) (jz cs))) (Nat.beq (jz (en p.2.2 tc).cells) p.2.1)) parts
theorem ES {tc:TC} (h:dU tc):∀(parts:List (Nat×Nat×X)) (cs:List SV),zc parts tc cs=eM tc.flatten cs parts
 |[],cs=>rfl
 |(off,size,x)::parts,cs=>by
  have e:zc ((off,size,x)::parts) tc cs=Bool.rec (motive:=fun _=>Option (List SV)) none (Bool.rec (motive:=fun _=>Option (List SV)) none
   (zc parts tc (qA (qw cs off) (qA (en x tc).cells (pL cs (off+jz (en x tc).cells))))) (Nat.ble (off+jz (en x tc).cells) (jz cs))) (Nat.beq (jz (en x tc).cells) size):=rfl
  rw[e,ES h parts,eM];simp only[rF,A',yq,wH,iy h];cases Nat.beq (x.ev tc.flatten).cells.length size<;>cases Nat.ble (off+(x.ev tc.flatten).cells.length) cs.length<;>rfl
noncomputable def Ro (r:Option (List SV)) (H:ag):R1:=match r with
 |some cs=>some (.agg cs,H)
 |none=>none
noncomputable def Kb (zero:List SV) (parts:List (Nat×Nat×X)) (tc:TC) (H:ag):R1:=Ro (zc parts tc zero) H
noncomputable def Yc (elem:TypeId) (z len:Nat) (r:Option (List SV)) (H:ag):R1:=match r with
 |some cs=>qK H.next fun a=>some (.slice a 0 len (some len) z,⟨a+1,rR (lu a) H.oC (.row cs elem true false 0)⟩)
 |none=>none
noncomputable def Ka (elem:TypeId) (z len:Nat) (zero:List SV) (parts:List (Nat×Nat×X)) (tc:TC) (H:ag):R1:=Yc elem z len (zc parts tc zero) H
noncomputable def VK (v:SV) (lim:Nat):Option Nat:=match v with
 |.int _ n=>match n with
  |.ofNat n=>match Nat.ble n lim with
   |true=>some n
   |false=>none
  |.negSucc _=>none
 |_=>none
theorem afJ (v:SV) (lim:Nat):VK v lim=idx v lim:=by
 cases v<;>try rfl
 rename_i k n;cases n<;>rfl
noncomputable def Gk (x:Option X) (tc:TC) (pK lim:Nat):Option Nat:=match x with
 |none=>some pK
 |some x=>VK (en x tc) lim
theorem afH {tc:TC} (h:dU tc) (x:Option X) (pK lim:Nat):Gk x tc pK lim=eY tc.flatten x pK lim:=by
 cases x with
 |none=>rfl
 |some x=>simp only[Gk,afJ,iy h];rfl
noncomputable def Ye (s:List Nat) (h:Nat) (r:Option Nat) (H:ag):R1:=match r with
 |some l=>some (.str (qw (pL s l) (h-l)),H)
 |none=>none
noncomputable def Yd (lo:Option X) (s:List Nat) (r:Option Nat) (tc:TC) (H:ag):R1:=match r with
 |some h=>Ye s h (Gk lo tc 0 h) H
 |none=>none
noncomputable def Yf (lo hi:Option X) (v:SV) (tc:TC) (H:ag):R1:=match v with
 |.str s=>Yd lo s (Gk hi tc (jz s) (jz s)) tc H
 |_=>none
noncomputable def Ko (lo hi:Option X) (x:X) (tc:TC) (H:ag):R1:=Yf lo hi (en x tc) tc H
noncomputable def VH (n z:Nat) (v i:SV) (H:ag):R1:=match v with
 |.ptr b o=>match i with
  |.int _ k=>match k with
   |.ofNat k=>match Nat.ble (k+1) n with
    |true=>qK (o+k*z) fun p=>some (.ptr b p,H)
    |false=>none
   |.negSucc _=>none
  |_=>none
 |_=>none
noncomputable def Kf (n z:Nat) (x i:X) (tc:TC) (H:ag):R1:=VH n z (en x tc) (en i tc) H
noncomputable def Kl (f:FuncId) (first captured:List X) (tc:TC) (H:ag):R1:=some (.func f (uZ first tc) (uZ captured tc),H)
noncomputable def EN (so:cJ):TC->ag->R1:=cJ.rec (motive:=fun _=>TC->ag->R1)
 yZ
 Kn
 (fun tc H=>evalOp (.bad) tc.flatten H)
 J7
 J'
 Kb
 Ka
 Kk
 Kp
 Km
 J9
 (fun neg agg L x y=>fun tc H=>evalOp (.hZ neg agg L x y) tc.flatten H)
 (fun neg kind x y=>fun tc H=>evalOp (.tu neg kind x y) tc.flatten H)
 Kq
 (fun k x=>fun tc H=>evalOp (.wF k x) tc.flatten H)
 (fun x=>fun tc H=>evalOp (.yX x) tc.flatten H)
 (fun elem x=>fun tc H=>evalOp (.Bk elem x) tc.flatten H)
 (fun x=>fun tc H=>evalOp (.yV x) tc.flatten H)
 (fun t x=>fun tc H=>evalOp (.Ac t x) tc.flatten H)
 Kl
 (fun tc H=>evalOp (.vG) tc.flatten H)
 (fun elem z bytes zero l c=>fun tc H=>evalOp (.vH elem z bytes zero l c) tc.flatten H)
 Ko
 (fun z lo hi mx x=>fun tc H=>evalOp (.lS z lo hi mx x) tc.flatten H)
 (fun n z lo hi x=>fun tc H=>evalOp (.Ax n z lo hi x) tc.flatten H)
 Kd
 Ke
 Kg
 Kf
 Kh
 (fun n agg z x i=>fun tc H=>evalOp (.xQ n agg z x i) tc.flatten H)
 (fun agg L zero ok m k=>fun tc H=>evalOp (.rG agg L zero ok m k) tc.flatten H)
 (fun agg L m k v=>fun tc H=>evalOp (.sP agg L m k v) tc.flatten H)
 Kc
 Kj
 Ki
 (fun x=>fun tc H=>evalOp (.z8 x) tc.flatten H)
 (fun n=>fun tc H=>evalOp (.z7 n) tc.flatten H)
 J8
 (fun isMax xs=>fun tc H=>evalOp (.vI isMax xs) tc.flatten H)
 (fun str z d s=>fun tc H=>evalOp (.yU str z d s) tc.flatten H)
 (fun t zero ok x=>fun tc H=>evalOp (.AG t zero ok x) tc.flatten H)
 (fun x=>fun tc H=>evalOp (.yw x) tc.flatten H)
 (fun elem p n=>fun tc H=>evalOp (.yx elem p n) tc.flatten H)
 (fun x=>fun tc H=>evalOp (.uW x) tc.flatten H)
 (fun kV x=>fun tc H=>evalOp (.uV kV x) tc.flatten H)
 (fun neg x y=>fun tc H=>evalOp (.tw neg x y) tc.flatten H)
 (fun x=>fun tc H=>evalOp (.Aq x) tc.flatten H)
 (fun x=>fun tc H=>evalOp (.rK x) tc.flatten H)
 (fun x=>fun tc H=>evalOp (.yW x) tc.flatten H)
 (fun x c=>fun tc H=>evalOp (.AY x c) tc.flatten H)
 (fun x c=>fun tc H=>evalOp (.AX x c) tc.flatten H)
 (fun x=>fun tc H=>evalOp (.yD x) tc.flatten H)
 (fun k a=>fun tc H=>evalOp (.D3 k a) tc.flatten H)
 (fun a x=>fun tc H=>evalOp (.D4 a x) tc.flatten H)
 (fun k a x y=>fun tc H=>evalOp (.D0 k a x y) tc.flatten H)
 (fun k a x=>fun tc H=>evalOp (.DZ k a x) tc.flatten H)
 (fun x=>fun tc H=>evalOp (.Bc x) tc.flatten H)
 (fun z zero x=>fun tc H=>evalOp (.wz z zero x) tc.flatten H)
 (fun elem z bytes zero s n=>fun tc H=>evalOp (.Ba elem z bytes zero s n) tc.flatten H)
 so
theorem Kz {tc:TC} (h:dU tc) (so:cJ) (H:ag):EN so tc H=evalOp so tc.flatten H:=by
 cases so with
 |mv x=>show yZ x tc H=_;simp only[yZ,evalOp,iy h]
 |pick c a b=>
  show Kn c a b tc H=_;simp only[Kn,evalOp,iy h];generalize c.ev tc.flatten=v;cases v with
  |bool b=>cases b<;>simp[WY,yZ,iy h]
  |_=>rfl
 |alloc zero elem=>
  show J7 zero elem tc H=_;simp only[J7,u7,evalOp,lu,uA _ _ _ _ (Nat.lt_succ_self _)];rfl
 |box elem x=>
  show J' elem x tc H=_;simp only[J',u7,evalOp,iy h,lu,uA _ _ _ _ (Nat.lt_succ_self _)];rfl
 |load agg n a=>
  show Kk agg n a tc H=_;simp only[Kk,evalOp,iy h];generalize a.ev tc.flatten=v;cases v with
  |ptr b o=>
   simp only[V',FE,eK];cases H.get b with
   |none=>rfl
   |some p=>
    cases p with
    |row cs e ex ro frz=>
     simp only[G5,R0];cases agg with
     |true=>
      simp only[Rn,rF,yq,wH];cases Nat.ble (o+n) cs.length<;>rfl
     |false=>
      simp only;cases n with
      |zero=>
       simp only[GO];cases Nat.ble (o+0) cs.length<;>simp
      |succ n=>
       cases n with
       |zero=>
        simp only[GO,GM];cases hx:cs[o]? with
        |none=>
         have hle:=List.getElem?_eq_none_iff.1 hx;have:Nat.ble (o+(0+1)) cs.length=false:=by rw[yM];exact decide_eq_false om
         rw[this];rfl
        |some v=>
         obtain⟨hlt,hv⟩:=List.getElem?_eq_some_iff.1 hx;have:Nat.ble (o+(0+1)) cs.length=true:=by rw[yM];exact decide_eq_true om
         rw[this,List.drop_eq_getElem_cons hlt,hv];rfl
       |succ n=>
        simp only[GO];cases hb:Nat.ble (o+(n+1+1)) cs.length with
        |false=>rfl
        |true=>
         have hle:=Nat.le_of_ble_eq_true hb;have h1:o<cs.length:=om;have h2:o+1<cs.length:=om;rw[List.drop_eq_getElem_cons h1,List.drop_eq_getElem_cons h2];rfl
    |_=>rfl
  |_=>rfl
 |store n a x=>
  show Kp n a x tc H=_;simp only[Kp,evalOp,iy h];generalize a.ev tc.flatten=v;cases v with
  |ptr b o=>simp only[Yw,Yv,Yu,rF];rfl
  |_=>rfl
 |jk x=>
  show Km x tc H=_;simp only[Km,evalOp,iy h];generalize x.ev tc.flatten=v;cases v<;>rfl
 |bin op x y=>
  show J9 op x y tc H=_;simp only[J9,evalOp,iy h,aaQ,uw];rfl
 |cC off x=>show Kd off x tc H=_;simp only[Kd,evalOp,iy h];rfl
 |wL agg n off x=>show Ke agg n off x tc H=_;simp only[Ke,evalOp,iy h];rfl
 |gj z x i=>
  show Kg z x i tc H=_;simp only[Kg,evalOp,iy h];generalize x.ev tc.flatten=v;cases v with
  |slice b o n c z'=>
   simp only[VJ];generalize i.ev tc.flatten=u;cases u with
   |int k m=>
    cases m with
    |negSucc m=>rfl
    |ofNat m=>
     simp only[VI,u7];have e:Nat.blt m n=Nat.ble (m+1) n:=rfl;rw[e];cases Nat.ble (m+1) n<;>cases Nat.beq z z'<;>rfl
   |_=>rfl
  |_=>rfl
 |jy x i=>
  show Kh x i tc H=_;simp only[Kh,evalOp,iy h];generalize x.ev tc.flatten=v;cases v with
  |str s=>
   simp only[VV];generalize i.ev tc.flatten=u;cases u with
   |int k m=>cases m<;>simp only[VS,VU,GM];rfl
   |_=>rfl
  |_=>rfl
 |ext i x=>
  show Kc i x tc H=_;simp only[Kc,evalOp,iy h];generalize x.ev tc.flatten=v;cases v<;>simp only[SU,GM,uw];rfl
 |lens x=>
  show Kj x tc H=_;simp only[Kj,evalOp,iy h];generalize x.ev tc.flatten=v;cases v<;>simp only[V4,X',u7,rF];rfl
 |un op x=>
  show Kq op x tc H=_;simp only[Kq,evalOp,iy h,alS,uw];rfl
 |build zero parts=>show Kb zero parts tc H=_;simp only[Kb,Ro,evalOp,ES h];rfl
 |hO elem z len zero parts=>
  show Ka elem z len zero parts tc H=_;simp only[Ka,Yc,evalOp,ES h,u7,lu,uA _ _ _ _ (Nat.lt_succ_self _)];rfl
 |yj lo hi x=>
  show Ko lo hi x tc H=_;simp only[Ko,evalOp,iy h];generalize x.ev tc.flatten=v;cases v<;>try rfl
  simp only[Yf,Yd,Ye,rF,yq,wH,afH h];rfl
 |xM n z x i=>
  show Kf n z x i tc H=_;simp only[Kf,evalOp,iy h];generalize x.ev tc.flatten=v;generalize i.ev tc.flatten=u;cases v<;>try rfl
  cases u<;>try rfl
  rename_i b o k m;cases m with
  |negSucc m=>rfl
  |ofNat m=>
   simp only[VH,u7];have e:Nat.blt m n=Nat.ble (m+1) n:=rfl;rw[e];cases Nat.ble (m+1) n<;>rfl
 |vF f first captured=>show Kl f first captured tc H=_;simp only[Kl,evalOp,EP h]
 |cA x=>show Ki x tc H=_;simp only[Ki,evalOp,iy h];rfl
 |app str elem z bytes s x=>show J8 str elem z bytes s x tc H=_;simp only[J8,evalOp,iy h,aaG]
 |_=>rfl
noncomputable def RT (call:cb) (v:SV) (args:List SV) (H:ag):R1:=match v with
 |.func f fs cs=>call f (fs++(args++cs)) H
 |_=>none
noncomputable def wJ (call:cb) (k:SK):TC->ag->R1:=match k with
 |.op so=>EN so
 |.call f xs=>fun tc H=>call f (uZ xs tc) H
 |.tj x xs=>fun tc H=>RT call (en x tc) (uZ xs tc) H
 |k=>fun tc H=>eu call k tc.flatten H
theorem SR (call:cb) {tc:TC} (h:dU tc) (k:SK) (H:ag):wJ call k tc H=eu call k tc.flatten H:=by
 cases k with
 |op so=>exact Kz h so H
 |call f xs=>simp only[wJ,eu,EP h]
 |tj x xs=>
  simp only[wJ,eu,EP h,iy h,RT];rfl
 |inv x cH xs=>rfl
abbrev R2:=Option (TC×ag)
def Jh (r:R2) (s:Option (T×ag)):Prop:=match r with
 |none=>s=none
 |some p=>s=some (p.1.flatten,p.2)/\dU p.1
noncomputable def nB (dst:Option Nat) (tc:TC) (v:SV):TC:=match dst with
 |none=>tc
 |some d=>Hx tc d v
noncomputable def EA (dst:Option Nat) (ih:TC->ag->R2) (tc:TC) (r:R1):R2:=match r with
 |some p=>ih (nB dst tc p.1) p.2
 |none=>none
noncomputable def Y2 (v:SV):Bool->Bool:=match v with
 |.bool b=>match b with
  |true=>fun w=>w
  |false=>fun w=>!w
 |_=>fun _=>false
noncomputable def E4 (g:Option (Nat×Bool)) (a b:TC->ag->R2):TC->ag->R2:=match g with
 |none=>a
 |some p=>fun tc H=>match Y2 (wN tc p.1) p.2 with
  |true=>a tc H
  |false=>b tc H
noncomputable def akL (call:cb) (o:aG) (ih:TC->ag->R2):TC->ag->R2:=match o with
 |⟨dst,k,g⟩=>E4 g (fun tc H=>EA dst ih tc (wJ call k tc H)) (fun tc H=>ih (nB dst tc .undef) H)
noncomputable def pM (call:cb):List aG->TC->ag->R2:=fun l=>List.rec (motive:=fun _=>TC->ag->R2) (fun tc H=>some (tc,H)) (fun o _ ih=>akL call o ih) l
theorem xZ {tc:TC} (h:dU tc) (dst:Option Nat) (v:SV):(nB dst tc v).flatten=c6 tc.flatten dst v/\dU (nB dst tc v):=by
 cases dst with
 |none=>exact⟨rfl,h⟩
 |some d=>exact akj h d v
theorem KA (call:cb):∀(l:List aG) (tc:TC) (H:ag),dU tc->Jh (pM call l tc H) (iP call l tc.flatten H)
 |[],tc,H,h=>⟨rfl,h⟩
 |⟨dst,k,g⟩::l,tc,H,h=>by
  have ih:=KA call l;have e:pM call (⟨dst,k,g⟩::l) tc H=E4 g (fun tc H=>EA dst (pM call l) tc (wJ call k tc H)) (fun tc H=>pM call l (nB dst tc .undef) H) tc H:=rfl;rw[e];have run:Jh (EA dst (pM call l) tc (wJ call k tc H)) (match eu call k tc.flatten H with|some (v,H')=>iP call l (c6 tc.flatten dst v) H'|none=>none):=by
   rw[SR call h];cases eu call k tc.flatten H with
   |none=>rfl
   |some p=>
    obtain⟨h1,h2⟩:=xZ h dst p.1;simp only[EA];rw[<-h1];exact ih _ _ h2
  have skip:Jh (pM call l (nB dst tc .undef) H) (iP call l (c6 tc.flatten dst .undef) H):=by
   obtain⟨h1,h2⟩:=xZ h dst .undef;rw[<-h1];exact ih _ _ h2
  cases g with
  |none=>
   simp only[E4,iP,bL];exact run
  |some p=>
   obtain⟨t,want⟩:=p;simp only[E4,iP,bL,Bs h];generalize tc.flatten.getD t SV.undef=v;cases v with
   |bool b=>
    cases b<;>cases want
    ·exact run
    ·exact skip
    ·exact skip
    ·exact run
   |_=>exact skip
abbrev R3:=Option (fa×TC×DS×ag)
def wk (r:R3) (s:Option (fa×T×DS×ag)):Prop:=match r with
 |none=>s=none
 |some p=>s=some (p.1,p.2.1.flatten,p.2.2)/\dU p.2.1
noncomputable def WD (D:DS) (r:R2):R3:=match r with
 |some p=>some (.normal,p.1,D,p.2)
 |none=>none
noncomputable def Oj (x:X) (xs:List X) (D:DS) (r:R2):R3:=match r with
 |some p=>match en x p.1 with
  |.func f fs cs=>some (.normal,p.1,(f,fs++(uZ xs p.1++cs))::D,p.2)
  |_=>none
 |none=>none
noncomputable def Dh (b:TC->DS->ag->R3) (r:R3):R3:=match r with
 |some p=>match p.1 with
  |.normal=>b p.2.1 p.2.2.1 p.2.2.2
  |_=>r
 |none=>none
noncomputable def Sk (v:SV) (a b:TC->DS->ag->R3):TC->DS->ag->R3:=match v with
 |.bool c=>match c with
  |true=>a
  |false=>b
 |_=>fun _ _ _=>none
noncomputable def JB (id:Nat) (r:R3):R3:=match r with
 |some p=>match p.1 with
  |.exit lM=>match Nat.beq lM id with
   |true=>some (.normal,p.2)
   |false=>some (.exit lM,p.2)
  |_=>r
 |none=>none
noncomputable def CX (body:TC->DS->ag->R3):Nat->TC->DS->ag->R3:=fun n=>Nat.rec (motive:=fun _=>TC->DS->ag->R3) (fun _ _ _=>none)
 (fun _ ih tc D H=>Dh ih (body tc D H)) n
theorem X4 {b:TC->DS->ag->R3} {b':T->DS->ag->Option (fa×T×DS×ag)} (hb:∀tc D H,dU tc->wk (b tc D H) (b' tc.flatten D H)) (r:R3) (s:Option (fa×T×DS×ag)):wk r s->wk (Dh b r) (match s with
 |some (.normal,aA,D',H')=>b' aA D' H'
 |r=>r):=by
 intro h;cases r with
 |none=>rw[show s=none from h];rfl
 |some p=>
  obtain⟨h1,h2⟩:=h;subst h1;obtain⟨e,t,d,k⟩:=p;cases e
  ·exact hb t d k h2
  ·exact⟨rfl,h2⟩
  ·exact⟨rfl,h2⟩
theorem Wa {body:TC->DS->ag->R3} {RF:T->DS->ag->Option (fa×T×DS×ag)} (hb:∀tc D H,dU tc->wk (body tc D H) (RF tc.flatten D H)):
 ∀(n:Nat) (tc:TC) (D:DS) (H:ag),dU tc->wk (CX body n tc D H) (rH RF n tc.flatten D H)
 |0,_,_,_,_=>rfl
 |n+1,tc,D,H,h=>by
  have e:CX body (n+1) tc D H=Dh (CX body n) (body tc D H):=rfl;rw[e,rH];exact X4 (Wa hb n) _ _ (hb tc D H h)
noncomputable def toC (l:List SV):TC:=Ar (jz l/8) l
theorem toC_eq (l:List SV):(toC l).flatten=l/\dU (toC l):=by
 obtain⟨h1,h2,_⟩:=Xv (l.length/8) l om om;unfold toC;rw[rF];exact⟨h1,h2⟩
noncomputable def ac7 (r:R1):Option SV:=match r with
 |some p=>some p.1
 |none=>none
noncomputable def ya (k:SK):TC->ag->Option SV:=match k with
 |.op so=>fun tc H=>ac7 (EN so tc H)
 |_=>fun _ _=>none
theorem GY {tc:TC} (h:dU tc) (k:SK) (H:ag):ya k tc H=gC k tc.flatten H:=by
 cases k with
 |op so=>
  simp only[ya,gC,Kz h];cases evalOp so tc.flatten H<;>rfl
 |_=>rfl
noncomputable def uK (g:Option (Nat×Bool)) (tc:TC):Bool:=match g with
 |none=>true
 |some p=>Y2 (wN tc p.1) p.2
theorem AP {tc:TC} (h:dU tc) (g:Option (Nat×Bool)):uK g tc=bL tc.flatten g:=by
 cases g with
 |none=>rfl
 |some p=>
  obtain⟨t,want⟩:=p;simp only[uK,bL,Bs h];generalize tc.flatten.getD t SV.undef=v;cases v with
  |bool b=>cases b<;>rfl
  |_=>rfl
noncomputable def KM (o:aG) (tc:TC) (r:Option SV):TC:=match r with
 |some v=>nB o.dst tc v
 |none=>tc
noncomputable def EX (o:aG) (dk:DK) (tc:TC) (H:ag):TC:=match dk with
 |.cg=>tc
 |_=>match uK o.guard tc with
  |true=>KM o tc (ya o.k tc H)
  |false=>nB o.dst tc .undef
theorem ac2 {tc:TC} (h:dU tc) (o:aG) (dk:DK) (H:ag):(EX o dk tc H).flatten=wM o dk tc.flatten H/\dU (EX o dk tc H):=by
 have key:(match uK o.guard tc with|true=>KM o tc (ya o.k tc H)|false=>nB o.dst tc .undef).flatten=(match bL tc.flatten o.guard with
  |true=>match gC o.k tc.flatten H with
   |some v=>c6 tc.flatten o.dst v
   |none=>tc.flatten
  |false=>c6 tc.flatten o.dst .undef)/\dU (match uK o.guard tc with|true=>KM o tc (ya o.k tc H)|false=>nB o.dst tc .undef):=by
  rw[AP h,GY h];cases bL tc.flatten o.guard with
  |false=>exact xZ h _ _
  |true=>
   cases gC o.k tc.flatten H with
   |none=>exact⟨rfl,h⟩
   |some v=>exact xZ h _ _
 cases dk with
 |cg=>exact⟨rfl,h⟩
 |_=>exact key
noncomputable def JU (v:SV) (r:Option (List SV×ag)):Option (List SV×ag):=match r with
 |some p=>some (v::p.1,p.2)
 |none=>none
noncomputable def US (ih:TC->ag->Option (List SV×ag)) (o:aG) (tc:TC) (r:R1):Option (List SV×ag):=match r with
 |some p=>JU p.1 (ih (nB o.dst tc p.1) p.2)
 |none=>none
noncomputable def UR (ih:TC->ag->Option (List SV×ag)) (o:aG) (tc:TC) (H:ag) (k:SK):Option (List SV×ag):=match k with
 |.op so=>US ih o tc (EN so tc H)
 |_=>none
noncomputable def Mx (ih:TC->ag->Option (List SV×ag)) (o:aG) (tc:TC) (H:ag) (dk:DK):Option (List SV×ag):=match dk with
 |.hoist _ _=>UR ih o tc H o.k
 |dk=>JU .undef (ih (EX o dk tc H) H)
noncomputable def Cl (ops:List (aG×DK)):TC->ag->Option (List SV×ag):=List.rec (motive:=fun _=>TC->ag->Option (List SV×ag)) (fun _ H=>some ([],H)) (fun p _ ih tc H=>Mx ih p.1 tc H p.2) ops
theorem Mz:∀(ops:List (aG×DK)) (tc:TC) (H:ag),dU tc->Cl ops tc H=fC ops tc.flatten H
 |[],_,_,_=>rfl
 |(o,dk)::ops,tc,H,h=>by
  have e:Cl ((o,dk)::ops) tc H=Mx (Cl ops) o tc H dk:=rfl;obtain⟨f1,f2⟩:=ac2 h o dk H;have other:JU .undef (Cl ops (EX o dk tc H) H)=match fC ops (wM o dk tc.flatten H) H with
   |some (vs,H')=>some (.undef::vs,H')
   |none=>none:=by
   rw[Mz ops _ _ f2,f1];cases fC ops _ H<;>rfl
  cases dk with
  |hoist lo hi=>
   have e2:fC ((o,.hoist lo hi)::ops) tc.flatten H=match o.k with
    |.op so=>match evalOp so tc.flatten H with
     |some (v,H')=>match fC ops (c6 tc.flatten o.dst v) H' with
      |some (vs,jB)=>some (v::vs,jB)
      |none=>none
     |none=>none
    |_=>none:=rfl
   rw[e,e2];simp only[Mx];cases o.k with
   |op so=>
    simp only[UR,Kz h];cases evalOp so tc.flatten H with
    |none=>rfl
    |some p=>
     obtain⟨g1,g2⟩:=xZ h o.dst p.1;simp only[US,Mz ops _ _ g2,g1];cases fC ops (c6 tc.flatten o.dst p.1) p.2<;>rfl
   |_=>rfl
  |_=>rw[e];exact other
abbrev R4:=Option (List TC×List SV×List ag×TC)
noncomputable def acj (tc:TC) (v:SV) (H:ag) (r:R4):R4:=match r with
 |some q=>some (tc::q.1,v::q.2.1,H::q.2.2.1,q.2.2.2)
 |none=>none
noncomputable def ai9 (tc:TC) (v:SV) (r:R4):R4:=match r with
 |some q=>some (tc::q.1,v::q.2.1,q.2.2)
 |none=>none
noncomputable def Kr (call:cb) (o:aG) (tc:TC) (H:ag):R1:=match uK o.guard tc with
 |true=>wJ call o.k tc H
 |false=>some (.undef,H)
noncomputable def Ks (ih:TC->ag->R4) (o:aG) (tc:TC) (H:ag) (r:R1):R4:=match r with
 |some p=>acj tc p.1 H (ih (nB o.dst tc p.1) p.2)
 |none=>none
noncomputable def xY (o:aG) (dk:DK) (hv:SV) (tc:TC) (H:ag):Option SV:=match uK o.guard tc with
 |true=>match dk with
  |.hoist _ _=>some hv
  |_=>ya o.k tc H
 |false=>some .undef
noncomputable def N' (ih:TC->ag->R4) (o:aG) (tc:TC) (H:ag) (r:Option SV):R4:=match r with
 |some v=>ai9 tc v (ih (nB o.dst tc v) H)
 |none=>none
noncomputable def AH (call:cb) (ih:TC->ag->R4) (o:aG) (dk:DK) (hv:SV) (tc:TC) (H:ag):R4:=match dk with
 |.cg=>Ks ih o tc H (Kr call o tc H)
 |dk=>N' ih o tc H (xY o dk hv tc H)
noncomputable def uH (call:cb) (ops:List (aG×DK)):List SV->TC->ag->R4:=List.rec (motive:=fun _=>List SV->TC->ag->R4) (fun _ tc H=>some ([],[],[H],tc))
 (fun p _ ih bx=>List.rec (motive:=fun _=>TC->ag->R4) (fun _ _=>none) (fun hv bx _=>AH call (ih bx) p.1 p.2 hv) bx) ops
def Ji (r:R4) (s:Option (List T×List SV×List ag×T)):Prop:=match r with
 |none=>s=none
 |some q=>s=some (q.1.map List.flatten,q.2.1,q.2.2.1,q.2.2.2.flatten)/\(∀t∈q.1,dU t)/\dU q.2.2.2
theorem OX (call:cb):∀(ops:List (aG×DK)) (bx:List SV) (tc:TC) (H:ag),dU tc->Ji (uH call ops bx tc H) (dS call ops bx tc.flatten H)
 |[],_,tc,H,h=>by refine⟨rfl,?_,h⟩;intro t ht;cases ht
 |_::_,[],_,_,_=>rfl
 |(o,dk)::ops,hv::bx,tc,H,h=>by
  have e:uH call ((o,dk)::ops) (hv::bx) tc H=AH call (uH call ops bx) o dk hv tc H:=rfl;rw[e];have pure':∀(r:Option SV),Ji (N' (uH call ops bx) o tc H r) (match r with
   |none=>none
   |some v=>match dS call ops bx (c6 tc.flatten o.dst v) H with
    |some (aM,vs,hs,tn)=>some (tc.flatten::aM,v::vs,hs,tn)
    |none=>none):=by
   intro r;cases r with
   |none=>rfl
   |some v=>
    obtain⟨g1,g2⟩:=xZ h o.dst v;have ih:=OX call ops bx _ H g2;rw[g1]at ih;simp only[N'];revert ih;cases uH call ops bx (nB o.dst tc v) H with
    |none=>intro ih;rw[show dS call ops bx (c6 tc.flatten o.dst v) H=none from ih];rfl
    |some q=>
     intro ih;rw[ih.1];refine⟨rfl,fun t ht=>?_,ih.2.2⟩;rcases List.mem_cons.1 ht with rfl|ht
     ·exact h
     ·exact ih.2.1 t ht
  cases dk with
  |cg=>
   have aci:∀r:R1,Ji (Ks (uH call ops bx) o tc H r) (match r with
    |none=>none
    |some (v,H')=>match dS call ops bx (c6 tc.flatten o.dst v) H' with
     |some (aM,vs,hs,tn)=>some (tc.flatten::aM,v::vs,H::hs,tn)
     |none=>none):=by
    intro r;cases r with
    |none=>rfl
    |some p=>
     obtain⟨g1,g2⟩:=xZ h o.dst p.1;have ih:=OX call ops bx _ p.2 g2;rw[g1]at ih;simp only[Ks];revert ih;cases uH call ops bx (nB o.dst tc p.1) p.2 with
     |none=>intro ih;rw[show dS call ops bx (c6 tc.flatten o.dst p.1) p.2=none from ih];rfl
     |some q=>
      intro ih;rw[ih.1];refine⟨rfl,fun t ht=>?_,ih.2.2⟩;rcases List.mem_cons.1 ht with rfl|ht
      ·exact h
      ·exact ih.2.1 t ht
   have e3:Kr call o tc H=(match bL tc.flatten o.guard with|true=>eu call o.k tc.flatten H|false=>some (SV.undef,H)):=by
    simp only[Kr,AP h,SR call h]
    try(cases bL tc.flatten o.guard<;>rfl)
   rw[dS];simp only[AH,e3];exact aci _
  |pure=>
   have e3:xY o .pure hv tc H=(match bL tc.flatten o.guard with|true=>gC o.k tc.flatten H|false=>some SV.undef):=by
    simp only[xY,AP h,GY h]
    try(cases bL tc.flatten o.guard<;>rfl)
   rw[dS]
   ·simp only[AH,e3];exact pure' _
   all_goals (intros;contradiction)
  |read lo hi=>
   have e3:xY o (.read lo hi) hv tc H=(match bL tc.flatten o.guard with|true=>gC o.k tc.flatten H|false=>some SV.undef):=by
    simp only[xY,AP h,GY h]
    try(cases bL tc.flatten o.guard<;>rfl)
   rw[dS]
   ·simp only[AH,e3];exact pure' _
   all_goals (intros;contradiction)
  |hoist lo hi=>
   have e3:xY o (.hoist lo hi) hv tc H=(match bL tc.flatten o.guard with|true=>some hv|false=>some SV.undef):=by
    simp only[xY,AP h]
    try(cases bL tc.flatten o.guard<;>rfl)
   rw[dS]
   ·simp only[AH,e3];exact pure' _
   all_goals (intros;contradiction)
noncomputable def wq (p:ag->Bool) (hs:List ag):Nat->Nat->Bool:=List.rec (motive:=fun _=>Nat->Nat->Bool) (fun _ _=>true)
 (fun h _ ih lo hi=>Nat.rec (motive:=fun _=>Bool) (Bool.rec (motive:=fun _=>Bool) false (Nat.rec (motive:=fun _=>Bool) true (fun k _=>ih 0 k) hi) (p h)) (fun l _=>Nat.rec (motive:=fun _=>Bool) true (fun k _=>ih l k) hi) lo) hs
theorem Jr (p:ag->Bool):∀(hs:List ag) (lo hi:Nat),wq p hs lo hi=fN p hs lo hi
 |[],_,_=>rfl
 |h::hs,0,0=>by
  have e:wq p (h::hs) 0 0=Bool.rec (motive:=fun _=>Bool) false true (p h):=rfl;rw[e,fN];cases p h<;>rfl
 |h::hs,0,hi+1=>by
  have e:wq p (h::hs) 0 (hi+1)=Bool.rec (motive:=fun _=>Bool) false (wq p hs 0 hi) (p h):=rfl;rw[e,fN,Jr p hs];cases p h<;>rfl
 |h::hs,lo+1,0=>rfl
 |h::hs,lo+1,hi+1=>by
  have e:wq p (h::hs) (lo+1) (hi+1)=wq p hs lo hi:=rfl;rw[e,fN,Jr p hs]
noncomputable def ake (v:SV) (r:Option SV):Bool:=match r with
 |some u=>bD u v
 |none=>false
noncomputable def bsR (elem:TypeId) (b:Nat) (lo hi:Nat) (tc:TC) (parts:List (Nat×Nat×X)) (hs:List ag) (r:Option (List SV)):Bool:=match r with
 |some cs=>fN (nD cs elem b) hs lo hi
 |none=>false
noncomputable def yd (hs:List ag) (o:aG) (dk:DK) (tc:TC) (v:SV):Bool:=match dk with
 |.read lo hi=>wq (fun H=>ake v (ya o.k tc H)) hs lo hi
 |.hoist lo hi=>match o.k,v with
  |.op (.alloc zero elem),.ptr b 0=>fN (nD zero elem b) hs lo hi
  |.op (.hO elem _ _ zero parts),.slice b 0 _ _ _=>bsR elem b lo hi tc parts hs (zc parts tc zero)
  |_,_=>false
 |_=>true
noncomputable def El (a b:Bool):Bool:=match a with
 |true=>b
 |false=>false
noncomputable def KQ (g:Bool) (b:Bool):Bool:=match g with
 |true=>b
 |false=>true
noncomputable def G3 (hs:List ag) (ops:List (aG×DK)):List TC->List SV->Bool:=List.rec (motive:=fun _=>List TC->List SV->Bool) (fun _ _=>true)
 (fun p _ ih aM=>List.rec (motive:=fun _=>List SV->Bool) (fun _=>false) (fun t aM _ vs=>List.rec (motive:=fun _=>Bool) false (fun v vs _=>El (KQ (uK p.1.guard t) (yd hs p.1 p.2 t v)) (ih aM vs)) vs) aM) ops
theorem aji {t:TC} (ht:dU t) (hs:List ag) (o:aG) (dk:DK) (v:SV):yd hs o dk t v=(match dk with
        |.read lo hi=>fN (fun H=>match gC o.k t.flatten H with|some u=>bD u v|none=>false) hs lo hi
        |.hoist lo hi=>match o.k,v with
         |.op (.alloc zero elem),.ptr b 0=>fN (nD zero elem b) hs lo hi
         |.op (.hO elem _ _ zero parts),.slice b 0 _ _ _=>match eM t.flatten zero parts with
          |some cs=>fN (nD cs elem b) hs lo hi
          |none=>false
         |_,_=>false
        |_=>true):=by
 cases dk with
 |read lo hi=>
  simp only[yd,Jr];congr 1;funext H;rw[GY ht];cases gC o.k t.flatten H<;>rfl
 |hoist lo hi=>
  obtain⟨d,k,g⟩:=o;cases k with
  |op so=>
   cases so<;>try rfl
   ·cases v<;>try rfl
    rename_i b off;cases off<;>rfl
   ·cases v<;>try rfl
    rename_i b off n c z;cases off<;>try rfl
    simp only[yd,ES ht];cases eM t.flatten _ _<;>rfl
  |_=>rfl
 |_=>rfl
theorem Xi (hs:List ag):∀(ops:List (aG×DK)) (aM:List TC) (vs:List SV),(∀t∈aM,dU t)->G3 hs ops aM vs=ef hs ops (aM.map List.flatten) vs
 |[],_,_,_=>rfl
 |_::_,[],_,_=>rfl
 |_::_,_::_,[],_=>rfl
 |(o,dk)::ops,t::aM,v::vs,h=>by
  have e:G3 hs ((o,dk)::ops) (t::aM) (v::vs)=El (KQ (uK o.guard t) (yd hs o dk t v)) (G3 hs ops aM vs):=rfl;have ht:=h t (List.mem_cons_self ..);have e5:ef hs ((o,dk)::ops) (t.flatten::aM.map List.flatten) (v::vs)=((match bL t.flatten o.guard with|false=>true|true=>yd hs o dk t v)&&ef hs ops (aM.map List.flatten) vs):=by
   rw[aji ht];rfl
  rw[e,Xi hs ops aM vs fun x hx=>h x (List.mem_cons_of_mem _ hx),List.map_cons,e5,AP ht];cases bL t.flatten o.guard
  ·rfl
  ·simp only[KQ];cases yd hs o dk t v<;>rfl
noncomputable def Gt (d:Option ag) (hs:List ag):Option ag:=List.rec (motive:=fun _=>Option ag->Option ag) (fun d=>d) (fun h _ ih _=>ih (some h)) hs d
theorem V0:∀(hs:List ag) (d:Option ag),Gt d hs=match hs.getLast? with|some h=>some h|none=>d
 |[],d=>by cases d<;>rfl
 |h::hs,d=>by
  have e:Gt d (h::hs)=Gt (some h) hs:=rfl;rw[e,V0 hs,List.getLast?_cons];cases hs.getLast?<;>rfl
noncomputable def acn (D:DS) (tn:TC) (r:Option ag):Option (fa×TC×DS×ag):=match r with
 |some Hn=>some (.normal,tn,D,Hn)
 |none=>none
noncomputable def R7 (ops:List (aG×DK)) (swap:Bool) (D:DS) (r:R4):Option (fa×TC×DS×ag):=match r with
 |some q=>match El (G3 q.2.2.1 ops q.1 q.2.1) (!swap||uG ops (q.1.map List.flatten))with
  |true=>acn D q.2.2.2 (Gt none q.2.2.1)
  |false=>none
 |none=>none
noncomputable def Sx (call:cb) (ops:List (aG×DK)) (swap:Bool) (D:DS) (tc:TC) (r:Option (List SV×ag)):Option (fa×TC×DS×ag):=match r with
 |some p=>R7 ops swap D (uH call ops p.1 tc p.2)
 |none=>none
noncomputable def J5 (call:cb) (ops:List (aG×DK)) (swap:Bool) (tc:TC) (D:DS) (H:ag):Option (fa×TC×DS×ag):=Sx call ops swap D tc (Cl ops tc H)
theorem acg (call:cb) (ops:List (aG×DK)) (swap:Bool) {tc:TC} (h:dU tc) (D:DS) (H:ag):wk (J5 call ops swap tc D H) (match uY call ops swap tc.flatten H with
 |some (aA,H')=>some (.normal,aA,D,H')
 |none=>none):=by
 unfold J5 uY;rw[Mz ops tc H h];cases fC ops tc.flatten H with
 |none=>rfl
 |some p=>
  simp only[Sx];have ht:=OX call ops p.1 tc p.2 h;revert ht;cases uH call ops p.1 tc p.2 with
  |none=>intro ht;rw[show dS call ops p.1 tc.flatten p.2=none from ht];rfl
  |some q=>
   intro ht;obtain⟨h1,h2,h3⟩:=ht;rw[h1];simp only[R7,Xi _ ops q.1 q.2.1 h2];cases ef q.2.2.1 ops (q.1.map List.flatten) q.2.1 with
   |false=>rfl
   |true=>
    simp only[El,Bool.true_and];cases(!swap||uG ops (q.1.map List.flatten))with
    |false=>rfl
    |true=>
     simp only[V0];cases q.2.2.1.getLast? with
     |none=>rfl
     |some Hn=>exact⟨rfl,h3⟩
noncomputable def l7 (call:cb) (lf:Nat) (c:er):TC->DS->ag->R3:=
 er.rec (motive:=fun _=>TC->DS->ag->R3)
  (fun tc D H=>some (.normal,tc,D,H))
  (fun ops tc D H=>WD D (pM call ops tc H))
  (fun ops swap tc D H=>J5 call ops swap tc D H)
  (fun _ _ Ng Nh tc D H=>Dh Nh (Ng tc D H))
  (fun x _ _ Ng Nh tc=>Sk (en x tc) Ng Nh tc)
  (fun id _ ih tc D H=>JB id (ih tc D H))
  (fun _ ih=>CX ih lf)
  (fun id tc D H=>some (.exit id,tc,D,H))
  (fun tc D H=>some (.ret,tc,D,H))
  (fun _ _ _=>none)
  (fun ops x xs tc D H=>Oj x xs D (pM call ops tc H))
  c
theorem wI (call:cb) (lf:Nat):∀(c:er) (tc:TC) (D:DS) (H:ag),dU tc->wk (l7 call lf c tc D H) (cO call lf c tc.flatten D H)
 |.skip,tc,D,H,h=>⟨rfl,h⟩
 |.bJ ops,tc,D,H,h=>by
  have e:l7 call lf (.bJ ops) tc D H=WD D (pM call ops tc H):=rfl;have hs:=KA call ops tc H h;rw[e,cO];revert hs;cases pM call ops tc H with
  |none=>intro hs;rw[show iP call ops tc.flatten H=none from hs];rfl
  |some p=>intro hs;rw[hs.1];exact⟨rfl,hs.2⟩
 |.hX ops swap,tc,D,H,h=>acg call ops swap h D H
 |.seq a b,tc,D,H,h=>by
  have e:l7 call lf (.seq a b) tc D H=Dh (l7 call lf b) (l7 call lf a tc D H):=rfl;rw[e,cO];exact X4 (wI call lf b) _ _ (wI call lf a tc D H h)
 |.cond c a b,tc,D,H,h=>by
  have e:l7 call lf (.cond c a b) tc D H=Sk (en c tc) (l7 call lf a) (l7 call lf b) tc D H:=rfl;rw[e,iy h,cO];generalize c.ev tc.flatten=v;cases v with
  |bool k=>
   cases k
   ·exact wI call lf b tc D H h
   ·exact wI call lf a tc D H h
  |_=>rfl
 |.block id b,tc,D,H,h=>by
  have e:l7 call lf (.block id b) tc D H=JB id (l7 call lf b tc D H):=rfl;have hs:=wI call lf b tc D H h;rw[e,cO];revert hs;cases l7 call lf b tc D H with
  |none=>intro hs;rw[show cO call lf b tc.flatten D H=none from hs];rfl
  |some p=>
   intro hs;rw[hs.1];obtain⟨x,t,d,k⟩:=p;cases x with
   |normal=>exact⟨rfl,hs.2⟩
   |ret=>exact⟨rfl,hs.2⟩
   |exit i=>
    simp only[JB];cases Nat.beq i id
    ·exact⟨rfl,hs.2⟩
    ·exact⟨rfl,hs.2⟩
 |.loop b,tc,D,H,h=>by
  have e:l7 call lf (.loop b) tc D H=CX (l7 call lf b) lf tc D H:=rfl;rw[e,cO];exact Wa (wI call lf b) lf tc D H h
 |.exit id,tc,D,H,h=>⟨rfl,h⟩
 |.ret,tc,D,H,h=>⟨rfl,h⟩
 |.bad,tc,D,H,h=>rfl
 |.vQ ops x xs,tc,D,H,h=>by
  have e:l7 call lf (.vQ ops x xs) tc D H=Oj x xs D (pM call ops tc H):=rfl;have hs:=KA call ops tc H h;rw[e,cO];revert hs;cases pM call ops tc H with
  |none=>intro hs;rw[show iP call ops tc.flatten H=none from hs];rfl
  |some p=>
   intro hs;rw[hs.1];simp only[Oj,iy hs.2,EP hs.2];generalize x.ev p.1.flatten=v;cases v<;>first|rfl|exact⟨rfl,hs.2⟩
noncomputable def O7 (n:Nat):List SV:=Nat.rec (motive:=fun _=>List SV) [] (fun _ ih=>SV.undef::ih) n
theorem YZ (n:Nat):O7 n=List.replicate n SV.undef:=by
 induction n with
 |zero=>rfl
 |succ n ih=>exact congrArg (SV.undef:: ·) ih
noncomputable def Yq (args:List SV) (n:Nat):TC:=toC (qA args (O7 (n-jz args)))
noncomputable def aaz (agg:Bool) (r:Option (List SV)):Option SV:=match r with
 |some cs=>match agg with
  |true=>some (.agg cs)
  |false=>match cs with
   |[v]=>some v
   |_=>none
 |none=>none
noncomputable def RZ (agg:Bool) (n:Nat) (v:SV) (H:ag):Option SV:=match v with
 |.ptr b o=>aaz agg (CV H b o n)
 |_=>none
noncomputable def Db (r:hJ) (tc:TC) (H:ag):Option SV:=match r with
 |.tmp t=>some (wN tc t)
 |.cell t agg n=>RZ agg n (wN tc t) H
theorem ajo {tc:TC} (h:dU tc) (r:hJ) (H:ag):Db r tc H=iI tc.flatten H r:=by
 cases r with
 |tmp t=>simp only[Db,iI,Bs h]
 |cell t agg n=>
  simp only[Db,iI,Bs h];generalize tc.flatten.getD t SV.undef=v;cases v<;>try rfl
  simp only[RZ,NF];rfl
noncomputable def abY (x:SV) (r:Option (List SV)):Option (List SV):=match r with
 |some l=>some (x::l)
 |none=>none
noncomputable def JA (x:Option SV) (r:Option (List SV)):Option (List SV):=match x with
 |some x=>abY x r
 |none=>none
noncomputable def Da (rs:List hJ) (tc:TC) (H:ag):Option (List SV):=List.rec (motive:=fun _=>Option (List SV)) (some []) (fun r _ ih=>JA (Db r tc H) ih) rs
theorem Xm {tc:TC} (h:dU tc) (H:ag):∀rs:List hJ,Da rs tc H=cj (iI tc.flatten H) rs
 |[]=>rfl
 |r::rs=>by
  have e:Da (r::rs) tc H=JA (Db r tc H) (Da rs tc H):=rfl;rw[e,Xm h H rs,ajo h,cj];cases iI tc.flatten H r<;>try rfl
  simp only[JA];cases cj (iI tc.flatten H) rs<;>rfl
noncomputable def YV (r:Option (List SV)) (H:ag):R1:=match r with
 |some l=>match l with
  |[]=>some (.aJ [],H)
  |x::l=>match l with
   |[]=>some (x,H)
   |y::l=>some (.aJ (x::y::l),H)
 |none=>none
theorem alR {tc:TC} (h:dU tc) (rs:List hJ) (H:ag) (cd:FuncId->List SV->ag->Option ag):YV (Da rs tc H) H=pw cd rs tc.flatten [] H:=by
 rw[Xm h];simp only[pw,lQ];cases cj (iI tc.flatten H) rs with
 |none=>rfl
 |some l=>
  match l with
  |[]=>rfl
  |[x]=>rfl
  |x::y::l=>rfl
noncomputable def SD (cH:FuncId->Option dM) (call:cb) (lf:Nat) (rs:List hJ) (tc:TC) (D:DS) (H:ag):R1:=match D with
 |[]=>YV (Da rs tc H) H
 |p::D=>pw (wx cH call lf) rs tc.flatten (p::D) H
theorem ack {tc:TC} (h:dU tc) (cH:FuncId->Option dM) (call:cb) (lf:Nat) (rs:List hJ) (D:DS) (H:ag):SD cH call lf rs tc D H=pw (wx cH call lf) rs tc.flatten D H:=by
 cases D with
 |nil=>exact alR h rs H _
 |cons p D=>rfl
noncomputable def acm (cH:FuncId->Option dM) (call:cb) (lf:Nat) (rs:List hJ) (r:R3):R1:=match r with
 |some p=>match p.1 with
  |.exit _=>none
  |_=>SD cH call lf rs p.2.1 p.2.2.1 p.2.2.2
 |none=>none
noncomputable def KN (cH:FuncId->Option dM) (call:cb) (lf:Nat) (o:Option dM) (args:List SV) (H:ag):R1:=match o with
 |some s=>match s with
  |.native g=>g args H
  |.code sf=>acm cH call lf sf.results (l7 call lf sf.body (Yq args sf.ntmps) [] H)
  |.qF _=>none
 |none=>none
noncomputable def Ev (cH:FuncId->Option dM) (lf:Nat):Nat->cb:=fun n=>Nat.rec (motive:=fun _=>cb) (fun _ _ _=>none) (fun _ ih f args H=>KN cH ih lf (cH f) args H) n
theorem yN (cH:FuncId->Option dM) (lf:Nat):∀(n:Nat),Ev cH lf n=aj cH lf n
 |0=>rfl
 |n+1=>by
  funext f args H;have e:Ev cH lf (n+1) f args H=KN cH (Ev cH lf n) lf (cH f) args H:=rfl;rw[e,yN cH lf n];simp only[aj];cases cH f with
  |none=>rfl
  |some s=>
   cases s with
   |native g=>rfl
   |qF g=>rfl
   |code sf=>
    obtain⟨h1,h2⟩:=toC_eq (qA args (O7 (sf.ntmps-jz args)));have hs:=wI (aj cH lf n) lf sf.body _ [] H h2;rw[h1,A',YZ,rF]at hs;simp only[KN,Yq,A',YZ,rF];revert hs;cases l7 (aj cH lf n) lf sf.body (toC (args++List.replicate (sf.ntmps-args.length) SV.undef)) [] H with
    |none=>intro hs;rw[show cO _ _ _ _ _ _=none from hs];rfl
    |some p=>
     intro hs;rw[hs.1];obtain⟨x,t,d,k⟩:=p;cases x<;>first|rfl|exact ack hs.2 _ _ _ _ _ _
noncomputable def Dt (t:Tr dM) (f:FuncId):Option dM:=KO t (lu f)
theorem alk (t:Tr dM):Dt t=fun f=>t.get f:=by
 funext f;exact EZ _ _ _ (Nat.lt_succ_self _)
noncomputable def uI (l:List (Nat×dM)):Tr dM:=List.rec (motive:=fun _=>Tr dM) .leaf (fun p _ ih=>rR (lu p.1) ih p.2) l
end
section
section
variable {call:cb} {lf:Nat} {ops os:List aG} {ts aA:T} {H H':ag} {D:DS} {d n:Nat} {v:SV} {s:cJ} {a b c:er} {Q:T->ag->Prop} {R:fa->T->DS->ag->Prop}
def EO (call:cb) (ops:List aG) (ts:T) (H:ag) (Q:T->ag->Prop):Prop:=∃aA H',iP call ops ts H=some (aA,H')/\Q aA H'
def EC (call:cb) (lf:Nat) (c:er) (ts:T) (D:DS) (H:ag) (R:fa->T->DS->ag->Prop):Prop:=∃x aA D' H',cO call lf c ts D H=some (x,aA,D',H')/\R x aA D' H'
theorem D9 (h:Q ts H):EO call [] ts H Q:=⟨ts,H,rfl,h⟩
theorem QT (hv:ts.getD n SV.undef=v) (hs:ts.set d v=aA) (h:EO call os aA H Q):EO call (oy d n::os) ts H Q:=by
 obtain⟨t2,H2,h1,h2⟩:=h;subst hv hs;exact⟨t2,H2,h1,h2⟩
theorem QU (he:evalOp s ts H=some (v,H')) (hs:ts.set d v=aA) (h:EO call os aA H' Q):EO call (ox d s::os) ts H Q:=by
 obtain⟨t2,H2,h1,h2⟩:=h;subst hs;refine⟨t2,H2,?_,h2⟩;simp only[iP,ox,bL,eu,he,c6,h1]
theorem Ea (he:evalOp s ts H=some (v,H')) (h:EO call os ts H' Q):EO call (⟨none,.op s,none⟩::os) ts H Q:=by
 obtain⟨t2,H2,h1,h2⟩:=h;refine⟨t2,H2,?_,h2⟩;simp only[iP,bL,eu,he,c6,h1]
theorem Zf {f:FuncId} {xs:List X} {args:List SV} (ha:fi ts xs=args) (he:call f args H=some (v,H')) (hs:ts.set d v=aA) (h:EO call os aA H' Q):EO call (⟨some d,.call f xs,none⟩::os) ts H Q:=by
 obtain⟨t2,H2,h1,h2⟩:=h;subst hs ha;refine⟨t2,H2,?_,h2⟩;simp only[iP,bL,eu,he,c6,h1]
theorem QS {o:Option Nat} {k:SK} {t:Nat} {w:Bool} (hg:ts.getD t SV.undef=.bool w) (h:EO call (⟨o,k,none⟩::os) ts H Q):EO call (⟨o,k,some (t,w)⟩::os) ts H Q:=by
 obtain⟨t2,H2,h1,h2⟩:=h;refine⟨t2,H2,?_,h2⟩;rw[<-h1];cases w<;>simp only[iP,bL,hg,Bool.not_false]
theorem QV {k:SK} {t:Nat} {w w':Bool} (hg:ts.getD t SV.undef=.bool w') (hw:w'=!w) (hs:ts.set d SV.undef=aA) (h:EO call os aA H Q):EO call (⟨some d,k,some (t,w)⟩::os) ts H Q:=by
 obtain⟨t2,H2,h1,h2⟩:=h;refine⟨t2,H2,?_,h2⟩;subst hs hw;cases w<;>simp only[iP,bL,hg,Bool.not_false,Bool.not_true,c6,h1]
def Av (call:cb) (lf:Nat) (b:er) (R:fa->T->DS->ag->Prop) (x:fa) (ts:T) (D:DS) (H:ag):Prop:=match x with
 |.normal=>EC call lf b ts D H R
 |x=>R x ts D H
theorem ly (h:EC call lf b ts D H R):Av call lf b R .normal ts D H:=h
theorem Hw (h:R .ret ts D H):Av call lf b R .ret ts D H:=h
theorem Hv {id:Nat} (h:R (.exit id) ts D H):Av call lf b R (.exit id) ts D H:=h
theorem mN (h:EC call lf a ts D H (Av call lf b R)):EC call lf (.seq a b) ts D H R:=by
 obtain⟨x,t,d,h1,h2,h3⟩:=h;cases x with
 |normal=>
  obtain⟨x',t',d',h',h4,h5⟩:=h3;exact⟨x',t',d',h',by simp only[cO,h2];exact h4,h5⟩
 |exit id=>exact⟨_,_,_,_,by simp only[cO,h2],h3⟩
 |ret=>exact⟨_,_,_,_,by simp only[cO,h2],h3⟩
theorem Ja (h:EO call ops ts H fun aA H'=>R .normal aA D H'):EC call lf (.bJ ops) ts D H R:=by
 obtain⟨t,h1,h2,h3⟩:=h;exact⟨_,_,_,_,by simp only[cO,h2],h3⟩
theorem s8 (h:R .normal ts D H):EC call lf .skip ts D H R:=⟨_,_,_,_,rfl,h⟩
theorem Jb (h:R .ret ts D H):EC call lf .ret ts D H R:=⟨_,_,_,_,rfl,h⟩
theorem D7 {id:Nat} (h:R (.exit id) ts D H):EC call lf (.exit id) ts D H R:=⟨_,_,_,_,rfl,h⟩
theorem D6 {x:X} {p:Bool} (hc:x.ev ts=.bool p) (h1:p=true->EC call lf a ts D H R) (h2:p=false->EC call lf b ts D H R):EC call lf (.cond x a b) ts D H R:=by
 cases p with
 |true=>
  obtain⟨x',t,d,h,h3,h4⟩:=h1 rfl;exact⟨x',t,d,h,by simp only[cO,hc];exact h3,h4⟩
 |false=>
  obtain⟨x',t,d,h,h3,h4⟩:=h2 rfl;exact⟨x',t,d,h,by simp only[cO,hc];exact h3,h4⟩
def te (id:Nat) (R:fa->T->DS->ag->Prop) (x:fa) (ts:T) (D:DS) (H:ag):Prop:=match x with
 |.exit lM=>match Nat.beq lM id with
  |true=>R .normal ts D H
  |false=>R (.exit lM) ts D H
 |x=>R x ts D H
theorem Et {id:Nat} (h:R .normal ts D H):te id R .normal ts D H:=h
theorem JC {id:Nat} (h:R .ret ts D H):te id R .ret ts D H:=h
theorem wv {id:Nat} (h:R .normal ts D H):te id R (.exit id) ts D H:=by
 simp only[te,Nat.beq_refl];exact h
theorem RE {id lM:Nat} (aP:Nat.beq lM id=false) (h:R (.exit lM) ts D H):te id R (.exit lM) ts D H:=by
 simp only[te,aP];exact h
theorem A1 {id:Nat} (h:EC call lf b ts D H (te id R)):EC call lf (.block id b) ts D H R:=by
 obtain⟨x,t,d,h1,h2,h3⟩:=h;cases x with
 |normal=>exact⟨_,_,_,_,by simp only[cO,h2],h3⟩
 |ret=>exact⟨_,_,_,_,by simp only[cO,h2],h3⟩
 |exit lM=>
  simp only[te]at h3;split at h3
  ·rename_i hb;exact⟨_,_,_,_,by simp only[cO,h2,hb],h3⟩
  ·rename_i hb;exact⟨_,_,_,_,by simp only[cO,h2,hb],h3⟩
def Aa (I:Nat->T->DS->ag->Prop) (m:Nat) (R:fa->T->DS->ag->Prop) (x:fa) (ts:T) (D:DS) (H:ag):Prop:=match x with
 |.normal=>∃m',m'<m/\I m' ts D H
 |x=>R x ts D H
theorem aT {I:Nat->T->DS->ag->Prop} {m:Nat} (m':Nat) (hm:m'<m) (h:I m' ts D H):Aa I m R .normal ts D H:=⟨m',hm,h⟩
theorem Wb {I:Nat->T->DS->ag->Prop} {m:Nat} (h:R .ret ts D H):Aa I m R .ret ts D H:=h
theorem xR {I:Nat->T->DS->ag->Prop} {m id:Nat} (h:R (.exit id) ts D H):Aa I m R (.exit id) ts D H:=h
theorem bH {I:Nat->T->DS->ag->Prop} (afv:∀m ts D H,I m ts D H->EC call lf b ts D H (Aa I m R))
 (m:Nat) (h0:I m ts D H) (hm:m<lf):EC call lf (.loop b) ts D H R:=by
 have key:∀(k m:Nat) (ts:T) (D:DS) (H:ag),m<k->I m ts D H->∃x aA D' H',rH (cO call lf b) k ts D H=some (x,aA,D',H')/\R x aA D' H':=by
  intro k
  induction k with
  |zero=>intro m ts D H h;omega
  |succ k ih=>
   intro m ts D H kK hI;obtain⟨x,t,d,h,h2,h3⟩:=afv m ts D H hI;cases x with
   |normal=>
    obtain⟨m',zC,hI'⟩:=h3;obtain⟨x',t',d',h',h4,h5⟩:=ih m' t d h om hI';exact⟨x',t',d',h',by simp only[rH,h2];exact h4,h5⟩
   |exit id=>exact⟨_,_,_,_,by simp only[rH,h2],h3⟩
   |ret=>exact⟨_,_,_,_,by simp only[rH,h2],h3⟩
 obtain⟨x,t,d,h,h1,h2⟩:=key lf m ts D H hm h0;exact⟨x,t,d,h,by simp only[cO];exact h1,h2⟩
theorem QH (hl:0<lf) (h:EC call lf b ts D H (Aa (fun _ _ _ _=>False) 0 R)):EC call lf (.loop b) ts D H R:=by
 refine bH (I:=fun m aA D' H'=>aA=ts/\D'=D/\H'=H) ?_ 0 ⟨rfl,rfl,rfl⟩ hl;rintro m aA D' H' ⟨rfl,rfl,rfl⟩;obtain⟨x,t,d,h',h1,h2⟩:=h;refine⟨x,t,d,h',h1,?_⟩;cases x with
 |normal=>obtain⟨_,_,hf⟩:=h2;exact hf.elim
 |exit id=>exact h2
 |ret=>exact h2
theorem FX:∀{dops:List (aG×DK)} {ts:T},(∀p∈dops,∀lo hi,p.2≠ .hoist lo hi)->fC dops ts H=some (dops.map fun _=>SV.undef,H)
 |[],_,_=>rfl
 |(o,dk)::os,ts,h=>by
  have h1:∀lo hi,dk≠ .hoist lo hi:=h (o,dk) (List.mem_cons_self ..);have ih:=fun ts=>FX (ts:=ts) fun p hp=>h p (List.mem_cons_of_mem _ hp)
  cases dk with
  |hoist lo hi=>exact absurd rfl (h1 lo hi)
  |_=>simp only[fC,ih,List.map_cons]
def EQ (dops:List (aG×DK)) (ts:T) (H:ag) (Q:T->Prop):Prop:=
 ∃aM vs tn,dS (fun _ _ _=>none) dops (dops.map fun _=>SV.undef) ts H=some (aM,vs,[H],tn)/\ef [H] dops aM vs=true/\Q tn
theorem YH {call:cb}:∀{dops:List (aG×DK)} {bx:List SV} {ts:T} {H:ag},(∀p∈dops,p.2≠ .cg)->dS call dops bx ts H=dS (fun _ _ _=>none) dops bx ts H
 |[],_,_,_,_=>rfl
 |_::_,[],_,_,_=>rfl
 |(o,dk)::os,hv::bx,ts,H,h=>by
  have h1:dk≠ .cg:=h (o,dk) (List.mem_cons_self ..);have ih:=fun ts=>YH (call:=call) (dops:=os) (bx:=bx) (ts:=ts) (H:=H) fun p hp=>h p (List.mem_cons_of_mem _ hp)
  cases dk with
  |cg=>exact absurd rfl h1
  |_=>simp only[dS,ih]
theorem QG {dops:List (aG×DK)} (hq:(dops.all fun p=>match p.2 with|.pure=>true|.read 0 0=>true|_=>false)=true) (h:EQ dops ts H fun aA=>R .normal aA D H):EC call lf (.hX dops false) ts D H R:=by
 obtain⟨aM,vs,tn,h1,h2,h3⟩:=h;rw[List.all_eq_true]at hq;have aP:∀p∈dops,p.2≠ .cg:=by
  intro p hp he;have:=hq p hp;rw[he]at this;cases this
 have Mo:∀p∈dops,∀lo hi,p.2≠ .hoist lo hi:=by
  intro p hp lo hi he;have:=hq p hp;rw[he]at this;cases this
 refine⟨.normal,tn,D,H,?_,h3⟩;simp only[cO,uY,FX Mo,YH aP,h1,h2];rfl
theorem QY {Q:T->Prop} (h:Q ts):EQ [] ts H Q:=⟨[],[],ts,rfl,rfl,h⟩
theorem QZ {dops:List (aG×DK)} {Q:T->Prop} (he:evalOp s ts H=some (v,H')) (hs:ts.set d v=aA) (h:EQ dops aA H Q):EQ ((⟨some d,.op s,none⟩,.pure)::dops) ts H Q:=by
 obtain⟨aM,vs,tn,h1,h2,h3⟩:=h;subst hs;refine⟨ts::aM,v::vs,tn,?_,?_,h3⟩
 ·simp only[List.map_cons,dS,bL,gC,he,c6,h1]
 ·simp only[ef,bL,h2,Bool.and_self]
theorem Eb {dops:List (aG×DK)} {Q:T->Prop} (he:evalOp s ts H=some (v,H')) (hb:bD v v=true) (hs:ts.set d v=aA) (h:EQ dops aA H Q):EQ ((⟨some d,.op s,none⟩,.read 0 0)::dops) ts H Q:=by
 obtain⟨aM,vs,tn,h1,h2,h3⟩:=h;subst hs;refine⟨ts::aM,v::vs,tn,?_,?_,h3⟩
 ·simp only[List.map_cons,dS,bL,gC,he,c6,h1]
 ·simp only[ef,bL,h2,fN,gC,he,hb,Bool.and_self]
theorem QX {dops:List (aG×DK)} {Q:T->Prop} {o:Option Nat} {k:SK} {t:Nat} {w:Bool} {dk:DK} (hg:ts.getD t SV.undef=.bool w) (h:EQ ((⟨o,k,none⟩,dk)::dops) ts H Q):EQ ((⟨o,k,some (t,w)⟩,dk)::dops) ts H Q:=by
 obtain⟨aM,vs,tn,h1,h2,h3⟩:=h;refine⟨aM,vs,tn,?_,?_,h3⟩
 ·rw[<-h1];simp only[List.map_cons];cases w<;>cases dk<;>simp only[dS,bL,hg,Bool.not_false]
 ·rw[<-h2];have e:∀t0,aM.head?=some t0->t0=ts:=by
   intro t0 ht;simp only[List.map_cons]at h1;cases dk<;>simp only[dS]at h1<;>(repeat' split at h1)<;>first
    |cases h1;done
    |(simp only[Option.some.injEq,Prod.mk.injEq]at h1
      obtain⟨h5,_⟩:=h1;rw[<-h5]at ht;simp only[List.head?_cons,Option.some.injEq]at ht;exact ht.symm)
  cases aM with
  |nil=>cases vs<;>rfl
  |cons t0 aM=>
   obtain rfl:=e t0 rfl;cases vs with
   |nil=>rfl
   |cons v vs=>cases w<;>simp only[ef,bL,hg,Bool.not_false]
theorem Zg {dops:List (aG×DK)} {Q:T->Prop} {k:SK} {t:Nat} {w w':Bool} {dk:DK} (hk:dk≠ .cg) (hg:ts.getD t SV.undef=.bool w') (hw:w'=!w) (hs:ts.set d SV.undef=aA) (h:EQ dops aA H Q):EQ ((⟨some d,k,some (t,w)⟩,dk)::dops) ts H Q:=by
 obtain⟨aM,vs,tn,h1,h2,h3⟩:=h;subst hs hw;refine⟨ts::aM,SV.undef::vs,tn,?_,?_,h3⟩
 ·cases dk with
  |cg=>exact absurd rfl hk
  |_=>cases w<;>simp only[List.map_cons,dS,bL,hg,Bool.not_false,Bool.not_true,c6,h1]
 ·cases w<;>simp only[ef,bL,hg,Bool.not_false,Bool.not_true,h2,Bool.and_self]
theorem Zh {dops:List (aG×DK)} {Q:T->Prop} {k:SK} {t:Nat} {w:Bool} {dk:DK} (hk:dk≠ .cg) (hg:ts.getD t SV.undef=SV.undef) (hs:ts.set d SV.undef=aA) (h:EQ dops aA H Q):EQ ((⟨some d,k,some (t,w)⟩,dk)::dops) ts H Q:=by
 obtain⟨aM,vs,tn,h1,h2,h3⟩:=h;have hw:bL ts (some (t,w))=false:=by
  unfold bL;dsimp only;rw[hg];rfl
 subst hs;refine⟨ts::aM,SV.undef::vs,tn,?_,?_,h3⟩
 ·cases dk with
  |cg=>exact absurd rfl hk
  |_=>simp only[List.map_cons,dS,hw,c6,h1]
 ·simp only[ef,hw,h2,Bool.and_self]
theorem QW {k:SK} {t:Nat} {w:Bool} (hg:ts.getD t SV.undef=SV.undef) (hs:ts.set d SV.undef=aA) (h:EO call os aA H Q):EO call (⟨some d,k,some (t,w)⟩::os) ts H Q:=by
 obtain⟨t2,H2,h1,h2⟩:=h;refine⟨t2,H2,?_,h2⟩;have hw:bL ts (some (t,w))=false:=by
  unfold bL;dsimp only;rw[hg];rfl
 subst hs;simp only[iP,hw,c6,h1]
def ED (call:cb) (dops:List (aG×DK)) (ts:T) (H:ag) (Q:List T->List SV->List ag->T->Prop):Prop:=
 ∃aM vs hs tn,dS call dops (dops.map fun _=>SV.undef) ts H=some (aM,vs,hs,tn)/\Q aM vs hs tn
theorem dG {dops:List (aG×DK)} {swap:Bool} (hq:(dops.all fun p=>match p.2 with|.hoist _ _=>false|_=>true)=true)
 (h:ED call dops ts H fun aM vs hs tn=>ef hs dops aM vs=true/\(swap=true->uG dops aM=true)/\∃Hn,hs.getLast?=some Hn/\R .normal tn D Hn):EC call lf (.hX dops swap) ts D H R:=by
 obtain⟨aM,vs,hs,tn,h1,h2,h3,Hn,h4,h5⟩:=h;rw[List.all_eq_true]at hq;have Mo:∀p∈dops,∀lo hi,p.2≠ .hoist lo hi:=by
  intro p hp lo hi he;have:=hq p hp;rw[he]at this;cases this
 refine⟨.normal,tn,D,Hn,?_,h5⟩;have h6:(ef hs dops aM vs&&(!swap||uG dops aM))=true:=by
  rw[h2];cases swap with
  |false=>rfl
  |true=>rw[h3 rfl];rfl
 simp only[cO,uY,FX Mo,h1,h6,h4]
theorem QM {Q:List T->List SV->List ag->T->Prop} (h:Q [] [] [H] ts):ED call [] ts H Q:=⟨[],[],[H],ts,rfl,h⟩
theorem QO {dops:List (aG×DK)} {Q:List T->List SV->List ag->T->Prop} (he:evalOp s ts H=some (v,H')) (hs:ts.set d v=aA) (h:ED call dops aA H fun aM vs hs tn=>Q (ts::aM) (v::vs) hs tn):ED call ((⟨some d,.op s,none⟩,.pure)::dops) ts H Q:=by
 obtain⟨aM,vs,cX,tn,h1,h2⟩:=h;subst hs;exact⟨ts::aM,v::vs,cX,tn,by simp only[List.map_cons,dS,bL,gC,he,c6,h1],h2⟩
theorem QQ {dops:List (aG×DK)} {lo hi:Nat} {Q:List T->List SV->List ag->T->Prop} (he:evalOp s ts H=some (v,H')) (hs:ts.set d v=aA) (h:ED call dops aA H fun aM vs hs tn=>Q (ts::aM) (v::vs) hs tn):ED call ((⟨some d,.op s,none⟩,.read lo hi)::dops) ts H Q:=by
 obtain⟨aM,vs,cX,tn,h1,h2⟩:=h;subst hs;exact⟨ts::aM,v::vs,cX,tn,by simp only[List.map_cons,dS,bL,gC,he,c6,h1],h2⟩
theorem QI {dops:List (aG×DK)} {Q:List T->List SV->List ag->T->Prop} (he:evalOp s ts H=some (v,H')) (hs:ts.set d v=aA) (h:ED call dops aA H' fun aM vs hs tn=>Q (ts::aM) (v::vs) (H::hs) tn):ED call ((⟨some d,.op s,none⟩,.cg)::dops) ts H Q:=by
 obtain⟨aM,vs,cX,tn,h1,h2⟩:=h;subst hs;exact⟨ts::aM,v::vs,H::cX,tn,by simp only[List.map_cons,dS,bL,eu,he,c6,h1],h2⟩
theorem QJ {dops:List (aG×DK)} {Q:List T->List SV->List ag->T->Prop} (he:evalOp s ts H=some (v,H')) (h:ED call dops ts H' fun aM vs hs tn=>Q (ts::aM) (v::vs) (H::hs) tn):ED call ((⟨none,.op s,none⟩,.cg)::dops) ts H Q:=by
 obtain⟨aM,vs,cX,tn,h1,h2⟩:=h;exact⟨ts::aM,v::vs,H::cX,tn,by simp only[List.map_cons,dS,bL,eu,he,c6,h1],h2⟩
theorem al5 {t:Nat} {w:Bool} (hg:ts.getD t SV.undef=.bool w):bL ts (some (t,w))=true:=by
 unfold bL;dsimp only;rw[hg];cases w<;>rfl
theorem DC {t:Nat} {w w':Bool} (hg:ts.getD t SV.undef=.bool w') (hw:w'=!w):bL ts (some (t,w))=false:=by
 unfold bL;dsimp only;rw[hg,hw];cases w<;>rfl
theorem DE {t:Nat} {w:Bool} (hg:ts.getD t SV.undef=SV.undef):bL ts (some (t,w))=false:=by
 unfold bL;dsimp only;rw[hg];rfl
theorem QK {dops:List (aG×DK)} {Q:List T->List SV->List ag->T->Prop} {o:Option Nat} {k:SK} {t:Nat} {w:Bool} {dk:DK} (hg:ts.getD t SV.undef=.bool w) (h:ED call ((⟨o,k,none⟩,dk)::dops) ts H Q):ED call ((⟨o,k,some (t,w)⟩,dk)::dops) ts H Q:=by
 obtain⟨aM,vs,cX,tn,h1,h2⟩:=h;refine⟨aM,vs,cX,tn,?_,h2⟩;rw[<-h1];have hw:=al5 hg;cases dk<;>simp only[List.map_cons,dS,hw]<;>rfl
theorem Jc {dops:List (aG×DK)} {Q:List T->List SV->List ag->T->Prop} {k:SK} {g:Option (Nat×Bool)} {dk:DK} (hk:dk≠ .cg) (hg:bL ts g=false) (hs:ts.set d SV.undef=aA) (h:ED call dops aA H fun aM vs hs tn=>Q (ts::aM) (SV.undef::vs) hs tn):ED call ((⟨some d,k,g⟩,dk)::dops) ts H Q:=by
 obtain⟨aM,vs,cX,tn,h1,h2⟩:=h;subst hs;refine⟨ts::aM,SV.undef::vs,cX,tn,?_,h2⟩;cases dk with
 |cg=>exact absurd rfl hk
 |_=>simp only[List.map_cons,dS,hg,c6,h1]
theorem D8 {dops:List (aG×DK)} {Q:List T->List SV->List ag->T->Prop} {k:SK} {g:Option (Nat×Bool)} (hg:bL ts g=false) (hs:ts.set d SV.undef=aA) (h:ED call dops aA H fun aM vs hs tn=>Q (ts::aM) (SV.undef::vs) (H::hs) tn):ED call ((⟨some d,k,g⟩,.cg)::dops) ts H Q:=by
 obtain⟨aM,vs,cX,tn,h1,h2⟩:=h;subst hs;exact⟨ts::aM,SV.undef::vs,H::cX,tn,by simp only[List.map_cons,dS,hg,c6,h1],h2⟩
def qL (rs:List hJ) (P:SV->ag->Prop) (x:fa) (ts:T) (D:DS) (H:ag):Prop:=match x with
 |.exit _=>False
 |_=>D=[]/\∃v,lQ rs ts H=some v/\P v H
theorem gQ {rs:List hJ} {P:SV->ag->Prop} (hr:lQ rs ts H=some v) (h:P v H):qL rs P .ret ts [] H:=⟨rfl,v,hr,h⟩
theorem cF {rs:List hJ} {P:SV->ag->Prop} (hr:lQ rs ts H=some v) (h:P v H):qL rs P .normal ts [] H:=⟨rfl,v,hr,h⟩
theorem Ew {cH:FuncId->Option dM} {f:FuncId} {sf:s9} {args:List SV} {P:SV->ag->Prop} (ht:cH f=some (.code sf)) (hs:args++List.replicate (sf.ntmps-args.length) SV.undef=ts)
 (h:EC (aj cH lf n) lf sf.body ts [] H (qL sf.results P)):∃v H',aj cH lf (n+1) f args H=some (v,H')/\P v H':=by
 subst hs;obtain⟨x,t,d,h1,h2,h3⟩:=h;cases x with
 |exit id=>exact h3.elim
 |normal=>
  obtain⟨rfl,v,h4,h5⟩:=h3;exact⟨v,h1,by simp only[aj,ht,h2,pw,h4],h5⟩
 |ret=>
  obtain⟨rfl,v,h4,h5⟩:=h3;exact⟨v,h1,by simp only[aj,ht,h2,pw,h4],h5⟩
end
attribute [irreducible] EO EC EQ ED Av te Aa qL
end
end Go.Sh
