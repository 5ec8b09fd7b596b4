/-
  The text of a policy is split into lines. No conditions beyond those that stand in the theorems.
-/
import Derived.Test.YtfgpklidnkdahaaGreatDoorShE5
import Derived.Test.YtfgpklidnkdahaaGreatDoorShE3
set_option linter.all false
set_option maxHeartbeats 20000000
set_option maxRecDepth 10000
namespace Go.Sh
section
section
variable {ts:T} {H:ag}
def Se (v c:SV):Option SV:=match v,c with
 |.str l,.int .u8 n=>some (.int .i64 (Int.ofNat (kW l (n.toNat%256))))
 |_,_=>none
theorem aiR (x c:X):evalOp (.AX x c) ts H=fp (Se (x.ev ts) (c.ev ts)) H:=by
 simp only[evalOp];generalize x.ev ts=v;generalize c.ev ts=w;cases v<;>first|rfl|(cases w<;>first|rfl|(rename_i k n;cases k<;>rfl))
theorem abK (l:List Nat):Se (.str l) (.int .u8 ((10:Nat):Int))=some (.int .i64 ((kW l 10:Nat):Int)):=rfl
end
attribute [go_sem] aiR abK
theorem R8 (a b:List Nat) (c:Nat):kW (a++b) c=kW a c+kW b c:=by
 induction a with
 |nil=>simp[kW]
 |cons x a ih=>
  simp only[List.cons_append,kW,ih];split<;>omega
theorem abJ {a:List Nat} {c:Nat} (h:c∉a):kW a c=0:=by
 induction a with
 |nil=>rfl
 |cons x a ih=>
  simp only[List.mem_cons,not_or]at h;have:Nat.beq x c=false:=beq_false (fun e=>h.1 e.symm);simp only[kW,this,ih h.2]
theorem Sa:∀{l:List (List Nat)},(∀x∈l,10∉x)->kW (cE l) 10=l.length
 |[],_=>rfl
 |x::l,h=>by
  have h1:=Sa (l:=l) fun y hy=>h y (List.mem_cons_of_mem _ hy)
  have e:cE (x::l)=x++([10]++cE l):=by simp[cE]
  rw[e,R8,R8,h1,abJ (h x (List.mem_cons_self ..)),List.length_cons];show 0+(1+l.length)=_;omega
theorem afV {l r:List Nat} (h:10∉l):dx [10] (l++10::r)=some l.length:=by
 induction l with
 |nil=>simp[dx,pre]
 |cons x l ih=>
  simp only[List.mem_cons,not_or]at h;have:Nat.beq 10 x=false:=beq_false h.1;simp only[List.cons_append,dx,pre,this,Bool.false_and,ih h.2];rfl
def oJ (ls:List (List Nat)) (k i:Nat):List SV:=(ls.take i++List.replicate (k+1-i) []).map SV.str
theorem akF (ls:List (List Nat)) (k:Nat):(List.replicate (k+1) [SV.str []]).flatten=oJ ls k 0:=by
 simp only[oJ,List.take_zero,List.nil_append,Nat.sub_zero]
 induction k+1 with
 |zero=>rfl
 |succ j ih=>rw[List.replicate_succ,List.flatten_cons,ih,List.replicate_succ,List.map_cons];rfl
theorem akE {ls:List (List Nat)} {k i:Nat} {l:List Nat} (hk:ls.length=k) (h:ls[i]? =some l):(oJ ls k i).set i (.str l)=oJ ls k (i+1):=by
 have hi:i<k:=by rw[<-hk];exact(List.getElem?_eq_some_iff.1 h).1
 have hl:(ls.take i).length=i:=by rw[List.length_take];omega
 have e:k+1-i=(k+1-(i+1))+1:=om;simp only[oJ];rw[vV h,e,List.replicate_succ,List.map_append,List.set_append_right _ _ (by rw[List.length_map,hl];exact Nat.le_refl _),List.length_map,hl,Nat.sub_self,List.map_append,List.map_append,List.append_assoc];rfl
theorem akD {ls:List (List Nat)} {k i:Nat} (hk:ls.length=k) (hi:i<=k):(oJ ls k i).length=k+1:=by
 simp only[oJ,List.length_map,List.length_append,List.length_take,List.length_replicate];omega
section
variable {lf n:Nat} {H:ag}
theorem ab2 {s:List Nat} (hn:1<=n):aj ak lf n 90 [.str s,.str [10]] H=some (iN (kW s 10),H):=by
 obtain⟨n,rfl⟩:=aN (n:=n);have key:∃w H',aj ak lf (n+1) 90 [.str s,.str [10]] H=some (w,H')/\w=iN (kW s 10)/\H'=H:=by
  have lF:([10]:List Nat).length=1:=rfl;have d0:decide (((1:Nat):Int)=((0:Nat):Int))=false:=by decide
  have d1:=J0;refine cx I4.1 ?_;refine af (An @lF @d0) ?_;refine ah ae ?_;refine af (An @lF @d1) ?_;refine ar ae ?_;refine af ae ?_;refine aO ae ?_;exact(⟨rfl,rfl⟩)
 obtain⟨w,H',h,rfl,rfl⟩:=key;exact h
theorem akH {ls:List (List Nat)} (hT:∀l∈ls,10∉l/\l.length<=60) (hk:ls.length<=13) (hn:3<=n) (aC:1000<lf):
 ∃v H',aj ak lf n 27 [.str (cE ls),.str [10]] H=some (v,H')/\Ext H H'/\RB H.next H' v 1 (bZ (ls++[[]])):=by
 obtain⟨n,rfl⟩:=aN (n:=n);obtain⟨k,eJ⟩:∃k,ls.length=k:=⟨_,rfl⟩;have fU:=Dz (l:=ls) (k:=60) fun x hx=>(hT x hx).2
 have fU:(cE ls).length<=793:=by
  have:=Nat.mul_le_mul_left 61 hk;omega
 have sC:kW (cE ls) 10=k:=by rw[Sa fun x hx=>(hT x hx).1,eJ]
 have hlen:k<=(cE ls).length:=by
  have:∀l:List (List Nat),l.length<=(cE l).length:=fun l=>by
   induction l with
   |nil=>exact Nat.zero_le _
   |cons x l ih=>
    have e:cE (x::l)=x++([10]++cE l):=by simp[cE]
    rw[e];simp only[List.length_cons,List.length_append,List.length_nil];omega
  rw[<-eJ];exact this ls
 obtain⟨n,rfl⟩:=aN (n:=n);obtain⟨H1,ay⟩:∃H1,H.push (.row (oJ ls k 0) 9 true false 0)=H1:=⟨_,rfl⟩;have aB:Ext H H1:=by rw[<-ay];exact(Ext.refl H).push _
 have ca:H1.next=H.next+1:=by rw[<-ay];rfl
 have bP:H1.get H.next=some (.row (oJ ls k 0) 9 true false 0):=by rw[<-ay];exact bd _
 obtain⟨v,hv⟩:∃v,SV.slice H.next 0 (k+1) (some (k+1)) 1=v:=⟨_,rfl⟩;have kK:CZ 9 1 16 [SV.str []] (.int .i64 ((k+1:Nat):Int)) (.int .i64 ((k+1:Nat):Int)) H=some (v,H1):=by
  rw[Wm (Nat.le_refl _) om om,akF ls k,hv,ay]
 have hsv:kq 1 none (some (.int .i64 ((k+1:Nat):Int))) v=some v:=by
  rw[<-hv,Dj om (by show((k+1:Nat):Int)<=((k+1:Nat):Int);omega)];simp[iX,beq_false]
 have o9:∀i:Nat,i<=k->kN 1 v (.int .i64 (i:Int))=some (.ptr H.next i):=fun i hi=>by
  rw[<-hv,qh om om,Nat.zero_add,Nat.mul_one];rfl
 have h53:∃w H',aj ak lf (n+1) 53 [.str (cE ls),.str [10],iN 0,.int .i64 (-1)] H=some (w,H')/\w=v/\Ext H H'/\RB H.next H' v 1 (bZ (ls++[[]])):=by
  have d0:decide ((-1:Int)=((0:Nat):Int))=false:=by decide
  have d1:decide ((-1:Int)<((0:Nat):Int))=true:=by decide
  have T3:=ab2 (lf:=lf) (n:=n) (H:=H) (s:=cE ls) om;rw[sC]at T3;have eW:((k:Nat):Int)+((1:Nat):Int)=((k+1:Nat):Int):=om;have ke:min (k+1) ((cE ls).length+1)=k+1:=om;have dX:((k+1:Nat):Int)-((1:Nat):Int)=((k:Nat):Int):=om;have lF:(((cE ls).length:Nat):Int)+((1:Nat):Int)=(((cE ls).length+1:Nat):Int):=om;have rz:ls.drop 0=ls:=rfl;refine cx IW.1 ?_;refine af @d0 ?_;refine ah ae ?_;refine af @yY ?_;refine ah ae ?_;refine af @d1 ?_;refine ar ae ?_;refine af ae ?_;refine ai ae T3 ?_;refine af @eW ?_;refine af (An @lF (An @ke (An @Wn (An @WT (An @kK @dX))))) ?_;refine bH (I:=fun m ts D Q=>D=[]/\∃i:Nat,m=k-i/\i<=k/\Q.get H.next=some (.row (oJ ls k i) 9 true false 0)/\Ext H Q/\H.next<Q.next/\∃z:Nat->SV,ts=((.str (cE (ls.drop i)))::(.str [10])::(.int .i64 ((0:Nat):Int))::(.int .i64 (k:Int))::zz z 4 5 ((v)::(.int .i64 (i:Int))::zz z 11 55 []):T)/\(True)) ?_ k ?_ om
  ·rintro m ts D Q ⟨rfl,i,rfl,hi,hg,hE,F5,⟨z,rfl, -⟩⟩;have Cc:=o9 i hi;have MH:=akD eJ hi;by_cases bw:i<k
   ·have d2:decide (((i:Nat):Int)<((k:Nat):Int))=true:=dt;obtain⟨l,hl⟩:∃l,ls[i]? =some l:=⟨_,List.getElem?_eq_getElem om⟩;have sG:=hT l (List.mem_of_getElem? hl);have jK:cE (ls.drop i)=l++10::cE (ls.drop (i+1)):=by
     obtain⟨hlt,he⟩:=List.getElem?_eq_some_iff.1 hl;rw[List.drop_eq_getElem_cons hlt,he];simp[cE]
    have bE:(cE (ls.drop i)).length<=793:=by
     have h1:=Dz (l:=ls.drop i) (k:=60) fun x hx=>(hT x (List.mem_of_mem_drop hx)).2
     have h2:(ls.drop i).length<=13:=by rw[List.length_drop];omega
     have:=Nat.mul_le_mul_left 61 h2;omega
    have dp:=Ni (lf:=lf) (n:=n) (H:=Q) (s:=cE (ls.drop i)) (t:=[10]) om om;rw[jK,afV sG.1]at dp;obtain⟨r,hr⟩:∃r,cE (ls.drop (i+1))=r:=⟨_,rfl⟩;rw[hr]at jK dp;obtain⟨s,hs⟩:∃s,l++10::r=s:=⟨_,rfl⟩;rw[hs]at dp jK;rw[jK];have dp:aj ak lf n 91 [.str s,.str [10]] Q=some (.int .i64 ((l.length:Nat):Int),Q):=dp;have ht1:s.take (l.length-0)=l:=by rw[Nat.sub_zero,<-hs,List.take_left]
    have Ve:s.length=l.length+1+r.length:=by rw[<-hs,List.length_append,List.length_cons];omega
    have ht2:(s.drop (l.length+1)).take (s.length-(l.length+1))=r:=by
     rw[<-hs,List.drop_append,List.drop_of_length_le om,List.nil_append,Nat.add_sub_cancel_left,List.drop_one,List.tail_cons,List.take_of_length_le (by rw[hs];omega)]
    have d3:decide (((l.length:Nat):Int)<((0:Nat):Int))=false:=df;have nk:((l.length:Nat):Int)+((0:Nat):Int)=((l.length:Nat):Int):=om;have aeH:((l.length:Nat):Int)+((1:Nat):Int)=((l.length+1:Nat):Int):=om;have aeI:([10]:List Nat).length=1:=rfl;have aD:=gY (v:=.str l) (o:=i) hg rfl om (Nat.zero_le _);rw[akE eJ hl]at aD;obtain⟨Q2,gH⟩:∃Q2,Q.put H.next (.row (oJ ls k (i+1)) 9 true false 0)=Q2:=⟨_,rfl⟩;rw[gH]at aD;have bB:Q2.get H.next=some (.row (oJ ls k (i+1)) 9 true false 0):=by rw[<-gH];exact bT _ _
    have aF:Ext H Q2:=by rw[<-gH];exact hE.put (Nat.le_refl _) _
    generalize l.length=ll at*;refine af @d2 ?_;refine ar ae ?_;refine af ae ?_;refine ai ae dp ?_;refine af @d3 ?_;refine ah ae ?_;refine af (An @nk (An @ht1 (An @Cc (An @aD (An @aeI (An @aeH @ht2)))))) ?_;refine aT (k-(i+1)) om ⟨rfl,i+1,rfl,by omega,bB,aF,by rw[<-gH];exact F5,?_⟩;rw[hr];exact aw
   ·obtain rfl:i=k:=om;have d2:decide (((i:Nat):Int)<((i:Nat):Int))=false:=by simp
    have hd0:cE (ls.drop i)=[]:=by rw[List.drop_of_length_le om];rfl
    rw[hd0];have aD:=gY (v:=.str []) (o:=i) hg rfl om (Nat.zero_le _);have fy:(oJ ls i i).set i (.str [])=(ls++[[]]).map SV.str:=by
     have hl:(ls.take i).length=i:=by rw[List.length_take];omega
     simp only[oJ];rw[show i+1-i=1 by omega,List.map_append,List.set_append_right _ _ (by rw[List.length_map,hl];exact Nat.le_refl _),List.length_map,hl,Nat.sub_self,List.take_of_length_le om,List.map_append];rfl
    rw[fy]at aD;obtain⟨Q2,gH⟩:∃Q2,Q.put H.next (.row ((ls++[[]]).map SV.str) 9 true false 0)=Q2:=⟨_,rfl⟩;rw[gH]at aD;have bB:Q2.get H.next=some (.row ((ls++[[]]).map SV.str) 9 true false 0):=by rw[<-gH];exact bT _ _
    have aF:Ext H Q2:=by rw[<-gH];exact hE.put (Nat.le_refl _) _
    have hR:RB H.next Q2 v 1 (bZ (ls++[[]])):=⟨sZ _,.inr ⟨H.next,some (i+1),9,true,false,0,by rw[kt,List.length_append,eJ,<-hv];rfl,(fun q h=>by cases h;rw[kt,List.length_append,eJ];rfl),Nat.le_refl _,by rw[<-gH];exact F5,by rw[vU];exact bB⟩⟩;refine af @d2 ?_;refine ah ae ?_;refine af (An @Cc (An @aD (An @eW @hsv))) ?_;refine aO ae ?_;exact(⟨rfl,aF,hR⟩)
  ·exact⟨rfl,0,rfl,Nat.zero_le _,bP,aB,by omega,aw⟩
 obtain⟨w,H',hj,rfl,hE,hR⟩:=h53;have hj:aj ak lf (n+1) 53 [.str (cE ls),.str [10],iN 0,.int .i64 (Int.negSucc 0)] H=some (w,H'):=hj;have key:∃w' Q,aj ak lf (n+1+1) 27 [.str (cE ls),.str [10]] H=some (w',Q)/\w'=w/\Q=H':=by
  refine cx IE.1 ?_;refine af ae ?_;refine ai ae hj ?_;refine af ae ?_;refine aO ae ?_;exact(⟨rfl,rfl⟩)
 obtain⟨w',Q,h,rfl,rfl⟩:=key;exact⟨_,_,h,hE,hR⟩
end
end
section
def iZ (s:List Nat):Nat:=(s.takeWhile fun c=>!isSp c).length
theorem Pf:∀{s:List Nat} {i c:Nat},i<=iZ s->s[i]? =some c->(isSp c=true->iZ s=i)/\(isSp c=false->i+1<=iZ s)
 |[],i,c,_,h=>by simp at h
 |x::s,0,c,_,h=>by
  have h:x=c:=by simpa using h
  subst h;unfold iZ;cases hx:isSp x with
  |true=>exact⟨fun _=>by simp[hx],fun h=>by cases h⟩
  |false=>exact⟨(fun h=>by cases h),fun _=>by simp[hx]⟩
 |x::s,i+1,c,hi,h=>by
  unfold iZ at hi ⊢;cases hx:isSp x with
  |true=>simp[hx]at hi
  |false=>
   simp only[List.takeWhile_cons,hx,Bool.not_false,if_true,List.length_cons]at hi ⊢;obtain⟨h1,h2⟩:=Pf (s:=s) (i:=i) (c:=c) (by unfold iZ;omega) (by simpa using h);unfold iZ at h1 h2;exact⟨fun h=>by rw[h1 h],fun h=>by have:=h2 h;omega⟩
theorem Pe (s:List Nat):iZ s<=s.length:=by
 unfold iZ
 induction s with
 |nil=>exact Nat.le_refl _
 |cons x s ih=>
  rw[List.takeWhile_cons];split
  ·simp only[List.length_cons];omega
  ·exact Nat.zero_le _
def ep (s:List Nat):List Nat:=(b9 isSp s).dropWhile isSp
def qg (s:List Nat):Int:=if iZ s=s.length then -1 else(iZ s:Int)
def fV (s:List Nat):List Nat×List Nat:=if iZ (ep s)=(ep s).length then(ep s,[])else((ep s).take (iZ (ep s)),ep ((ep s).drop (iZ (ep s))))
def Nb (s:List Nat):Prop:=∃a m b,(s=a::(m++[b])\/(s=[a]/\a=b))/\isSp a=false/\isSp b=false
theorem Nb.trim {s:List Nat} (h:Nb s):ep s=s:=by
 obtain⟨a,m,b,rfl|⟨rfl,rfl⟩,h1,h2⟩:=h
 ·unfold ep;rw[<-List.cons_append,vY _ h2,List.cons_append,List.dropWhile_cons,if_neg (by simp[h1])]
 ·unfold ep;have:b9 isSp [a]=[a]:=vY [] h2;rw[this,List.dropWhile_cons,if_neg (by simp[h1])]
theorem Nb.ne {s:List Nat} (h:Nb s):s≠[]:=by
 obtain⟨a,m,b,rfl|⟨rfl,rfl⟩,_⟩:=h<;>simp
theorem Nb.sp {s:List Nat} (h:Nb s):ep (32::s)=s:=by
 have e:b9 isSp (32::s)=32::s:=by
  obtain⟨a,m,b,rfl|⟨rfl,rfl⟩,h1,h2⟩:=h
  ·exact vY (32::a::m) h2
  ·exact vY [32] h2
 unfold ep;rw[e,List.dropWhile_cons,if_pos (show isSp 32=true from rfl)];obtain⟨a,m,b,rfl|⟨rfl,rfl⟩,h1,h2⟩:=h
 ·rw[List.dropWhile_cons,if_neg (by simp[h1])]
 ·rw[List.dropWhile_cons,if_neg (by simp[h1])]
def Wd (s:List Nat):Prop:=s≠[]/\∀c∈s,isSp c=false
theorem Wd.nb {s:List Nat} (h:Wd s):Nb s:=by
 obtain⟨h0,h1⟩:=h
 match s,h0 with
 |a::r,_=>
  rcases List.eq_nil_or_concat r with rfl|⟨m,b,e⟩
  ·exact⟨a,[],a,.inr ⟨rfl,rfl⟩,h1 a (by simp),h1 a (by simp)⟩
  ·rw[List.concat_eq_append]at e;subst e;exact⟨a,m,b,.inl rfl,h1 a (by simp),h1 b (by simp)⟩
theorem Nb.cat {s t:List Nat} (h:Nb s) (k:Nb t) (m:List Nat):Nb (s++(m++t)):=by
 obtain⟨a,m1,b,hs,h1,h2⟩:=h;obtain⟨c,m2,d,ht,k1,k2⟩:=k;have e1:∃x,s=a::x:=by rcases hs with rfl|⟨rfl,_⟩<;>exact⟨_,rfl⟩
 have e2:∃y,t=y++[d]:=by
  rcases ht with rfl|⟨rfl,rfl⟩
  ·exact⟨c::m2,rfl⟩
  ·exact⟨[],rfl⟩
 obtain⟨x,rfl⟩:=e1;obtain⟨y,rfl⟩:=e2;exact⟨a,x++(m++y),d,.inl (by simp),h1,k2⟩
theorem Y5 {w:List Nat} (h:∀c∈w,isSp c=false) (r:List Nat):iZ (w++32::r)=w.length/\iZ w=w.length:=by
 unfold iZ
 induction w with
 |nil=>exact⟨rfl,rfl⟩
 |cons x w ih=>
  have hx:=h x (List.mem_cons_self ..);obtain⟨h1,h2⟩:=ih fun c hc=>h c (List.mem_cons_of_mem _ hc)
  constructor
  ·rw[List.cons_append,List.takeWhile_cons,if_pos (by simp[hx]),List.length_cons,h1,List.length_cons]
  ·rw[List.takeWhile_cons,if_pos (by simp[hx]),List.length_cons,h2,List.length_cons]
theorem xU {w r:List Nat} (h:Wd w) (k:Nb r):fV (w++32::r)=(w,r):=by
 have ht:ep (w++32::r)=w++32::r:=(h.nb.cat k [32]).trim;have hw:=(Y5 h.2 r).1;unfold fV;rw[ht,hw,if_neg (by simp),List.take_left,List.drop_left,k.sp]
theorem ahd {w:List Nat} (h:Wd w):fV w=(w,[]):=by
 unfold fV;rw[h.nb.trim,(Y5 h.2 []).2,if_pos rfl]
theorem ace {s:List Nat} {i b:Nat} (h:s[i]? =some b) (hb:b<128):tp s i=(b,1):=by
 unfold tp;simp only[Nat.add_zero,List.getD_eq_getElem?_getD,h,Option.getD_some];rw[if_pos hb]
section
variable {ts:T} {H:ag}
def Xs (v:SV) (H:ag):Option (SV×ag):=match v with
 |.str s=>some (.ptr H.next 0,H.push (.ko s 0))
 |_=>none
@[go_sem] theorem aon (x:X):evalOp (.Aq x) ts H=Xs (x.ev ts) H:=rfl
@[go_sem] theorem aop (s:List Nat):Xs (.str s) H=some (.ptr H.next 0,H.push (.ko s 0)):=rfl
def Aj (v:SV) (H:ag):Option (SV×ag):=match v with
 |.ptr b 0=>match H.get b with
  |some (.ko s pos)=>match Nat.blt pos s.length with
   |true=>some (.aJ [.bool true,sint pos,.int .i32 (Int.ofNat (tp s pos).1)],H.put b (.ko s (pos+(tp s pos).2)))
   |false=>some (.aJ [.bool false],H)
  |_=>none
 |_=>none
@[go_sem] theorem aom (x:X):evalOp (.rK x) ts H=Aj (x.ev ts) H:=by
  unfold Aj;rfl
theorem ahi {b p r w:Nat} {s:List Nat} (h:H.get b=some (.ko s p)) (hp:p<s.length) (hd:tp s p=(r,w)):Aj (.ptr b 0) H=some (.aJ [.bool true,.int .i64 (p:Int),.int .i32 (r:Int)],H.put b (.ko s (p+w))):=by
 simp only[Aj,h,hd];rw[qB hp];rfl
theorem ahh {b p:Nat} {s:List Nat} (h:H.get b=some (.ko s p)) (hp:s.length<=p):Aj (.ptr b 0) H=some (.aJ [.bool false],H):=by
 simp only[Aj,h];rw[show Nat.blt p s.length=false from by
  cases e:Nat.blt p s.length with
  |false=>rfl
  |true=>rw[Nat.blt_eq]at e;omega]
end
theorem akZ:ak 166=some (.native (gk ei h0 166)):=by kernel_rfl
def xO (r:Nat):Int:=if r=32 then 0 else if r=9 then 1 else -1
theorem agk:(List.range 128).all (fun r=>px (gm 166 [.str [32,9],.int .i32 (Int.ofNat r)]) (.int .i64 (xO r)))=true:=by kernel_rfl
section
variable {lf n:Nat} {H:ag}
theorem afI {r:Nat} (hr:r<128) (hn:1<=n):aj ak lf n 166 [.str [32,9],.int .i32 (r:Int)] H=some (.int .i64 (xO r),H):=
 oB akZ rfl (fe agk (List.mem_range.2 hr)) hn H
theorem akr {k:Nat} (hn:1<=n):aj ak lf n 167 [.int .i64 (k:Int)] H=some (.bool (decide (8<k)),H):=by
 obtain⟨n,rfl⟩:=aN (n:=n);have key:∃v H',aj ak lf (n+1) 167 [.int .i64 (k:Int)] H=some (v,H')/\v=.bool (decide (8<k))/\H'=H:=by
  have d:decide ((k:Int)>((8:Nat):Int))=decide (8<k):=by
   congr 1;exact propext ⟨fun h=>by omega,fun h=>by omega⟩
  refine cx Is.1 ?_;refine af @d ?_;refine aO @d ?_;exact(⟨rfl,rfl⟩)
 obtain⟨v,H',h,rfl,rfl⟩:=key;exact h
theorem afL {s:List Nat} (hb:∀c∈s,c<128) (hlen:s.length<=900) (hn:3<=n) (aC:1000<lf):
 ∃H',aj ak lf n 92 [.str s,.str [32,9]] H=some (.int .i64 (qg s),H')/\Ext H H':=by
 obtain⟨n,rfl⟩:=aN (n:=n);have key:∃v H',aj ak lf (n+1) 92 [.str s,.str [32,9]] H=some (v,H')/\v=.int .i64 (qg s)/\Ext H H':=by
  have F9:=akr (lf:=lf) (n:=n) (H:=H) (k:=s.length) om;refine cx I5.1 ?_;refine af @yY ?_;refine ah ae ?_;refine af (An @J1 (An @J2 @J3)) ?_;refine ah ae ?_;by_cases dY:8<s.length
  ·rw[decide_eq_true dY]at F9;refine af ae ?_;refine ai ae F9 ?_;refine af ae ?_;refine ar ae ?_;obtain⟨H1,cK,hE⟩:=NH (lf:=lf) (n:=n) (H:=H) (l:=[32,9]) (by simp) om (by simp;omega) (by simp);refine af ae ?_;refine ai ae cK ?_;have fP:=uS [32,9];have bV:(fh [32,9]).all SV.one=true:=Er _;have jK:List.drop 256 (List.replicate 256 (SV.bool false))=[]:=by simp
   obtain⟨H2,aY⟩:∃H2,(H1.push (cz.row (List.replicate 256 (SV.bool false)) 241 true false 0)).put H1.next (cz.row (fh [32,9]) 241 true false 0)=H2:=⟨_,rfl⟩;have bB:H2.get H1.next=some (.row (fh [32,9]) 241 true false 0):=by rw[<-aY];exact bT _ _
   have aF:Ext H H2:=by rw[<-aY];exact(hE.push _).put hE.1 _
   refine af (An @fP (An @bV (An @jK (An @List.append_nil.{0} @aY)))) ?_
   refine ar ae ?_;refine af ae ?_;refine bH (I:=fun m ts D Q=>D=[]/\Q=H2/\∃i:Nat,m=s.length-i/\i<=s.length/\i<=iZ s/\∃z:Nat->SV,ts=((.str s)::zz z 1 5 ((.ptr H1.next 0)::z 7::(.int .i64 (i:Int))::zz z 9 46 []):T)/\(True)) ?_ s.length ?_ om
   ·rintro m ts D Q ⟨rfl,rfl,i,rfl,hi,hw,⟨z,rfl, -⟩⟩;by_cases hlt:i<s.length
    ·have d1:decide (((i:Nat):Int)<((s.length:Nat):Int))=true:=dt;obtain⟨c,hc⟩:∃c,s[i]? =some c:=⟨_,List.getElem?_eq_getElem hlt⟩;have oZ:=hb c (List.mem_of_getElem? hc);have zm:=JV (lf:=lf) (n:=n) (H:=Q) bB (k:=c) om om;obtain⟨w1,w2⟩:=Pf hw hc;have hcs:[32,9].contains c=isSp c:=rfl;rw[hcs]at zm;refine af @d1 ?_;refine ar ae ?_;refine af @hc ?_;refine ai ae zm ?_;cases hv:isSp c with
     |true=>
      have o9:qg s=(i:Int):=by unfold qg;rw[w1 hv,if_neg om]
      refine af ae ?_;refine ar ae ?_;refine af ae ?_;refine aO ae ?_;exact(⟨by rw[o9],aF⟩)
     |false=>
      refine af ae ?_;refine ah ae ?_;refine af (c8 (k:=i) om) ?_;refine aT (s.length-(i+1)) om ⟨rfl,rfl,i+1,rfl,by omega,w2 hv,aw⟩
    ·have gV:i=s.length:=om;subst gV;have d1:decide (((s.length:Nat):Int)<((s.length:Nat):Int))=false:=by simp
     have o9:qg s= -1:=by unfold qg;rw[if_pos (by have:=Pe s;omega)]
     refine af @d1 ?_;refine ah ae ?_;refine af ae ?_;refine aO ae ?_;exact(⟨by rw[o9];rfl,aF⟩)
   ·exact⟨rfl,rfl,0,rfl,by omega,Nat.zero_le _,aw⟩
  ·rw[decide_eq_false dY]at F9;refine af ae ?_;refine ai ae F9 ?_;refine af ae ?_;refine ah ae ?_;refine af ae ?_;refine bH (I:=fun m ts D Q=>D=[]/\Ext H Q/\∃i:Nat,m=s.length-i/\i<=s.length/\i<=iZ s/\H.next<Q.next/\Q.get H.next=some (.ko s i)/\∃z:Nat->SV,ts=(z 0::(.str [32,9])::zz z 2 43 ((.ptr H.next 0)::zz z 46 9 []):T)/\(True)) ?_ s.length ?_ om
   ·rintro m ts D Q ⟨rfl,hE,i,rfl,hi,hw,jw,hit,⟨z,rfl, -⟩⟩;by_cases hlt:i<s.length
    ·obtain⟨c,hc⟩:∃c,s[i]? =some c:=⟨_,List.getElem?_eq_getElem hlt⟩;have oZ:=hb c (List.mem_of_getElem? hc);obtain⟨w1,w2⟩:=Pf hw hc;have hm:=ahi hit hlt (ace hc oZ);obtain⟨H2,aY⟩:∃H2,Q.put H.next (.ko s (i+1))=H2:=⟨_,rfl⟩;have aF:Ext H H2:=by rw[<-aY];exact hE.put (Nat.le_refl _) _
     have bB:H2.get H.next=some (.ko s (i+1)):=by rw[<-aY];exact bT _ _
     have dc:H.next<H2.next:=by rw[<-aY];exact jw
     have FH:=afI (lf:=lf) (n:=n) (H:=H2) oZ om;cases hv:isSp c with
     |true=>
      have o9:qg s=(i:Int):=by unfold qg;rw[w1 hv,if_neg om]
      have d1:decide (xO c>=((0:Nat):Int))=true:=by
       have:c=32\/c=9:=by simpa[isSp]using hv
       rcases this with rfl|rfl<;>decide
      generalize xO c=q at FH d1;refine af (An @hm @aY) ?_;refine ar ae ?_;refine af ae ?_;refine ai ae FH ?_;refine af @d1 ?_;refine ar ae ?_;refine af ae ?_;refine aO ae ?_;exact(⟨by rw[o9],aF⟩)
     |false=>
      have d1:decide (xO c>=((0:Nat):Int))=false:=by
       have:c≠32/\c≠9:=by simpa[isSp]using hv
       unfold xO;rw[if_neg this.1,if_neg this.2];decide
      generalize xO c=q at FH d1;refine af (An @hm @aY) ?_;refine ar ae ?_;refine af ae ?_;refine ai ae FH ?_;refine af @d1 ?_;refine ah ae ?_;refine af ae ?_;refine aT (s.length-(i+1)) om ⟨rfl,aF,i+1,rfl,by omega,w2 hv,dc,bB,aw⟩
    ·have gV:i=s.length:=om;subst gV;have hm:=ahh hit om;have o9:qg s= -1:=by unfold qg;rw[if_pos (by have:=Pe s;omega)]
     refine af @hm ?_;refine ah ae ?_;refine af ae ?_;refine aO ae ?_;exact(⟨by rw[o9];rfl,hE⟩)
   ·refine⟨rfl,(Ext.refl _).push _,0,rfl,by omega,Nat.zero_le _,by rw[dZ];omega,bd _,?_⟩;exact aw
 obtain⟨v,H',h,rfl,hE⟩:=key;exact⟨H',h,hE⟩
theorem alN (s:List Nat):(ep s).length<=s.length:=by
 unfold ep;have h1:=AM isSp s;have h2:=(List.dropWhile_sublist (l:=b9 isSp s) isSp).length_le;omega
theorem alO {s:List Nat} {c:Nat} (h:c∈ep s):c∈s:=by
 have h1:=(List.dropWhile_sublist (l:=b9 isSp s) isSp).mem h;unfold b9 at h1;rw[List.mem_reverse]at h1;exact List.mem_reverse.1 ((List.dropWhile_sublist (l:=s.reverse) isSp).mem h1)
theorem vN {s:List Nat} (hb:∀c∈s,c<128) (hlen:s.length<=900) (hn:4<=n) (aC:1000<lf):
 ∃H',aj ak lf n 54 [.str s] H=some (.aJ [.str (fV s).1,.str (fV s).2],H')/\Ext H H':=by
 obtain⟨n,rfl⟩:=aN (n:=n);have rz:=alN s;obtain⟨H1,aV,aB⟩:=yu (lf:=lf) (n:=n) (H:=H) (s:=s) (fun c hc=>by have:=hb c hc;omega) om om om om;have aV:aj ak lf n 87 [.str s,.str [32,9]] H=some (.str (ep s),H1):=aV;have T1:∀c∈ep s,c<128:=fun c hc=>hb c (alO hc)
 obtain⟨H2,aH,aF⟩:=afL (lf:=lf) (n:=n) (H:=H1) (s:=ep s) T1 om om aC;have oh:=Pe (ep s);have key:∃v H',aj ak lf (n+1) 54 [.str s] H=some (v,H')/\v=.aJ [.str (fV s).1,.str (fV s).2]/\Ext H H':=by
  by_cases hw:iZ (ep s)=(ep s).length
  ·have o9:qg (ep s)= -1:=if_pos hw;rw[o9]at aH;have jw:fV s=(ep s,[]):=if_pos hw;have d1:decide ((-1:Int)<((0:Nat):Int))=true:=by decide
   refine cx IX.1 ?_;refine af ae ?_;refine ai ae aV ?_;refine af ae ?_;refine ai ae aH ?_;refine af @d1 ?_;refine ar ae ?_;refine af ae ?_;refine cD ae ?_;exact(⟨by rw[jw],aB.trans aF⟩)
  ·have o9:qg (ep s)=(iZ (ep s):Int):=if_neg hw;rw[o9]at aH;have jw:fV s=((ep s).take (iZ (ep s)),ep ((ep s).drop (iZ (ep s)))):=if_neg hw;generalize ep s=t at*;generalize iZ t=k at*;have d1:decide (((k:Nat):Int)<((0:Nat):Int))=false:=df;obtain⟨r,hr⟩:∃r,t.drop k=r:=⟨_,rfl⟩;have MH:r.length<=t.length:=by rw[<-hr,List.length_drop];omega
   obtain⟨H3,bf,aS⟩:=yu (lf:=lf) (n:=n) (H:=H2) (s:=r) (fun c hc=>by rw[<-hr]at hc;have:=T1 c (List.mem_of_mem_drop hc);omega) om om om om;have bf:aj ak lf n 87 [.str r,.str [32,9]] H2=some (.str (ep r),H3):=bf;have jK:(t.drop k).take (t.length-k)=r:=by rw[List.take_of_length_le (by rw[List.length_drop];omega),hr]
   rw[hr]at jw;refine cx IX.1 ?_;refine af ae ?_;refine ai ae aV ?_;refine af ae ?_;refine ai ae aH ?_;refine af @d1 ?_;refine ah ae ?_;refine af ae ?_;refine dG rfl ?_;refine af @jK ?_;refine dH (by exact aZ trivial) bf bW ?_;refine af ae ?_;refine dB ?_ ?_
   ·exact dh @jK
   ·refine af ae ?_;refine cD ae ?_;exact(⟨by rw[jw,Nat.sub_zero],aB.trans (aF.trans aS)⟩)
 obtain⟨v,H',h,rfl,hE⟩:=key;exact⟨H',h,hE⟩
end
end
end Go.Sh
