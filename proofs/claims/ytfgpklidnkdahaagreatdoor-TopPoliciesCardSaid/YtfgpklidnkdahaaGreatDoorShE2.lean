/-
  The reference: indices, tags and sources. No conditions beyond those that stand in the theorems.
-/
import Derived.Test.YtfgpklidnkdahaaGreatDoorShE0
import Derived.Test.YtfgpklidnkdahaaGreatDoorShD2
set_option linter.all false
set_option maxHeartbeats 20000000
set_option maxRecDepth 10000
namespace Go.Sh
section
section
variable {lf n:Nat} {H:ag}
theorem rN {s x:List Nat} {i:Nat} (hi:i<=s.length) (hs:s.length<100000) (hx:x.length<1000) (hn:1<=n):aj ak lf n 373 [.str s,iN i,.str x] H=some (.bool (pre x (s.drop i)),H):=by
 obtain⟨n,rfl⟩:=aN (n:=n);have d1:decide (((i:Nat):Int)>=((0:Nat):Int))=true:=dt;have d2:decide (((i:Nat):Int)<=((s.length:Nat):Int))=true:=dt;have sL:((s.length:Nat):Int)-((i:Nat):Int)=((s.length-i:Nat):Int):=om;have key:∃v H',aj ak lf (n+1) 373 [.str s,iN i,.str x] H=some (v,H')/\v=.bool (pre x (s.drop i))/\H'=H:=by
  by_cases hl:x.length<=s.length-i
  ·have d3:decide (((x.length:Nat):Int)<=((s.length-i:Nat):Int))=true:=dt;have hp:=N6 (a:=x) (s:=s.drop i) (by rw[List.length_drop];exact hl);have e1:i+x.length-i=x.length:=om;have hk:((i:Nat):Int)+((x.length:Nat):Int)=((i+x.length:Nat):Int):=om;refine cx IU.1 ?_;refine af (An @d1 (An @d2 (An @sL (An @d3 (An @hk (An @e1 @hp)))))) ?_;refine aO ae ?_;exact(⟨rfl,rfl⟩)
  ·have d3:decide (((x.length:Nat):Int)<=((s.length-i:Nat):Int))=false:=df;have hp:=N8 (a:=x) (s:=s.drop i) (by rw[List.length_drop];omega);refine cx IU.1 ?_;refine af (An @d1 (An @d2 (An @sL @d3))) ?_;refine aO ae ?_;exact(⟨by rw[hp],rfl⟩)
 obtain⟨v,H',h,rfl,rfl⟩:=key;exact h
def xP (s x:List Nat) (i:Nat):Int:=match dx x (s.drop i)with|some k=>((i+k:Nat):Int)|none=> -1
theorem On {s x:List Nat} {i:Nat} (hi:i<=s.length) (hs:s.length<100000) (hx:x.length<1000) (vw:x≠[]) (hn:1<=n) (aC:600000<lf):aj ak lf n 67 [.str s,.str x,iN i] H=some (.int .i64 (xP s x i),H):=by
 obtain⟨n,rfl⟩:=aN (n:=n);have hx1:x.length≠0:=by simpa using vw
 have key:∃v H',aj ak lf (n+1) 67 [.str s,.str x,iN i] H=some (v,H')/\v=.int .i64 (xP s x i)/\H'=H:=by
  refine cx IZ.1 ?_;refine af ae ?_;refine bH (I:=fun m ts D H'=>D=[]/\H'=H/\∃j:Nat,m=s.length-(i+j)/\i+j<=s.length/\(∀q,q<j->pre x ((s.drop i).drop q)=false)/\∃z:Nat->SV,ts=((.str s)::(.str x)::zz z 2 5 ((.int .i64 ((i+j:Nat):Int))::zz z 8 20 []):T)/\(True)) ?_ (s.length-i) ?_ om
  ·rintro m ts D H' ⟨rfl,rfl,j,rfl,hj,hq,⟨z,rfl, -⟩⟩;have hd:(s.drop i).drop j=s.drop (i+j):=List.drop_drop;have hk:((i+j:Nat):Int)+((x.length:Nat):Int)=((i+j+x.length:Nat):Int):=om;by_cases hl:i+j+x.length<=s.length
   ·have d1:decide (((i+j+x.length:Nat):Int)<=((s.length:Nat):Int))=true:=dt;have hp:=N6 (a:=x) (s:=s.drop (i+j)) (by rw[List.length_drop];omega);have e1:i+j+x.length-(i+j)=x.length:=om;cases hc:pre x (s.drop (i+j))with
    |true=>
     rw[hc]at hp;have dp:dx x (s.drop i)=some j:=afT (by rw[hd];exact hc) (by rw[List.length_drop];omega) hq;refine af (An @hk @d1) ?_;refine ar ae ?_;refine af (An @hk (An @e1 @hp)) ?_;refine ar ae ?_;refine af ae ?_;refine aO ae ?_;exact(⟨by unfold xP;rw[dp],rfl⟩)
    |false=>
     rw[hc]at hp;refine af (An @hk @d1) ?_;refine ar ae ?_;refine af (An @hk (An @e1 @hp)) ?_;refine ah ae ?_;refine af ae ?_;refine aT (s.length-(i+(j+1))) om ⟨rfl,rfl,j+1,rfl,by omega,fun q ui=>?_,aw⟩;by_cases he:q=j
     ·subst he;rw[hd];exact hc
     ·exact hq q om
   ·have d1:decide (((i+j+x.length:Nat):Int)<=((s.length:Nat):Int))=false:=df;have dp:dx x (s.drop i)=none:=afU fun q _=>by
     by_cases he:q<j
     ·exact hq q he
     ·exact N8 (by rw[List.length_drop,List.length_drop];omega)
    refine af (An @hk @d1) ?_;refine ah ae ?_;refine af ae ?_;refine aO ae ?_;exact(⟨by unfold xP;rw[dp];rfl,rfl⟩)
  ·exact⟨rfl,rfl,0,rfl,hi,fun q hq=>by omega,aw⟩
 obtain⟨v,H',h,rfl,rfl⟩:=key;exact h
theorem Xx {s:List Nat} {c i:Nat} (hi:i<=s.length) (hs:s.length<100000) (hn:1<=n) (aC:600000<lf):aj ak lf n 374 [.str s,iN i,.int .u8 (c:Int)] H=some (iN (i+cT c (s.drop i)),H):=by
 obtain⟨n,rfl⟩:=aN (n:=n);have key:∃v H',aj ak lf (n+1) 374 [.str s,iN i,.int .u8 (c:Int)] H=some (v,H')/\v=iN (i+cT c (s.drop i))/\H'=H:=by
  refine cx Qk.1 ?_;refine af ae ?_;refine bH (I:=fun m ts D H'=>D=[]/\H'=H/\∃j:Nat,m=s.length-j/\j<=s.length/\j+cT c (s.drop j)=i+cT c (s.drop i)/\∃z:Nat->SV,ts=((.str s)::(.int .i64 (j:Int))::(.int .u8 (c:Int))::zz z 3 18 []:T)/\(True)) ?_ (s.length-i) ?_ om
  ·rintro m ts D H' ⟨rfl,rfl,j,rfl,hj,hq,⟨z,rfl, -⟩⟩;by_cases hl:j<s.length
   ·have d1:decide (((j:Nat):Int)<((s.length:Nat):Int))=true:=dt;have hx:s[j]? =some s[j]:=List.getElem?_eq_getElem hl;rw[List.drop_eq_getElem_cons hl,Gy]at hq;generalize s[j]=x at hx hq;have d2:=dI x c;by_cases hc:x=c
    ·rw[decide_eq_true hc]at d2;rw[if_pos hc]at hq;refine af (An @d1 (An @hx @d2)) ?_;refine ar ae ?_;refine af ae ?_;refine aT (s.length-(j+1)) om ⟨rfl,rfl,j+1,rfl,by omega,by omega,aw⟩
    ·rw[decide_eq_false hc]at d2;rw[if_neg hc]at hq;refine af (An @d1 (An @hx @d2)) ?_;refine ah ae ?_;refine af ae ?_;refine aO ae ?_;exact(⟨by rw[<-hq];rfl,rfl⟩)
   ·have d1:decide (((j:Nat):Int)<((s.length:Nat):Int))=false:=df;rw[List.drop_eq_nil_of_le om]at hq;refine af @d1 ?_;refine ah ae ?_;refine af ae ?_;refine aO ae ?_;exact(⟨by rw[<-hq];rfl,rfl⟩)
  ·exact⟨rfl,rfl,i,rfl,hi,rfl,aw⟩
 obtain⟨v,H',h,rfl,rfl⟩:=key;exact h
theorem Xy {g:Nat} {cl:Bool} (hg:g=1\/g=2\/g=3) (hn:1<=n):∃H',aj ak lf n 340 [iN g,.bool cl] H=some (.str (if cl=true then bS g else bR g),H')/\Ext H H':=by
 obtain⟨n,rfl⟩:=aN (n:=n);have key:∃v H',aj ak lf (n+1) 340 [iN g,.bool cl] H=some (v,H')/\v=.str (if cl=true then bS g else bR g)/\Ext H H':=by
  have d1:decide (((g:Nat):Int)<((1:Nat):Int))=false:=df;have d2:decide (((g:Nat):Int)>((3:Nat):Int))=false:=df;cases cl with
  |true=>
   rcases hg with rfl|rfl|rfl
   all_goals
    refine cx IM.1 ?_;refine af (An @d1 @d2) ?_;refine ah ae ?_;refine af ae ?_;refine ar ae ?_;refine af ae ?_;refine aO ae ?_;exact(⟨rfl,(Ext.refl H).push _⟩)
  |false=>
   rcases hg with rfl|rfl|rfl
   all_goals
    refine cx IM.1 ?_;refine af (An @d1 @d2) ?_;refine ah ae ?_;refine af ae ?_;refine ah ae ?_;refine af ae ?_;refine aO ae ?_;exact(⟨rfl,(Ext.refl H).push _⟩)
 obtain⟨v,H',h,rfl,hE⟩:=key;exact⟨H',h,hE⟩
end
end
section
theorem Ao {a:Nat} {x s:List Nat} (h:pre (a::x) s=true):∃r,s=a::r:=by
 cases s with
 |nil=>cases h
 |cons b r=>
  have:Nat.beq a b=true:=(Bool.and_eq_true_iff.1 h).1;exact⟨r,by rw[Nat.eq_of_beq_eq_true this]⟩
theorem W6 {k b:Nat} {x r:List Nat} (h:b≠k):pre (k::x) (b::r)=false:=by
 show(Nat.beq k b&&pre x r)=false;rw[beq_false (Ne.symm h)];rfl
def sX (s:List Nat):Nat×Nat:=
 if pre [123,123] s=true then(3,cT 123 s)else if pre [125,125] s=true then(4,cT 125 s)else if pre [91,91] s=true then(5,2)else if pre [93,93] s=true then(6,2)
 else if pre [124] s=true then(7,1)else if pre [61] s=true then(8,1)else if pre [10] s=true then(2,1)else(0,0)
theorem Gx (c:Nat) (r:List Nat):pre [c,c] (c::r)=decide (2<=cT c (c::r)):=by
 have e:cT c (c::r)=cT c r+1:=by rw[Gy,if_pos rfl]
 rw[e];show(Nat.beq c c&&pre [c] r)=_;rw[Nat.beq_refl,Bool.true_and];cases r with
 |nil=>rfl
 |cons x r=>
  rw[Gy];by_cases h:x=c
  ·subst h;rw[if_pos rfl];show(Nat.beq x x&&pre [] r)=_;rw[Nat.beq_refl];have:2<=cT x r+1+1:=om;simp[this,pre]
  ·rw[W6 h,if_neg h];rfl
def C1 (s:List Nat):Prop:=pre eB s=true->dx gB (s.drop 8)=none
theorem Js {s:List Nat} (h1:pre uU s=false) (h2:C1 s):jD s=if c9 bR s=0 then(if c9 bS s=0 then(0,0)else(12,(bS (c9 bS s)).length))else(11,(bR (c9 bR s)).length):=by
 unfold jD;rw[if_neg (by rw[h1];decide)];by_cases hp:pre eB s=true
 ·rw[if_pos hp,h2 hp]
 ·rw[if_neg hp]
theorem alx {s:List Nat} (h:pre uU s=true):cm s=(9,match dx yQ (s.drop 4)with|some k=>4+k+3|none=>s.length):=by
 obtain⟨r,rfl⟩:=Ao (a:=60) (x:=[33,45,45]) h;exact if_pos h
theorem aly {s:List Nat} {k:Nat} (h1:pre uU s=false) (h2:pre eB s=true) (h3:dx gB (s.drop 8)=some k):cm s=(10,8+k+9):=by
 obtain⟨r,rfl⟩:=Ao (a:=60) (x:=[110,111,119,105,107,105,62]) h2;show jD (60::r)=_;unfold jD;rw[if_neg (by rw[h1];decide),if_pos h2,h3]
theorem alz {s:List Nat} (h1:pre uU s=false) (h2:C1 s) (h3:c9 bR s≠0):cm s=(11,(bR (c9 bR s)).length):=by
 obtain⟨r,rfl⟩:=Ao (a:=60) (Du h3).2;show jD (60::r)=_;rw[Js h1 h2,if_neg h3]
theorem alA {s:List Nat} (h1:pre uU s=false) (h2:C1 s) (h3:c9 bR s=0) (h4:c9 bS s≠0):cm s=(12,(bS (c9 bS s)).length):=by
 obtain⟨r,rfl⟩:=Ao (a:=60) (Du h4).2;show jD (60::r)=_;rw[Js h1 h2,if_pos h3,if_neg h4]
theorem alB {s:List Nat} (h1:pre uU s=false) (h2:C1 s) (h3:c9 bR s=0) (h4:c9 bS s=0):cm s=sX s:=by
 cases s with
 |nil=>rfl
 |cons b r=>
  by_cases hb:b=60
  ·subst hb;show jD (60::r)=_;rw[Js h1 h2,if_pos h3,if_pos h4];rfl
  have e:∀k x,b≠k->pre (k::x) (b::r)=false:=fun k x h=>W6 h
  rw[YK,if_neg hb];unfold sX;by_cases k1:b=123
  ·subst k1;rw[if_pos rfl,Gx,e 125 _ (by decide),e 91 _ (by decide),e 93 _ (by decide),e 124 _ (by decide),e 61 _ (by decide),e 10 _ (by decide)];by_cases hl:2<=cT 123 (123::r)<;>simp[hl]
  rw[if_neg k1,e 123 _ k1,if_neg (c:=false=true) (by decide)];by_cases k2:b=125
  ·subst k2;rw[if_pos rfl,Gx,e 91 _ (by decide),e 93 _ (by decide),e 124 _ (by decide),e 61 _ (by decide),e 10 _ (by decide)];by_cases hl:2<=cT 125 (125::r)<;>simp[hl]
  rw[if_neg k2,e 125 _ k2,if_neg (c:=false=true) (by decide)];by_cases k3:b=91
  ·subst k3;rw[if_pos rfl,Gx,e 93 _ (by decide),e 124 _ (by decide),e 61 _ (by decide),e 10 _ (by decide)];by_cases hl:2<=cT 91 (91::r)<;>simp[hl]
  rw[if_neg k3,e 91 _ k3,if_neg (c:=false=true) (by decide)];by_cases k4:b=93
  ·subst k4;rw[if_pos rfl,Gx,e 124 _ (by decide),e 61 _ (by decide),e 10 _ (by decide)];by_cases hl:2<=cT 93 (93::r)<;>simp[hl]
  rw[if_neg k4,e 93 _ k4,if_neg (c:=false=true) (by decide)];by_cases k5:b=124
  ·subst k5;rfl
  rw[if_neg k5,e 124 _ k5,if_neg (c:=false=true) (by decide)];by_cases k6:b=61
  ·subst k6;rfl
  rw[if_neg k6,e 61 _ k6,if_neg (c:=false=true) (by decide)];by_cases k7:b=10
  ·subst k7;rfl
  rw[if_neg k7,e 10 _ k7,if_neg (c:=false=true) (by decide)]
theorem als {s:List Nat} {g j:Nat} (h:pre (bS g) s=true):pre (bR j) s=false:=by
 obtain⟨r,rfl⟩:=Ao h;have h':pre (47::(cV g++[62])) r=true:=(Bool.and_eq_true_iff.1 h).2;obtain⟨r,rfl⟩:=Ao h';show(Nat.beq 60 60&&pre (cV j++[62]) (47::r))=false;rw[Nat.beq_refl,Bool.true_and];unfold cV;split<;>rfl
def jm (s:List Nat) (i:Nat):Nat×Nat:=if(cm (s.drop i)).1=0 then(0,0)else((cm (s.drop i)).1,i+(cm (s.drop i)).2)
theorem qq {s:List Nat} {i k l:Nat} (h:cm (s.drop i)=(k,l)) (hk:k≠0):jm s i=(k,i+l):=by unfold jm;rw[h,if_neg hk]
theorem akC {s:List Nat} {i l:Nat} (h:cm (s.drop i)=(0,l)):jm s i=(0,0):=by unfold jm;rw[h,if_pos rfl]
section
variable {lf n:Nat} {H:ag}
theorem G7 {g:Nat} (hg:g=1\/g=2\/g=3) (hn:1<=n):∃H',aj ak lf n 340 [iN g,.bool false] H=some (.str (bR g),H')/\Ext H H':=by simpa using Xy (cl:=false) hg hn
theorem Ot {g:Nat} (hg:g=1\/g=2\/g=3) (hn:1<=n):∃H',aj ak lf n 340 [iN g,.bool true] H=some (.str (bS g),H')/\Ext H H':=by simpa using Xy (cl:=true) hg hn
theorem HX {g:Nat} (hg:g=1\/g=2\/g=3):(bR g).length<1000/\(bS g).length<1000:=by rcases hg with rfl|rfl|rfl<;>decide
@[reducible] def ZP (H0:ag) (s:List Nat) (i:Nat) (m:Nat) (ts:T) (D:DS) (H':ag):Prop:=
  D=[]/\Ext H0 H'/\∃k:Nat,m=3-k/\k<=3/\(∀j,1<=j->j<=k->pre (bR j) (s.drop i)=false/\pre (bS j) (s.drop i)=false)/\∃z:Nat->SV,ts=((.str s)::(iN i)::zz z 2 6 ((.int .i64 ((k+1:Nat):Int))::zz z 9 94 []):T)/\(True)
theorem akG {s:List Nat} {i:Nat} (hi:i<=s.length) (hs:s.length<90000) (hn:2<=n) (aC:600000<lf):
 ∃H',aj ak lf n 326 [.str s,iN i] H=some (.aJ [iN (jm s i).1,iN (jm s i).2],H')/\Ext H H':=by
 obtain⟨n,rfl⟩:=aN (n:=n);have cX:s.length<100000:=om;have key:∃v H',aj ak lf (n+1) 326 [.str s,iN i] H=some (v,H')/\v=.aJ [iN (jm s i).1,iN (jm s i).2]/\Ext H H':=by
  have p1:=rN (lf:=lf) (n:=n) (H:=H) (s:=s) (x:=[60,33,45,45]) hi cX (by decide) om;have p2:=rN (lf:=lf) (n:=n) (H:=H) (s:=s) (x:=[60,110,111,119,105,107,105,62]) hi cX (by decide) om;cases h1:pre [60,33,45,45] (s.drop i)with
  |true=>
   have hl:=oE h1;simp only[List.length_cons,List.length_nil,List.length_drop]at hl;rw[h1]at p1;have hz:=alx h1;have x1:=On (lf:=lf) (n:=n) (H:=H) (s:=s) (x:=[45,45,62]) (i:=i+4) om cX (by decide) (by decide) om aC;have hd:s.drop (i+4)=(s.drop i).drop 4:=by rw[List.drop_drop]
   unfold xP at x1;rw[hd]at x1;have hk:((i:Nat):Int)+((4:Nat):Int)=((i+4:Nat):Int):=om;refine cx DP.1 ?_;refine af ae ?_;refine ai ae p1 ?_;refine af ae ?_;refine ar ae ?_;refine af @hk ?_;cases hx:dx [45,45,62] ((s.drop i).drop 4)with
   |some k=>
    rw[hx]at x1;have hz':jm s i=(9,i+(4+k+3)):=qq (by rw[hz];show(9,match dx [45,45,62] _ with|some k=>4+k+3|none=>_)=_;rw[hx]) (by decide);have yy:aj ak lf n 67 [.str s,.str [45,45,62],iN (i+4)] H=some (iN (i+4+k),H):=x1;have eW:=(sN hx).2.1;rw[List.length_drop,List.length_drop]at eW;have d:decide (((i+4+k:Nat):Int)>=((0:Nat):Int))=true:=dt;have e2:((i+4+k:Nat):Int)+((3:Nat):Int)=((i+(4+k+3):Nat):Int):=om;refine ai ae yy ?_;refine af @d ?_;refine ar ae ?_;refine af @e2 ?_;refine cD ae ?_;exact(⟨by rw[hz'],Ext.refl _⟩)
   |none=>
    rw[hx]at x1;have hz':jm s i=(9,s.length):=by
     have:jm s i=(9,i+(s.drop i).length):=qq (by rw[hz];show(9,match dx [45,45,62] _ with|some k=>4+k+3|none=>_)=_;rw[hx]) (by decide);rw[this,List.length_drop,Nat.add_sub_cancel' hi]
    have yy:aj ak lf n 67 [.str s,.str [45,45,62],iN (i+4)] H=some (.int .i64 (-1),H):=x1;have d:decide ((-1:Int)>=((0:Nat):Int))=false:=by decide
    refine ai ae yy ?_;refine af @d ?_;refine ah ae ?_;refine af ae ?_;refine cD ae ?_;exact(⟨by rw[hz'],Ext.refl _⟩)
  |false=>
   rw[h1]at p1;rcases Classical.em (C1 (s.drop i))with hN|hN
   ·refine cx DP.1 ?_;refine af ae ?_;refine ai ae p1 ?_;refine af ae ?_;refine ah ae ?_;refine s8 (ly ?_);refine mN ?_;refine nJ (fun ts jB=>jB=H/\∃z:Nat->SV,ts=((.str s)::(iN i)::zz z 2 101 []:T)/\(True)) ?_ (fun aA H1 ga=>?_)
    ·cases h2:pre [60,110,111,119,105,107,105,62] (s.drop i)with
     |false=>
      rw[h2]at p2;refine af ae ?_;refine ai ae p2 ?_;refine af ae ?_;refine ah ae ?_;refine af ae ?_;exact⟨rfl,rfl,rfl,aw⟩
     |true=>
      have hl:=oE h2;simp only[List.length_cons,List.length_nil,List.length_drop]at hl;rw[h2]at p2;have x1:=On (lf:=lf) (n:=n) (H:=H) (s:=s) (x:=[60,47,110,111,119,105,107,105,62]) (i:=i+8) om cX (by decide) (by decide) om aC;have hd:s.drop (i+8)=(s.drop i).drop 8:=by rw[List.drop_drop]
      have hx:dx [60,47,110,111,119,105,107,105,62] ((s.drop i).drop 8)=none:=hN h2;unfold xP at x1;rw[hd,hx]at x1;have yy:aj ak lf n 67 [.str s,.str [60,47,110,111,119,105,107,105,62],iN (i+8)] H=some (.int .i64 (-1),H):=x1;have hk:((i:Nat):Int)+((8:Nat):Int)=((i+8:Nat):Int):=om;have d:decide ((-1:Int)>=((0:Nat):Int))=false:=by decide
      refine af ae ?_;refine ai ae p2 ?_;refine af ae ?_;refine ar ae ?_;refine af @hk ?_;refine ai ae yy ?_;refine af @d ?_;refine ah ae ?_;refine af ae ?_;exact⟨rfl,rfl,rfl,aw⟩
    ·obtain⟨rfl,⟨z,rfl, -⟩⟩:=ga;refine af ae ?_;refine bH (I:=ZP H1 s i) ?_ 3 ?_ om
     ·rintro m ts D H2 ⟨rfl,aF,k,rfl,hk,uh,⟨z,rfl, -⟩⟩;by_cases gg:k<3
      ·have d1:decide (((k+1:Nat):Int)<=((3:Nat):Int))=true:=dt;have hg:k+1=1\/k+1=2\/k+1=3:=om;obtain⟨fH,oe⟩:=HX hg;obtain⟨H3,bf,aS⟩:=G7 (lf:=lf) (n:=n) (H:=H2) hg om;have a1:=rN (lf:=lf) (n:=n) (H:=H3) (s:=s) (x:=bR (k+1)) hi cX (HX hg).1 om;obtain⟨H4,fx,bz⟩:=Ot (lf:=lf) (n:=n) (H:=H3) hg om;have a2:=rN (lf:=lf) (n:=n) (H:=H4) (s:=s) (x:=bS (k+1)) hi cX (HX hg).2 om;refine af @d1 ?_;refine ar ae ?_;refine af ae ?_;refine ai ae bf ?_;refine af ae ?_;refine ai ae a1 ?_;cases ho:pre (bR (k+1)) (s.drop i)with
       |true=>
        have hw:=OU gg (fun j h1 h2=>(uh j h1 h2).1) ho;have hz:=alz h1 hN (by rw[hw];omega);rw[hw]at hz;have hz':=qq hz (by decide);have e2:((i:Nat):Int)+(((bR (k+1)).length:Nat):Int)=((i+(bR (k+1)).length:Nat):Int):=om;refine af ae ?_;refine ar ae ?_;refine af @e2 ?_;refine cD ae ?_;exact(⟨by rw[hz'],aF.trans aS⟩)
       |false=>
        refine af ae ?_;refine ah ae ?_;refine af ae ?_;refine ai ae fx ?_;refine af ae ?_;refine ai ae a2 ?_;cases hc:pre (bS (k+1)) (s.drop i)with
        |true=>
         have hw:=OU gg (fun j h1 h2=>(uh j h1 h2).2) hc;have hz:=alA h1 hN (HU fun j _ _=>als hc) (by rw[hw];omega);rw[hw]at hz;have hz':=qq hz (by decide);have e2:((i:Nat):Int)+(((bS (k+1)).length:Nat):Int)=((i+(bS (k+1)).length:Nat):Int):=om;refine af ae ?_;refine ar ae ?_;refine af @e2 ?_;refine cD ae ?_;exact(⟨by rw[hz'],aF.trans (aS.trans bz)⟩)
        |false=>
         refine af ae ?_;refine ah ae ?_;refine af ae ?_;refine aT (3-(k+1)) om ⟨rfl,aF.trans (aS.trans bz),k+1,rfl,by omega,fun j ka nj=>?_,aw⟩;by_cases hj:j=k+1
         ·subst hj;exact⟨ho,hc⟩
         ·exact uh j ka om
      ·obtain rfl:k=3:=om;have d1:decide (((3+1:Nat):Int)<=((3:Nat):Int))=false:=by decide
       have q1:((i:Nat):Int)+((1:Nat):Int)=((i+1:Nat):Int):=om;have q2:((i:Nat):Int)+((2:Nat):Int)=((i+2:Nat):Int):=om;have hC:=alB h1 hN (HU fun j h1 h2=>(uh j h1 h2).1) (HU fun j h1 h2=>(uh j h1 h2).2);refine af @d1 ?_;refine ah ae ?_;have a0:=rN (lf:=lf) (n:=n) (H:=H2) (s:=s) (x:=[123,123]) hi cX (by decide) om;refine af ae ?_;refine ai ae a0 ?_;cases h0:pre [123,123] (s.drop i)with
       |true=>
        rw[h0]at a0;have hz:cm (s.drop i)=(3,cT 123 (s.drop i)):=by rw[hC];unfold sX;rw[h0];rfl
        have hz':jm s i=(3,i+cT 123 (s.drop i)):=qq hz (by decide);refine af ae ?_;refine ar ae ?_;refine af ae ?_;have r:=Xx (lf:=lf) (n:=n) (H:=H2) (s:=s) (c:=123) hi cX om aC;refine ai ae r ?_;refine af ae ?_;refine cD ae ?_;exact(⟨by rw[hz'],aF⟩)
       |false=>
        rw[h0]at a0;refine af ae ?_;refine ah ae ?_;have a1:=rN (lf:=lf) (n:=n) (H:=H2) (s:=s) (x:=[125,125]) hi cX (by decide) om;refine af ae ?_;refine ai ae a1 ?_;cases h1:pre [125,125] (s.drop i)with
        |true=>
         rw[h1]at a1;have hz:cm (s.drop i)=(4,cT 125 (s.drop i)):=by rw[hC];unfold sX;rw[h0,h1];rfl
         have hz':jm s i=(4,i+cT 125 (s.drop i)):=qq hz (by decide);refine af ae ?_;refine ar ae ?_;refine af ae ?_;have r:=Xx (lf:=lf) (n:=n) (H:=H2) (s:=s) (c:=125) hi cX om aC;refine ai ae r ?_;refine af ae ?_;refine cD ae ?_;exact(⟨by rw[hz'],aF⟩)
        |false=>
         rw[h1]at a1;refine af ae ?_;refine ah ae ?_;have a2:=rN (lf:=lf) (n:=n) (H:=H2) (s:=s) (x:=[91,91]) hi cX (by decide) om;refine af ae ?_;refine ai ae a2 ?_;cases h2:pre [91,91] (s.drop i)with
         |true=>
          rw[h2]at a2;have hz:cm (s.drop i)=(5,2):=by rw[hC];unfold sX;rw[h0,h1,h2];rfl
          have hz':jm s i=(5,i+2):=qq hz (by decide);refine af ae ?_;refine ar ae ?_;refine af @q2 ?_;refine cD ae ?_;exact(⟨by rw[hz'],aF⟩)
         |false=>
          rw[h2]at a2;refine af ae ?_;refine ah ae ?_;have a3:=rN (lf:=lf) (n:=n) (H:=H2) (s:=s) (x:=[93,93]) hi cX (by decide) om;refine af ae ?_;refine ai ae a3 ?_;cases h3:pre [93,93] (s.drop i)with
          |true=>
           rw[h3]at a3;have hz:cm (s.drop i)=(6,2):=by rw[hC];unfold sX;rw[h0,h1,h2,h3];rfl
           have hz':jm s i=(6,i+2):=qq hz (by decide);refine af ae ?_;refine ar ae ?_;refine af @q2 ?_;refine cD ae ?_;exact(⟨by rw[hz'],aF⟩)
          |false=>
           rw[h3]at a3;refine af ae ?_;refine ah ae ?_;have a4:=rN (lf:=lf) (n:=n) (H:=H2) (s:=s) (x:=[124]) hi cX (by decide) om;refine af ae ?_;refine ai ae a4 ?_;cases h4:pre [124] (s.drop i)with
           |true=>
            rw[h4]at a4;have hz:cm (s.drop i)=(7,1):=by rw[hC];unfold sX;rw[h0,h1,h2,h3,h4];rfl
            have hz':jm s i=(7,i+1):=qq hz (by decide);refine af ae ?_;refine ar ae ?_;refine af @q1 ?_;refine cD ae ?_;exact(⟨by rw[hz'],aF⟩)
           |false=>
            rw[h4]at a4;refine af ae ?_;refine ah ae ?_;have a5:=rN (lf:=lf) (n:=n) (H:=H2) (s:=s) (x:=[61]) hi cX (by decide) om;refine af ae ?_;refine ai ae a5 ?_;cases h5:pre [61] (s.drop i)with
            |true=>
             rw[h5]at a5;have hz:cm (s.drop i)=(8,1):=by rw[hC];unfold sX;rw[h0,h1,h2,h3,h4,h5];rfl
             have hz':jm s i=(8,i+1):=qq hz (by decide);refine af ae ?_;refine ar ae ?_;refine af @q1 ?_;refine cD ae ?_;exact(⟨by rw[hz'],aF⟩)
            |false=>
             rw[h5]at a5;refine af ae ?_;refine ah ae ?_;have a6:=rN (lf:=lf) (n:=n) (H:=H2) (s:=s) (x:=[10]) hi cX (by decide) om;refine af ae ?_;refine ai ae a6 ?_;cases h6:pre [10] (s.drop i)with
             |true=>
              rw[h6]at a6;have hz:cm (s.drop i)=(2,1):=by rw[hC];unfold sX;rw[h0,h1,h2,h3,h4,h5,h6];rfl
              have hz':jm s i=(2,i+1):=qq hz (by decide);refine af ae ?_;refine ar ae ?_;refine af @q1 ?_;refine cD ae ?_;exact(⟨by rw[hz'],aF⟩)
             |false=>
              rw[h6]at a6;refine af ae ?_;refine ah ae ?_;have hz:cm (s.drop i)=(0,0):=by rw[hC];unfold sX;rw[h0,h1,h2,h3,h4,h5,h6];rfl
              have hz':jm s i=(0,0):=akC hz;refine af ae ?_;refine cD ae ?_;exact(⟨by rw[hz'],aF⟩)
     ·exact⟨rfl,Ext.refl _,0,rfl,Nat.zero_le _,fun j h1 h2=>by omega,aw⟩
   ·have h2:pre [60,110,111,119,105,107,105,62] (s.drop i)=true:=Classical.byContradiction fun h=>hN fun h'=>(h h').elim
    have hl:=oE h2;simp only[List.length_cons,List.length_nil,List.length_drop]at hl;rw[h2]at p2;obtain⟨k,hx⟩:∃k,dx [60,47,110,111,119,105,107,105,62] ((s.drop i).drop 8)=some k:=by
     cases hx:dx [60,47,110,111,119,105,107,105,62] ((s.drop i).drop 8)with
     |some k=>exact⟨k,rfl⟩
     |none=>exact(hN fun _=>hx).elim
    have x1:=On (lf:=lf) (n:=n) (H:=H) (s:=s) (x:=[60,47,110,111,119,105,107,105,62]) (i:=i+8) om cX (by decide) (by decide) om aC;have hd:s.drop (i+8)=(s.drop i).drop 8:=by rw[List.drop_drop]
    unfold xP at x1;rw[hd,hx]at x1;have yy:aj ak lf n 67 [.str s,.str [60,47,110,111,119,105,107,105,62],iN (i+8)] H=some (iN (i+8+k),H):=x1;have eW:=(sN hx).2.1;rw[List.length_drop,List.length_drop]at eW;have hz':=qq (i:=i) (aly h1 h2 hx) (by decide);have hk:((i:Nat):Int)+((8:Nat):Int)=((i+8:Nat):Int):=om;have d:decide (((i+8+k:Nat):Int)>=((0:Nat):Int))=true:=dt;have e2:((i+8+k:Nat):Int)+((9:Nat):Int)=((i+(8+k+9):Nat):Int):=om;refine cx DP.1 ?_;refine af ae ?_;refine ai ae p1 ?_;refine af ae ?_;refine ah ae ?_;refine af ae ?_;refine ai ae p2 ?_;refine af ae ?_;refine ar ae ?_;refine af @hk ?_;refine ai ae yy ?_;refine af @d ?_;refine ar ae ?_;refine af @e2 ?_;refine cD ae ?_;exact(⟨by rw[hz'],Ext.refl _⟩)
 obtain⟨v,H',h,rfl,hE⟩:=key;exact⟨H',h,hE⟩
end
end
section
@[reducible] def ZJ (H0:ag) (s:List Nat) (m:Nat) (ts:T) (D:DS) (H':ag):Prop:=
  D=[]/\∃(L:List Tok) (i t:Nat) (v:SV),m=s.length-i/\lX s L i t/\Sl H0.next 294 3 H' v (jn L)/\Ext H0 H'/\∃z:Nat->SV,ts=((.str s)::zz z 1 3 ((v)::(.int .i64 (t:Int))::(.int .i64 (i:Int))::zz z 7 49 []):T)/\(True)
section
variable {lf n:Nat} {H:ag}
theorem ajR {s:List Nat} (hs:s.length<=8192) (hn:6<=n) (aC:600000<lf):∃v H',aj ak lf n 254 [.str s] H=some (.aJ [v,iN 0],H')/\Ext H H'/\br H' v 3 (jn (cw s)):=by
 obtain⟨n,rfl⟩:=aN (n:=n);have key:∃w H',aj ak lf (n+1) 254 [.str s] H=some (w,H')/\∃v,w=.aJ [v,iN 0]/\Ext H H'/\br H' v 3 (jn (cw s)):=by
  have d0:decide (((s.length:Nat):Int)>((8192:Nat):Int))=false:=df;refine cx PT.1 ?_;refine af @d0 ?_;refine ah ae ?_;refine af ae ?_;refine bH (I:=ZJ H s) ?_ s.length ?_ om
  ·rintro m ts D H' ⟨rfl,L,i,t,v,rfl,hP,hS,hE,⟨z,rfl, -⟩⟩;have TE:=hP.len;have bu:=hP.1;have bw:=hP.2.1;by_cases hi:i<s.length
   ·have d1:decide (((i:Nat):Int)<((s.length:Nat):Int))=true:=dt;have MU:=HY s i;have sE:(s.drop i).length=s.length-i:=List.length_drop ..;obtain⟨H1,aV,aB⟩:=akG (lf:=lf) (n:=n) (H:=H') (s:=s) bw om om aC;have ml:=hS.ax aB;have qN:=hE.trans aB;by_cases h0:(cm (s.drop i)).1=0
    ·have d2:decide ((((cm (s.drop i)).1:Nat):Int)=((0:Nat):Int))=true:=by rw[h0];decide
     have mi:=hP.skip hi h0;have gh:jm s i=(0,0):=by unfold jm;rw[if_pos h0]
     rw[gh]at aV;have d2:decide (((0:Nat):Int)=((0:Nat):Int))=true:=by decide
     refine af @d1 ?_;refine ar ae ?_;refine af ae ?_;refine ai ae aV ?_;refine af @d2 ?_;refine ar ae ?_;refine af (c8 (k:=i) om) ?_;refine aT (s.length-(i+1)) om ⟨rfl,L,i+1,t,v,rfl,mi,ml,qN,aw⟩
    ·have d2:decide ((((cm (s.drop i)).1:Nat):Int)=((0:Nat):Int))=false:=df;obtain⟨mi,rk,Cq⟩:=hP.take hi h0;have tN:=mi.len;have gh:jm s i=((cm (s.drop i)).1,i+(cm (s.drop i)).2):=by unfold jm;rw[if_neg h0]
     rw[gh]at aV;generalize (cm (s.drop i)).1=k at aV d2 mi tN;generalize (cm (s.drop i)).2=q at aV mi rk Cq tN;have gb:((i:Nat):Int)+((q:Nat):Int)=((i+q:Nat):Int):=om;refine af @d1 ?_;refine ar ae ?_;refine af ae ?_;refine ai ae aV ?_;refine af @d2 ?_;refine ah ae ?_;refine af ae ?_;refine nJ (fun ts H'=>∃v',Sl H.next 294 3 H' v' (jn (L++(if t<i then[(1,t,i)]else[])))/\Ext H H'/\∃z:Nat->SV,ts=((.str s)::zz z 1 3 ((v')::z 5::(.int .i64 (i:Int))::(.int .i64 (k:Int))::(.int .i64 ((i+q:Nat):Int))::zz z 9 47 []):T)/\(True)) ?_ (fun aA H7 gR=>?_)
     ·by_cases fU:t<i
      ·have d3:decide (((t:Nat):Int)<((i:Nat):Int))=true:=dt;obtain⟨v2,H2,ha,iB,dc,ig⟩:=AI ml (1,t,i) qN.1 om;have aF:Ext H H2:=⟨Nat.le_trans qN.1 dc,fun b hb=>(ig b hb).trans (qN.2 b hb)⟩;unfold cr at ha;refine ar @d3 ?_;refine af @ha ?_;exact⟨rfl,rfl,v2,by rw[if_pos fU];exact iB,aF,aw⟩
      ·have d3:decide (((t:Nat):Int)<((i:Nat):Int))=false:=df;refine ah @d3 ?_;refine af ae ?_;exact⟨rfl,rfl,v,by rw[if_neg fU,List.append_nil];exact ml,qN,aw⟩
     ·obtain⟨v',BK,dV,⟨z,rfl, -⟩⟩:=gR;obtain⟨v2,H2,ha,iB,dc,ig⟩:=AI BK (k,i,i+q) dV.1 (by rw[List.length_append]at tN;simp only[List.length_cons,List.length_nil]at tN;omega);have aF:Ext H H2:=⟨Nat.le_trans dV.1 dc,fun b hb=>(ig b hb).trans (dV.2 b hb)⟩;unfold cr at ha;refine af (An @gb @ha) ?_;refine aT (s.length-(i+q)) om ⟨rfl,_,i+q,i+q,v2,rfl,mi,iB,aF,aw⟩
   ·have d1:decide (((i:Nat):Int)<((s.length:Nat):Int))=false:=df;have fy:=hP.fin hi;by_cases fU:t<s.length
    ·have d3:decide (((t:Nat):Int)<((s.length:Nat):Int))=true:=dt;obtain⟨v2,H2,ha,iB,dc,ig⟩:=AI hS (1,t,s.length) hE.1 om;have aF:Ext H H2:=⟨Nat.le_trans hE.1 dc,fun b hb=>(ig b hb).trans (hE.2 b hb)⟩;unfold cr at ha;rw[if_pos fU]at fy;refine af @d1 ?_;refine ah ae ?_;refine af @d3 ?_;refine ar ae ?_;refine af @ha ?_;refine cD ae ?_;exact(⟨v2,rfl,aF,by rw[fy];exact iB.aQ (Dv _)⟩)
    ·have d3:decide (((t:Nat):Int)<((s.length:Nat):Int))=false:=df;rw[if_neg fU,List.append_nil]at fy;refine af @d1 ?_;refine ah ae ?_;refine af @d3 ?_;refine ah ae ?_;refine af ae ?_;refine cD ae ?_;exact(⟨v,rfl,hE,by rw[fy];exact hS.aQ (Dv _)⟩)
  ·exact⟨rfl,[],0,0,.ao,rfl,lX.start s,Sl.nil,Ext.refl _,aw⟩
 obtain⟨w,H',h,v,rfl,h2,h3⟩:=key;exact⟨v,H',h,h2,h3⟩
theorem YC:ak 327=some (.code wa.1):=by kernel_rfl
theorem alr {k g:Nat} (hk:k=1\/k=2\/k=3) (hg:g=1\/g=2\/g=3):(bR g=bR k↔g=k)/\(bS g=bS k↔g=k):=by
 rcases hk with rfl|rfl|rfl<;>rcases hg with rfl|rfl|rfl<;>decide
@[reducible] def ZQ (H0:ag) (b g:Nat) (s:List Nat) (m:Nat) (ts:T) (D:DS) (H':ag):Prop:=
  D=[]/\Ext H0 H'/\∃k:Nat,m=3-k/\k<g/\∃z:Nat->SV,ts=((.str s)::z 1::z 2::(.ptr b 0)::z 4::(.int .i64 ((k+1:Nat):Int))::zz z 6 29 []:T)/\(True)
theorem ajV {s:List Nat} {t:Tok} {g:Nat} (hg:g=1\/g=2\/g=3) (h1:t.2.1<=t.2.2) (h2:t.2.2<=s.length) (hk:(t.1=11/\cB s t=bR g)\/(t.1=12/\cB s t=bS g)) (hn:2<=n) (aC:10<lf):∃H',aj ak lf n 330 [.str s,.agg (cr t)] H=some (iN g,H')/\Ext H H':=by
 obtain⟨n,rfl⟩:=aN (n:=n);have key:∃w H',aj ak lf (n+1) 330 [.str s,.agg (cr t)] H=some (w,H')/\w=iN g/\Ext H H':=by
  obtain⟨H1,ay⟩:∃H1,H.push (.row (cr t) 294 true false 0)=H1:=⟨_,rfl⟩;have aB:Ext H H1:=by rw[<-ay];exact(Ext.refl H).push _
  have ca:H1.next=H.next+1:=by rw[<-ay];rfl
  have ni:H1.get H.next=some (.row (cr t) 294 true false 0):=by rw[<-ay];exact bd _
  have bn:(SV.agg (cr t)).cells=cr t:=rfl;refine cx P7.1 ?_;refine af (An @bn @ay) ?_;refine bH (I:=ZQ H1 H.next g s) ?_ 3 ?_ om
  ·rintro m ts D H' ⟨rfl,hE,k,rfl,hkg,⟨z,rfl, -⟩⟩;have LU:=(hE.2 _ om).trans ni;have r0:aq (H'.get H.next) 0 1=some [iN t.1]:=by rw[LU];rfl
   have r3:aq (H'.get H.next) 0 3=some (cr t):=by rw[LU];rfl
   have xv:k+1=1\/k+1=2\/k+1=3:=om;have d0:decide (((k+1:Nat):Int)<=((3:Nat):Int))=true:=dt;obtain⟨H2,aH,aF⟩:=Ia (lf:=lf) (n:=n) (H:=H') YC h1 h2 om;obtain⟨i1,i2⟩:=alr xv hg;have Ul:=(aF.2 H.next (by have:=hE.1;omega)).trans LU;have Xd:aq (H2.get H.next) 0 1=some [iN t.1]:=by rw[Ul];rfl
   rcases hk with⟨hk,hx⟩|⟨hk,hx⟩
   ·obtain⟨H3,bf,aS⟩:=G7 (lf:=lf) (n:=n) (H:=H2) xv om;have aes:=(aS.2 H.next (by have:=hE.1;have:=aF.1;omega)).trans Ul;have r03:aq (H3.get H.next) 0 1=some [iN t.1]:=by rw[aes];rfl
    have d1:decide (((t.1:Nat):Int)=((11:Nat):Int))=true:=by rw[hk];decide
    have d3:decide (((t.1:Nat):Int)=((12:Nat):Int))=false:=by rw[hk];decide
    have d2:decide (cB s t=bR (k+1))=decide (g=k+1):=by rw[hx];simp only[i1]
    generalize cB s t=x at aH d2;generalize cr t=tc at r3 bn aH;by_cases xw:g=k+1
    ·rw[decide_eq_true xw]at d2;refine af @d0 ?_;refine ar ae ?_;refine af (An @r0 (An @d1 @r3)) ?_;refine ai ae aH ?_;refine af ae ?_;refine ai ae bf ?_;refine af @d2 ?_;refine ar ae ?_;refine af ae ?_;refine aO ae ?_;exact(⟨by rw[xw],aB.trans (hE.trans (aF.trans aS))⟩)
    ·rw[decide_eq_false xw]at d2;refine af @d0 ?_;refine ar ae ?_;refine af (An @r0 (An @d1 @r3)) ?_;refine ai ae aH ?_;refine af ae ?_;refine ai ae bf ?_;refine af (An @d2 (An @r03 @d3)) ?_;refine ah ae ?_;refine af ae ?_;refine aT (3-(k+1)) om ⟨rfl,hE.trans (aF.trans aS),k+1,rfl,by omega,aw⟩
   ·obtain⟨H3,bf,aS⟩:=Ot (lf:=lf) (n:=n) (H:=H2) xv om;have d1:decide (((t.1:Nat):Int)=((11:Nat):Int))=false:=by rw[hk];decide
    have d3:decide (((t.1:Nat):Int)=((12:Nat):Int))=true:=by rw[hk];decide
    have d2:decide (cB s t=bS (k+1))=decide (g=k+1):=by rw[hx];simp only[i2]
    generalize cB s t=x at aH d2;generalize cr t=tc at r3 bn aH;by_cases xw:g=k+1
    ·rw[decide_eq_true xw]at d2;refine af @d0 ?_;refine ar ae ?_;refine af (An @r0 (An @d1 (An @d3 @r3))) ?_;refine ai ae aH ?_;refine af ae ?_;refine ai ae bf ?_;refine af @d2 ?_;refine ar ae ?_;refine af ae ?_;refine aO ae ?_;exact(⟨by rw[xw],aB.trans (hE.trans (aF.trans aS))⟩)
    ·rw[decide_eq_false xw]at d2;refine af @d0 ?_;refine ar ae ?_;refine af (An @r0 (An @d1 (An @d3 @r3))) ?_;refine ai ae aH ?_;refine af ae ?_;refine ai ae bf ?_;refine af @d2 ?_;refine ah ae ?_;refine af ae ?_;refine aT (3-(k+1)) om ⟨rfl,hE.trans (aF.trans aS),k+1,rfl,by omega,aw⟩
  ·exact⟨rfl,Ext.refl _,0,rfl,by omega,aw⟩
 obtain⟨w,H',h,rfl,h2⟩:=key;exact⟨H',h,h2⟩
end
end
section
def uP (lf:Nat) (f:Nat) (H0:ag) (x:SV) (s:List Nat):Prop:=SV.one x=true/\x.cells=[x]/\bD x x=true/\∀(n:Nat) (H:ag),Ext H0 H->s.length<500000->3*s.length+10<=n->∃H',aj ak lf n f [x] H=some (.str s,H')/\Ext H H'
def Jg (lf:Nat) (H0:ag) (c:List SV) (s:List Nat):Prop:=
 (∃k,(k=1\/k=2)/\c=[iN k,iN 0,.str s,.ao,.ao])\/(∃x,c=[iN 3,iN 0,.str x,.ao,.ao]/\s=eB++x++gB)\/
 (∃k kv av x y,(k=2\/k=3)/\c=[iN (k+2),iN 0,.str [],kv,av]/\s=List.replicate k 123++x++y++List.replicate k 125/\uP lf 258 H0 kv x/\uP lf 339 H0 av y)\/
 (∃g kv x,(g=1\/g=2\/g=3)/\c=[iN 6,iN g,.str [],kv,.ao]/\s=bR g++x++bS g/\uP lf 258 H0 kv x)
@[reducible] def Q6 (H0:ag) (v:SV) (K:List AN) (m:Nat) (ts:T) (D:DS) (H':ag):Prop:=
  D=[]/\Ext H0 H'/\∃i:Nat,m=K.length-i/\i<=K.length/\∃z:Nat->SV,ts=((v)::z 1::z 2::(.str (aL (K.take i)))::(.int .i64 (i:Int))::zz z 5 78 []:T)/\(True)
section
variable {lf:Nat}
theorem ajU {H0:ag} {v:SV} {C:List (List SV)} {K:List AN} (hC:Rg (fun _=>True) H0 v 5 C) (hl:C.length=K.length) (bV:∀c∈C,c.all SV.one=true) (zg:K.length<=(aL K).length)
 (hP:∀(i:Nat) (c:List SV) (nd:AN),C[i]? =some c->K[i]? =some nd->Jg lf H0 c nd.s) (aC:600000<lf):uP lf 258 H0 v (aL K):=by
 refine⟨hC.one,hC.cells,hC.bq,fun n H nO bE hn=>?_⟩;obtain⟨n,rfl⟩:=aN (n:=n);have aW:=hC.cA;rw[hl]at aW;have key:∃w H',aj ak lf (n+1) 258 [v] H=some (w,H')/\w=.str (aL K)/\Ext H H':=by
  refine cx PW.1 ?_;refine af ae ?_;refine bH (I:=Q6 H v K) ?_ K.length ?_ om
  ·rintro m ts D H' ⟨rfl,hE,i,rfl,hi,⟨z,rfl, -⟩⟩;by_cases bw:i<K.length
   ·have d1:decide (((i:Nat):Int)<((K.length:Nat):Int))=true:=dt;have jI:K[i]? =some K[i]:=List.getElem?_eq_getElem bw;have oV:i<C.length:=om;have ja:C[i]? =some C[i]:=List.getElem?_eq_getElem oV;have oW:=nO.trans hE;obtain⟨b,o,x1,_,bU,x2,bO⟩:=(hC.ax (ok':=fun _=>True) oW.1 fun b _ hb=>⟨trivial,oW.2 b hb⟩).at_ ja;have ve:=hP i _ _ ja jI;have BX:=bV _ (List.mem_of_getElem? ja);obtain⟨y1,y2⟩:=GJ jI;generalize K[i]=nd at jI ve y1 y2;generalize C[i]=c at ja x2 ve BX bO;obtain⟨s,hs⟩:∃s,nd.s=s:=⟨_,rfl⟩;rw[hs]at ve y1 y2;obtain⟨acc,gx⟩:∃acc,aL (K.take i)=acc:=⟨_,rfl⟩;rw[gx]at y1 y2 ⊢;obtain⟨H5,bg⟩:∃H5,(H'.push (.row [iN 0,iN 0,.str [],.ao,.ao] 301 true false 0)).put H'.next (.row c 301 true false 0)=H5:=⟨_,rfl⟩;have bm:Ext H' H5:=by rw[<-bg];exact((Ext.refl H').push _).put (Nat.le_refl _) _
    have iG:H5.next=H'.next+1:=by rw[<-bg];rfl
    have fw:H5.get H'.next=some (.row c 301 true false 0):=by rw[<-bg];exact bT _ _
    have iH:c7 5 (.ptr H'.next 0) c (H'.push (.row [iN 0,iN 0,.str [],.ao,.ao] 301 true false 0))=some H5:=by
     rw[iL bO,iq,bd,im (by rw[bO];exact Nat.le_refl _) (Nat.le_refl _) BX,<-bg,bO];simp
    have bn:(SV.agg c).cells=c:=rfl;have qP:=hE.trans bm;have fin:∀(H6:ag) (ts:T),Ext H5 H6->(∃z:Nat->SV,ts=((v)::z 1::z 2::(.str (acc++s))::(.int .i64 ((i+1:Nat):Int))::zz z 5 78 []:T)/\(True))->Q6 H v K (K.length-(i+1)) ts [] H6:=fun H6 ts cL rz=>⟨rfl,qP.trans cL,i+1,rfl,by omega,by rw[y2];exact rz⟩
    refine af (An @aW @d1) ?_;refine ar ae ?_;refine af (An @x1 (An @x2 (An @bn @iH))) ?_;rcases ve with⟨k,hk,rfl⟩|⟨x,rfl,rfl⟩|⟨k,kv,av,x,y,hk,rfl,rfl,FK,zl⟩|⟨g,kv,x,hg,rfl,rfl,FK⟩
    ·have r0:aq (H5.get H'.next) 0 1=some [iN k]:=by rw[fw];rfl
     have r2:aq (H5.get H'.next) 2 1=some [.str s]:=by rw[fw];rfl
     have a1:bX .add (.str acc) (.str s)=some (.str (acc++s)):=eT om;rcases hk with rfl|rfl
     ·have dT:decide (((1:Nat):Int)=((1:Nat):Int))=true:=by decide
      refine af (An @r0 @dT) ?_;refine ar ae ?_;refine af ae ?_;refine ar ae ?_;refine af (An @r2 @a1) ?_;exact aT (K.length-(i+1)) om (fin _ _ (Ext.refl _) aw)
     ·have dF:decide (((2:Nat):Int)=((1:Nat):Int))=false:=by decide
      have dT:decide (((2:Nat):Int)=((2:Nat):Int))=true:=by decide
      refine af (An @r0 @dF) ?_;refine ah ae ?_;refine af @dT ?_;refine ar ae ?_;refine af (An @r2 @a1) ?_;exact aT (K.length-(i+1)) om (fin _ _ (Ext.refl _) aw)
    ·have dF:∀j:Nat,j≠3->decide (((3:Nat):Int)=((j:Nat):Int))=false:=fun j hj=>by simp only[decide_eq_false_iff_not];omega
     have dT:decide (((3:Nat):Int)=((3:Nat):Int))=true:=by decide
     have r0:aq (H5.get H'.next) 0 1=some [iN 3]:=by rw[fw];rfl
     have r2:aq (H5.get H'.next) 2 1=some [.str x]:=by rw[fw];rfl
     have rh:(eB++x++gB).length=17+x.length:=by simp[eB,gB];omega
     rw[rh]at y1;have a1:bX .add (.str acc) (.str [60,110,111,119,105,107,105,62])=some (.str (acc++eB)):=eT (by simp;omega);have a2:bX .add (.str (acc++eB)) (.str x)=some (.str (acc++eB++x)):=eT (by simp[eB];omega);have a3:bX .add (.str (acc++eB++x)) (.str [60,47,110,111,119,105,107,105,62])=some (.str (acc++(eB++x++gB))):=by
      have:acc++(eB++x++gB)=acc++eB++x++gB:=by simp only[List.append_assoc]
      rw[this];exact eT (by simp[eB];omega)
     refine af (An @r0 @dF) ?_;refine ah ae ?_;refine af @dF ?_;refine ah ae ?_;refine af @dT ?_;refine ar ae ?_;refine af (An @r2 (An @a1 (An @a2 @a3))) ?_;exact aT (K.length-(i+1)) om (fin _ _ (Ext.refl _) aw)
    ·obtain⟨_,aeF,rf,zt⟩:=FK;obtain⟨_,anV,TR,Fs⟩:=zl;rcases hk with rfl|rfl
     ·have rh:(List.replicate 2 123++x++y++List.replicate 2 125).length=4+x.length+y.length:=by simp;omega
      rw[rh]at y1;have dF:∀j:Nat,j≠4->decide (((4:Nat):Int)=((j:Nat):Int))=false:=fun j hj=>by simp only[decide_eq_false_iff_not];omega
      have dT:decide (((4:Nat):Int)=((4:Nat):Int))=true:=by decide
      have r0:aq (H5.get H'.next) 0 1=some [iN 4]:=by rw[fw];rfl
      obtain⟨H6,cP,cL⟩:=zt n H5 (oW.trans bm) om om;obtain⟨H7,iD,dV⟩:=Fs n H6 ((oW.trans bm).trans cL) om om;have iC:=(cL.2 H'.next om).trans fw;have lD:=(dV.2 H'.next (by have:=cL.1;omega)).trans iC;have yb:aq (H5.get H'.next) 3 1=some [kv]:=by rw[fw];rfl
      have Ap:aq (H6.get H'.next) 3 1=some [kv]:=by rw[iC];rfl
      have C8:aq (H7.get H'.next) 3 1=some [kv]:=by rw[lD];rfl
      have Od:aq (H5.get H'.next) 4 1=some [av]:=by rw[fw];rfl
      have C9:aq (H6.get H'.next) 4 1=some [av]:=by rw[iC];rfl
      have Oe:aq (H7.get H'.next) 4 1=some [av]:=by rw[lD];rfl
      have a1:bX .add (.str acc) (.str [123,123])=some (.str (acc++[123,123])):=eT (by simp;omega);have a2:bX .add (.str (acc++[123,123])) (.str x)=some (.str (acc++[123,123]++x)):=eT (by simp;omega);have a3:bX .add (.str (acc++[123,123]++x)) (.str y)=some (.str (acc++[123,123]++x++y)):=eT (by simp;omega);have a4:bX .add (.str (acc++[123,123]++x++y)) (.str [125,125])=some (.str (acc++(List.replicate 2 123++x++y++List.replicate 2 125))):=by
       have:acc++(List.replicate 2 123++x++y++List.replicate 2 125)=acc++[123,123]++x++y++[125,125]:=by simp only[List.append_assoc];rfl
       rw[this];exact eT (by simp;omega)
      refine af (An @r0 @dF) ?_;refine ah ae ?_;refine af @dF ?_;refine ah ae ?_;refine af @dF ?_;refine ah ae ?_;refine af @dT ?_;refine ar dT ?_;refine dG rfl ?_;refine af (An @yb @a1) ?_;refine dH (by exact aZ trivial) cP bW ?_;refine af (An @a2 @C9) ?_;refine dH (by exact aZ trivial) iD bW ?_;refine af (An @a3 @a4) ?_;refine dB ?_ ?_
      ·exact dh (An @yb (An @Ap (An @C8 (An @Od (An @C9 (An @Oe (An @rf @TR)))))))
      ·refine af ae ?_;exact aT (K.length-(i+1)) om (fin _ _ (cL.trans dV) aw)
     ·have rh:(List.replicate 3 123++x++y++List.replicate 3 125).length=6+x.length+y.length:=by simp;omega
      rw[rh]at y1;have dF:∀j:Nat,j≠5->decide (((5:Nat):Int)=((j:Nat):Int))=false:=fun j hj=>by simp only[decide_eq_false_iff_not];omega
      have dT:decide (((5:Nat):Int)=((5:Nat):Int))=true:=by decide
      have r0:aq (H5.get H'.next) 0 1=some [iN 5]:=by rw[fw];rfl
      obtain⟨H6,cP,cL⟩:=zt n H5 (oW.trans bm) om om;obtain⟨H7,iD,dV⟩:=Fs n H6 ((oW.trans bm).trans cL) om om;have iC:=(cL.2 H'.next om).trans fw;have lD:=(dV.2 H'.next (by have:=cL.1;omega)).trans iC;have yb:aq (H5.get H'.next) 3 1=some [kv]:=by rw[fw];rfl
      have Ap:aq (H6.get H'.next) 3 1=some [kv]:=by rw[iC];rfl
      have C8:aq (H7.get H'.next) 3 1=some [kv]:=by rw[lD];rfl
      have Od:aq (H5.get H'.next) 4 1=some [av]:=by rw[fw];rfl
      have C9:aq (H6.get H'.next) 4 1=some [av]:=by rw[iC];rfl
      have Oe:aq (H7.get H'.next) 4 1=some [av]:=by rw[lD];rfl
      have a1:bX .add (.str acc) (.str [123,123,123])=some (.str (acc++[123,123,123])):=eT (by simp;omega);have a2:bX .add (.str (acc++[123,123,123])) (.str x)=some (.str (acc++[123,123,123]++x)):=eT (by simp;omega);have a3:bX .add (.str (acc++[123,123,123]++x)) (.str y)=some (.str (acc++[123,123,123]++x++y)):=eT (by simp;omega);have a4:bX .add (.str (acc++[123,123,123]++x++y)) (.str [125,125,125])=some (.str (acc++(List.replicate 3 123++x++y++List.replicate 3 125))):=by
       have:acc++(List.replicate 3 123++x++y++List.replicate 3 125)=acc++[123,123,123]++x++y++[125,125,125]:=by simp only[List.append_assoc];rfl
       rw[this];exact eT (by simp;omega)
      refine af (An @r0 @dF) ?_;refine ah ae ?_;refine af @dF ?_;refine ah ae ?_;refine af @dF ?_;refine ah ae ?_;refine af @dF ?_;refine ah ae ?_;refine af @dT ?_;refine ar dT ?_;refine dG rfl ?_;refine af (An @yb @a1) ?_;refine dH (by exact aZ trivial) cP bW ?_;refine af (An @a2 @C9) ?_;refine dH (by exact aZ trivial) iD bW ?_;refine af (An @a3 @a4) ?_;refine dB ?_ ?_
      ·exact dh (An @yb (An @Ap (An @C8 (An @Od (An @C9 (An @Oe (An @rf @TR)))))))
      ·refine af ae ?_;exact aT (K.length-(i+1)) om (fin _ _ (cL.trans dV) aw)
    ·obtain⟨_,aeF,rf,zt⟩:=FK;have dF:∀j:Nat,j≠6->decide (((6:Nat):Int)=((j:Nat):Int))=false:=fun j hj=>by simp only[decide_eq_false_iff_not];omega
     have dT:decide (((6:Nat):Int)=((6:Nat):Int))=true:=by decide
     have g1:decide (((g:Nat):Int)>=((1:Nat):Int))=true:=dt;have g2:decide (((g:Nat):Int)<=((3:Nat):Int))=true:=dt;have fA:11<=(bR g).length/\(bR g).length<100/\(bS g).length<100:=by rcases hg with rfl|rfl|rfl<;>decide
     have rh:(bR g++x++bS g).length=(bR g).length+x.length+(bS g).length:=by rw[List.length_append,List.length_append]
     rw[rh]at y1;have r0:aq (H5.get H'.next) 0 1=some [iN 6]:=by rw[fw];rfl
     obtain⟨H6,cP,cL⟩:=G7 (lf:=lf) (n:=n) (H:=H5) hg om;obtain⟨H7,iD,dV⟩:=zt n H6 ((oW.trans bm).trans cL) om om;obtain⟨H8,mr,mf⟩:=Ot (lf:=lf) (n:=n) (H:=H7) hg om;have iC:=(cL.2 H'.next om).trans fw;have lD:=(dV.2 H'.next (by have:=cL.1;omega)).trans iC;have pV:=(mf.2 H'.next (by have:=cL.1;have:=dV.1;omega)).trans lD;have Ob:aq (H5.get H'.next) 1 1=some [iN g]:=by rw[fw];rfl
     have r16:aq (H6.get H'.next) 1 1=some [iN g]:=by rw[iC];rfl
     have Xe:aq (H7.get H'.next) 1 1=some [iN g]:=by rw[lD];rfl
     have r18:aq (H8.get H'.next) 1 1=some [iN g]:=by rw[pV];rfl
     have yb:aq (H5.get H'.next) 3 1=some [kv]:=by rw[fw];rfl
     have Ap:aq (H6.get H'.next) 3 1=some [kv]:=by rw[iC];rfl
     have C8:aq (H7.get H'.next) 3 1=some [kv]:=by rw[lD];rfl
     have r38:aq (H8.get H'.next) 3 1=some [kv]:=by rw[pV];rfl
     have BV:bD (iN g) (iN g)=true:=RG ..;obtain⟨o1,Mv⟩:∃o,bR g=o:=⟨_,rfl⟩;obtain⟨o2,ig⟩:∃o,bS g=o:=⟨_,rfl⟩;rw[Mv]at cP fA fin y1;rw[ig]at mr fA fin y1;have a1:bX .add (.str acc) (.str o1)=some (.str (acc++o1)):=eT om;have a2:bX .add (.str (acc++o1)) (.str x)=some (.str (acc++o1++x)):=eT (by simp;omega);have a3:bX .add (.str (acc++o1++x)) (.str o2)=some (.str (acc++(o1++x++o2))):=by
      have:acc++(o1++x++o2)=acc++o1++x++o2:=by simp only[List.append_assoc]
      rw[this];exact eT (by simp;omega)
     refine af (An @r0 @dF) ?_;refine ah ae ?_;refine af @dF ?_;refine ah ae ?_;refine af @dF ?_;refine ah ae ?_;refine af @dF ?_;refine ah ae ?_;refine af @dF ?_;refine ah ae ?_;refine af @dT ?_;refine ar ae ?_;refine af (An @Ob (An @g1 @g2)) ?_;refine ar ae ?_;refine dG rfl ?_;refine af @Ob ?_;refine dH (by exact aZ trivial) cP bW ?_;refine af (An @a1 @Ap) ?_;refine dH (by exact aZ trivial) iD bW ?_;refine af (An @a2 @Xe) ?_;refine dH (by exact aZ trivial) mr bW ?_;refine af @a3 ?_;refine dB ?_ ?_
     ·exact dh (An @Ob (An @r16 (An @Xe (An @r18 (An @yb (An @Ap (An @C8 (An @r38 (An @rf @BV)))))))))
     ·refine af ae ?_;exact aT (K.length-(i+1)) om (fin _ _ (cL.trans (dV.trans mf)) aw)
   ·have bw:i=K.length:=om;subst bw;have d1:decide (((K.length:Nat):Int)<((K.length:Nat):Int))=false:=by simp
    rw[List.take_length];refine af (An @aW @d1) ?_;refine ah ae ?_;refine af ae ?_;refine aO ae ?_;exact(⟨rfl,hE⟩)
  ·exact⟨rfl,Ext.refl _,0,rfl,Nat.zero_le _,aw⟩
 obtain⟨w,H',h,rfl,h1⟩:=key;exact⟨H',h,h1⟩
end
end
section
@[reducible] def Q7 (H0:ag) (v:SV) (A:List AA) (m:Nat) (ts:T) (D:DS) (H':ag):Prop:=
  D=[]/\Ext H0 H'/\∃i:Nat,m=A.length-i/\i<=A.length/\∃z:Nat->SV,ts=((v)::z 1::z 2::(.str (bN (A.take i)))::(.int .i64 (i:Int))::zz z 5 31 []:T)/\(True)
section
variable {lf:Nat}
theorem ajf {H0:ag} {v:SV} {D:List (List SV)} {A:List AA} (hD:Rg (fun _=>True) H0 v 3 D) (hl:D.length=A.length)
 (hP:∀(i:Nat) (d:List SV) (a:AA),D[i]? =some d->A[i]? =some a->∃nv vv,d=[.bool a.1,nv,vv]/\uP lf 258 H0 nv (aL a.2.1)/\uP lf 258 H0 vv (aL a.2.2)) (aC:600000<lf):uP lf 339 H0 v (bN A):=by
 refine⟨hD.one,hD.cells,hD.bq,fun n H nO bE hn=>?_⟩;obtain⟨n,rfl⟩:=aN (n:=n);have aW:=hD.cA;rw[hl]at aW;have hAl:=qz A;have key:∃w H',aj ak lf (n+1) 339 [v] H=some (w,H')/\w=.str (bN A)/\Ext H H':=by
  refine cx Qh.1 ?_;refine af ae ?_;refine bH (I:=Q7 H v A) ?_ A.length ?_ om
  ·rintro m ts D' H' ⟨rfl,hE,i,rfl,hi,⟨z,rfl, -⟩⟩;by_cases bw:i<A.length
   ·have d1:decide (((i:Nat):Int)<((A.length:Nat):Int))=true:=dt;have qM:A[i]? =some A[i]:=List.getElem?_eq_getElem bw;have wU:i<D.length:=om;have tG:D[i]? =some D[i]:=List.getElem?_eq_getElem wU;have oW:=nO.trans hE;obtain⟨b,o,x1,_,bU,x2,_⟩:=(hD.ax (ok':=fun _=>True) oW.1 fun b _ hb=>⟨trivial,oW.2 b hb⟩).at_ tG;obtain⟨nv,vv,hd,⟨n1,n2,n3,n4⟩,v1,v2,v3,v4⟩:=hP i _ _ tG qM;rw[hd]at x2;obtain⟨y1,y2⟩:=En qM;have y3:bN (A.take (i+1))=bN (A.take i)++gL A[i]:=by rw[y2,vT];simp[bN]
    generalize A[i]=a at qM x2 n4 v4 y1 y3;obtain⟨ab,N,V⟩:=a;obtain⟨acc,gx⟩:∃acc,bN (A.take i)=acc:=⟨_,rfl⟩;rw[gx]at y1 y3 ⊢;dsimp only at n4 v4 x2;have r0:aq (H'.get b) o 1=some [.bool ab]:=by have:=lx x2 (i:=0) (m:=1) om;simpa using this
    have r1:aq (H'.get b) (o+1) 1=some [nv]:=lx x2 (i:=1) (m:=1) om;have fin:∀(H6:ag) (ts:T),Ext H' H6->(∃z:Nat->SV,ts=((v)::z 1::z 2::(.str (acc++gL (ab,N,V)))::(.int .i64 ((i+1:Nat):Int))::zz z 5 31 []:T)/\(True))->Q7 H v A (A.length-(i+1)) ts [] H6:=fun H6 ts cL rz=>⟨rfl,hE.trans cL,i+1,rfl,by omega,by rw[y3];exact rz⟩
    cases ab with
    |false=>
     have hs:gL (false,N,V)=[124]++aL V:=rfl;rw[hs]at y1 fin;rw[List.length_append,List.length_singleton]at y1;obtain⟨H6,cP,cL⟩:=v4 n H' oW om om;have r2:aq (H'.get b) (o+2) 1=some [vv]:=lx x2 (i:=2) (m:=1) om;have a1:bX .add (.str acc) (.str [124])=some (.str (acc++[124])):=eT (by simp;omega);have a2:bX .add (.str (acc++[124])) (.str (aL V))=some (.str (acc++([124]++aL V))):=by rw[<-List.append_assoc];exact eT (by simp;omega)
     refine af (An @aW @d1) ?_;refine ar ae ?_;refine af (An @a1 (An @x1 @r0)) ?_;refine ah ae ?_;refine af (An @x1 @r2) ?_;refine ai ae cP ?_;refine af @a2 ?_;exact aT (A.length-(i+1)) om (fin _ _ cL aw)
    |true=>
     have hs:gL (true,N,V)=[124]++aL N++[61]++aL V:=by simp[gL]
     rw[hs]at y1 fin;rw[List.length_append,List.length_append,List.length_append,List.length_singleton,List.length_singleton]at y1;obtain⟨H6,cP,cL⟩:=n4 n H' oW om om;obtain⟨H7,iD,dV⟩:=v4 n H6 (oW.trans cL) om om;have r2:aq (H6.get b) (o+2) 1=some [vv]:=by rw[cL.2 b bU];exact lx x2 (i:=2) (m:=1) om
     have a1:bX .add (.str acc) (.str [124])=some (.str (acc++[124])):=eT (by simp;omega);have a2:bX .add (.str (acc++[124])) (.str (aL N))=some (.str (acc++[124]++aL N)):=eT (by simp;omega);have a3:bX .add (.str (acc++[124]++aL N)) (.str [61])=some (.str (acc++[124]++aL N++[61])):=eT (by simp;omega);have a4:bX .add (.str (acc++[124]++aL N++[61])) (.str (aL V))=some (.str (acc++([124]++aL N++[61]++aL V))):=by
      have:acc++([124]++aL N++[61]++aL V)=acc++[124]++aL N++[61]++aL V:=by simp only[List.append_assoc]
      rw[this];exact eT (by simp;omega)
     refine af (An @aW @d1) ?_;refine ar ae ?_;refine af (An @a1 (An @x1 @r0)) ?_;refine ar ae ?_;refine af (An @x1 @r1) ?_;refine ai ae cP ?_;refine af (An @a2 (An @a3 (An @x1 @r2))) ?_;refine ai ae iD ?_;refine af @a4 ?_;exact aT (A.length-(i+1)) om (fin _ _ (cL.trans dV) aw)
   ·have bw:i=A.length:=om;subst bw;have d1:decide (((A.length:Nat):Int)<((A.length:Nat):Int))=false:=by simp
    rw[List.take_length];refine af (An @aW @d1) ?_;refine ah ae ?_;refine af ae ?_;refine aO ae ?_;exact(⟨rfl,hE⟩)
  ·exact⟨rfl,Ext.refl _,0,rfl,Nat.zero_le _,aw⟩
 obtain⟨w,H',h,rfl,h1⟩:=key;exact⟨H',h,h1⟩
theorem Dd {H0:ag} {v:SV} {C:List (List SV)} {K:List AN} (hC:Rg (fun _=>True) H0 v 5 C) (hl:C.length=K.length) (hn:∀(i:Nat) (c:List SV) (nd:AN),C[i]? =some c->K[i]? =some nd->Nd (fun _=>True) H0 c nd)
 (hP:∀(i:Nat) (c:List SV) (nd:AN),C[i]? =some c->K[i]? =some nd->Jg lf H0 c nd.s) (aC:600000<lf):uP lf 258 H0 v (aL K):=
 ajU hC hl (fun c hc=>by
  obtain⟨b,_,hr⟩:=(bG.of hl hn).vD c hc;exact hr.one) (xV fun m hm=>by
  obtain⟨b,_,hr⟩:=(bG.of hl hn).mem m hm;exact hr.ne) hP aC
theorem ahb {H0:ag} {c:List SV} {nd:AN} (h:Nd (fun _=>True) H0 c nd) (aC:600000<lf):Jg lf H0 c nd.s:=by
 induction h with
 |text s h=>exact .inl ⟨1,.inl rfl,rfl⟩
 |comment s h=>exact .inl ⟨2,.inr rfl,rfl⟩
 |sR s=>exact .inr (.inl ⟨s,rfl,rfl⟩)
 |qC k hk kv av C D K A nC vC hC hl hn hD hA ha h1 h2 ih zR zS=>
  refine .inr (.inr (.inl ⟨k,kv,av,aL K,bN A,hk,rfl,rfl,Dd hC hl hn ih aC,ajf hD hA (fun i d a hd nf=>?_) aC⟩));obtain⟨nv,vv,e,g1,g2,g3,g4⟩:=ha i d a hd nf;exact⟨nv,vv,e,Dd g1 g2 (fun j c n=>h1 i j a c n nf) (fun j c n=>zR i j a c n nf) aC,Dd g3 g4 (fun j c n=>h2 i j a c n nf) (fun j c n=>zS i j a c n nf) aC⟩
 |tag g hg kv C K hC hl hn ih=>exact .inr (.inr (.inr ⟨g,kv,aL K,hg,rfl,rfl,Dd hC hl hn ih aC⟩))
theorem ajT {n:Nat} {H:ag} {v:SV} {K:List AN} (h:NL (fun _=>True) H v K) (hl:(aL K).length<500000) (hn:3*(aL K).length+10<=n) (aC:600000<lf):
 ∃H',aj ak lf n 258 [v] H=some (.str (aL K),H')/\Ext H H':=by
 obtain⟨C,hC,hA⟩:=h;exact(Dd hC hA.len (fun i c nd h1 h2=>hA.get h1 h2) (fun i c nd h1 h2=>ahb (hA.get h1 h2) aC) aC).2.2.2 n H (Ext.refl _) hl hn
end
end
section
def NS (H:ag) (v:SV) (K:List AN):Prop:=∃C,br H v 5 C/\bG (Nd (fun _=>True) H) C K
theorem NS.nl {H:ag} {v:SV} {K:List AN} (h:NS H v K):NL (fun _=>True) H v K:=by
 obtain⟨C,h1,h2⟩:=h;exact⟨C,h1.rg,h2⟩
def rZ (l:List Bool):List (List SV):=l.map fun b=>[SV.bool b]
theorem RD (l:List Bool):dq 1 (rZ l):=by
 intro x hx;obtain⟨t,_,rfl⟩:=List.mem_map.1 hx;rfl
theorem aa1 (l:List Bool):(rZ l).length=l.length:=by simp[rZ]
@[reducible] def ZE (H0:ag) (v:SV) (K:List AN) (m:Nat) (ts:T) (D:DS) (H':ag):Prop:=
  D=[]/\Ext H0 H'/\∃(i:Nat) (w:SV),m=K.length-i/\i<=K.length/\Sl H0.next 4 1 H' w (rZ (kP (K.take i)))/\∃z:Nat->SV,ts=((v)::z 1::z 2::(w)::(.int .i64 (i:Int))::zz z 5 30 []:T)/\(True)
@[reducible] def Z8 (H0:ag) (v:SV) (K:List AN) (i:Nat) (nd:AN) (m:Nat) (ts:T) (D:DS) (H':ag):Prop:=
  D=[]/\Ext H0 H'/\∃(k:Nat) (w:SV),m=nd.s.length-k/\k<=nd.s.length/\Sl H0.next 4 1 H' w (rZ (kP (K.take i)++List.replicate k nd.t))/\∃z:Nat->SV,ts=((v)::z 1::z 2::(w)::(.int .i64 (i:Int))::(.int .i64 (nd.s.length:Int))::(.int .i64 (k:Int))::zz z 7 28 []:T)/\(True)
section
variable {lf n:Nat} {H:ag}
theorem ajQ {v:SV} {K:List AN} (h:NS H v K) (hlen:(aL K).length<=8192) (hn:3*(aL K).length+12<=n) (aC:600000<lf):
 ∃(w:SV) (H':ag),aj ak lf n 188 [v] H=some (w,H')/\Ext H H'/\Sl H.next 4 1 H' w (rZ (kP K)):=by
 obtain⟨n,rfl⟩:=aN (n:=n);have hle:=h.nl.le;obtain⟨C,hC,hA⟩:=h;have aW:=hC.cA;rw[hA.len]at aW;have key:∃w H',aj ak lf (n+1) 188 [v] H=some (w,H')/\Ext H H'/\Sl H.next 4 1 H' w (rZ (kP K)):=by
  refine cx PI.1 ?_;refine af ae ?_;refine bH (I:=ZE H v K) ?_ K.length ?_ om
  ·rintro m ts D H' ⟨rfl,hE,i,w,rfl,hi,bE,⟨z,rfl, -⟩⟩;by_cases bw:i<K.length
   ·have d1:decide (((i:Nat):Int)<((K.length:Nat):Int))=true:=dt;have jI:K[i]? =some K[i]:=List.getElem?_eq_getElem bw;have oV:i<C.length:=by rw[hA.len];exact bw
    have ja:C[i]? =some C[i]:=List.getElem?_eq_getElem oV;obtain⟨b,o,x1,bU,x2,bO⟩:=(hC.ax hE).at_ ja;obtain⟨u,hu,Vp⟩:=(hC.ax hE).aiW ja;have jj:=(hA.get ja jI).ax (ok':=fun _=>True) hE.1 fun b _ hb=>⟨trivial,hE.2 b hb⟩
    obtain⟨y1,y2⟩:=GJ jI;have y3:=W0 jI;have U8:(kP (K.take i)).length+K[i].s.length<=(aL K).length:=by rw[WZ];exact y1
    generalize K[i]=nd at jI y1 y2 y3 jj U8;generalize C[i]=c at ja x2 bO jj Vp;obtain⟨k0,re,eW⟩:=WA jj;have fH:aL [nd]=nd.s:=uE nd;obtain⟨H2,aH,aF⟩:=ajT (lf:=lf) (n:=n) (H:=H') (v:=u) (K:=[nd]) ⟨[c],Vp,jj,trivial⟩ (by rw[fH];omega) (by rw[fH];omega) aC;rw[fH]at aH;refine af (An @aW @d1) ?_;refine ar ae ?_;refine af (An @aiK (And.intro (c8 (k:=i) om) @hu)) ?_;refine ai ae aH ?_;refine af ae ?_;refine bH (I:=Z8 H v K i nd) ?_ nd.s.length ?_ om
    ·rintro m ts D H3 ⟨rfl,hF,k,w3,rfl,hk,F8,⟨z,rfl, -⟩⟩;by_cases p0:k<nd.s.length
     ·have d2:decide (((k:Nat):Int)<((nd.s.length:Nat):Int))=true:=dt;obtain⟨b,o,x1,bU,x2,bO⟩:=(hC.ax hF).at_ ja;have r0:aq (H3.get b) o 1=some [iN k0]:=by
       have:=lx x2 (i:=0) (m:=1) om;rw[Nat.add_zero,List.drop_zero,re]at this;exact this
      have bz:Ext H3 (H3.push (.row [SV.bool nd.t] 4 true false 0)):=(Ext.refl H3).push _;obtain⟨v2,H5,h1,h2,h3,h4⟩:=wt (x:=[SV.bool nd.t]) (F8.ax bz) (RD _) rfl rfl (bd _) (Nat.le_trans hF.1 bz.1) (by rw[aa1,List.length_append,List.length_replicate];omega) 1 (by decide);refine af @d2 ?_;refine ar ae ?_;refine af (An @x1 (An @r0 (An @eW @h1))) ?_;refine aT (nd.s.length-(k+1)) om ⟨rfl,⟨by have:=hF.1;have:=bz.1;omega,fun q hq=>(h4 q hq).trans ((bz.2 q (Nat.lt_of_lt_of_le hq hF.1)).trans (hF.2 q hq))⟩,k+1,v2,rfl,by omega,?_,aw⟩;rw[List.replicate_succ',<-List.append_assoc];unfold rZ at h2 ⊢;rw[List.map_append];exact h2
     ·have eJ:k=nd.s.length:=om;subst eJ;have d2:decide (((nd.s.length:Nat):Int)<((nd.s.length:Nat):Int))=false:=by simp
      refine af @d2 ?_;refine ah ae ?_;refine af ae ?_;refine aT (K.length-(i+1)) om ⟨rfl,hF,i+1,w3,rfl,by omega,by rw[y3];exact F8,aw⟩
    ·exact⟨rfl,hE.trans aF,0,w,by omega,Nat.zero_le _,by rw[List.replicate_zero,List.append_nil];exact bE.ax aF,aw⟩
   ·have bw:i=K.length:=om;subst bw;have d1:decide (((K.length:Nat):Int)<((K.length:Nat):Int))=false:=by simp
    rw[List.take_length]at bE;refine af (An @aW @d1) ?_;refine ah ae ?_;refine af ae ?_;refine aO ae ?_;exact(⟨hE,bE⟩)
  ·exact⟨rfl,Ext.refl _,0,.ao,rfl,Nat.zero_le _,.inl ⟨rfl,rfl⟩,aw⟩
 exact key
end
end
end Go.Sh
