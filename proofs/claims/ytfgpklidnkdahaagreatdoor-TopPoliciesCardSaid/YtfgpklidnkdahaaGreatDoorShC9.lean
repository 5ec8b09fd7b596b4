/-
  The tokens of the program are those of the plain law. No conditions beyond those that stand in the theorems.
-/
import Derived.Test.YtfgpklidnkdahaaGreatDoorShC7
set_option linter.all false
set_option maxHeartbeats 20000000
set_option maxRecDepth 10000
namespace Go.Sh
section
theorem alf:ak 91=some (.native sQ):=by kernel_rfl
theorem N6 {a s:List Nat} (h:a.length<=s.length):decide (s.take a.length=a)=pre a s:=by
 cases hp:pre a s with
 |true=>rw[decide_eq_true (xX.1 hp)]
 |false=>
  rw[decide_eq_false];intro e;rw[xX.2 e]at hp;cases hp
theorem N8 {a s:List Nat} (h:s.length<a.length):pre a s=false:=by
 cases hp:pre a s with
 |true=>have:=oE hp;omega
 |false=>rfl
def vA (o:Option Nat):Int:=match o with
 |some k=>(k:Int)
 |none=> -1
@[reducible] def ZT (H0:ag) (c:Nat) (s:List Nat) (m:Nat) (ts:T) (D:DS) (H':ag):Prop:=
  D=[]/\H'=H0/\∃i:Nat,m=s.length-i/\i<=s.length/\cT c s=i+cT c (s.drop i)/\∃z:Nat->SV,ts=((.str s)::(.int .u8 (c:Int))::zz z 2 3 ((.int .i64 (i:Int))::zz z 6 14 []):T)/\(True)
theorem Gy (c x:Nat) (s:List Nat):cT c (x::s)=if x=c then cT c s+1 else 0:=by
 show(match Nat.beq x c with|true=>cT c s+1|false=>0)=_;by_cases h:x=c
 ·rw[if_pos h,beq_true h]
 ·rw[if_neg h,beq_false h]
section
variable {lf n:Nat} {H:ag}
theorem Lw {s t:List Nat} (hn:2<=n):aj ak lf n 171 [.str s,.str t] H=some (.bool (pre t s),H):=by
 obtain⟨n,rfl⟩:=aN (n:=n);have adx:aj ak lf n 239 [.str s,.str t] H=some (.bool (pre t s),H):=by
  obtain⟨n,rfl⟩:=aN (n:=n);have key:∃w H',aj ak lf (n+1) 239 [.str s,.str t] H=some (w,H')/\w=.bool (pre t s)/\H'=H:=by
   by_cases hl:t.length<=s.length
   ·have d1:decide (((s.length:Nat):Int)>=((t.length:Nat):Int))=true:=dt;have hp:=N6 hl;refine cx DJ.1 ?_;refine af (An @d1 (An @Nat.sub_zero @hp)) ?_;refine aO ae ?_;exact(⟨rfl,rfl⟩)
   ·have d1:decide (((s.length:Nat):Int)>=((t.length:Nat):Int))=false:=df;refine cx DJ.1 ?_;refine af @d1 ?_;refine aO ae ?_;exact(⟨by rw[N8 om],rfl⟩)
  obtain⟨w,H',h,rfl,rfl⟩:=key;exact h
 have key:∃w H',aj ak lf (n+1) 171 [.str s,.str t] H=some (w,H')/\w=.bool (pre t s)/\H'=H:=by
  refine cx Iv.1 ?_;refine af ae ?_;refine ai ae adx ?_;refine af ae ?_;refine aO ae ?_;exact(⟨rfl,rfl⟩)
 obtain⟨w,H',h,rfl,rfl⟩:=key;exact h
theorem Ni {s t:List Nat} (hs:s.length<100000) (hn:1<=n):aj ak lf n 91 [.str s,.str t] H=some (.int .i64 (vA (dx t s)),H):=by
 obtain⟨n,rfl⟩:=aN (n:=n);simp only[aj,alf];show(match Nat.blt s.length 4294967281 with|true=>some (SV.int .i64 (jy s t 0),H)|false=>none)=_;rw[qB om,Nl];cases dx t s with
 |none=>rfl
 |some k=>simp[vA]
theorem aj8 {s:List Nat} {c:Nat} (hs:s.length<100000) (hn:1<=n) (aC:100000<lf):aj ak lf n 344 [.str s,.int .u8 (c:Int)] H=some (iN (cT c s),H):=by
 obtain⟨n,rfl⟩:=aN (n:=n);have key:∃w H',aj ak lf (n+1) 344 [.str s,.int .u8 (c:Int)] H=some (w,H')/\w=iN (cT c s)/\H'=H:=by
  refine cx IP.1 ?_;refine af ae ?_;refine bH (I:=ZT H c s) ?_ s.length ?_ om
  ·rintro m ts D H' ⟨rfl,rfl,i,rfl,hi,hL,⟨z,rfl, -⟩⟩;by_cases bw:i<s.length
   ·have d1:decide (((i:Nat):Int)<((s.length:Nat):Int))=true:=dt;have fQ:=List.getElem?_eq_getElem bw;have hd:=List.drop_eq_getElem_cons bw;generalize s[i]=b at fQ hd;rw[hd,Gy]at hL;by_cases oZ:b=c
    ·have d2:decide (((b:Nat):Int)=((c:Nat):Int))=true:=by rw[oZ];simp
     rw[if_pos oZ]at hL;refine af (An @d1 (An @fQ @d2)) ?_;refine ar ae ?_;refine af (c8 (k:=i) om) ?_;refine aT (s.length-(i+1)) om ⟨rfl,rfl,i+1,rfl,by omega,by omega,aw⟩
    ·have d2:decide (((b:Nat):Int)=((c:Nat):Int))=false:=df;rw[if_neg oZ]at hL;refine af (An @d1 (An @fQ @d2)) ?_;refine ah ae ?_;refine af ae ?_;refine aO ae ?_;exact(⟨by rw[hL,Nat.add_zero],rfl⟩)
   ·have d1:decide (((i:Nat):Int)<((s.length:Nat):Int))=false:=df;have hd:s.drop i=[]:=List.drop_of_length_le om;rw[hd]at hL;refine af @d1 ?_;refine ah ae ?_;refine af ae ?_;refine aO ae ?_;exact(⟨by rw[hL];rfl,rfl⟩)
  ·exact⟨rfl,rfl,0,rfl,Nat.zero_le _,by simp,aw⟩
 obtain⟨w,H',h,rfl,rfl⟩:=key;exact h
theorem ag1 (hn:1<=n):∃H',aj ak lf n 378 [] H=some (.agg [.str (cV 1),.str (cV 2),.str (cV 3)],H')/\Ext H H':=by
 obtain⟨n,rfl⟩:=aN (n:=n);have key:∃w H',aj ak lf (n+1) 378 [] H=some (w,H')/\w=.agg [.str (cV 1),.str (cV 2),.str (cV 3)]/\Ext H H':=by
  obtain⟨H1,ay⟩:∃H1,(H.push (.row [.str [],.str [],.str []] 400 true false 0)).put H.next (.row [.str (cV 1),.str (cV 2),.str (cV 3)] 400 true false 0)=H1:=⟨_,rfl⟩;have aB:Ext H H1:=by rw[<-ay];exact((Ext.refl H).push _).put (Nat.le_refl _) _
  have aD:c7 3 (.ptr H.next 0) [.str (cV 1),.str (cV 2),.str (cV 3)] (H.push (.row [.str [],.str [],.str []] 400 true false 0))=some H1:=by
   rw[iL (n:=3) (cs:=[.str (cV 1),.str (cV 2),.str (cV 3)]) rfl,iq,bd,im (Nat.le_refl _) (Nat.le_refl _) rfl,<-ay];rfl
  have hr:aq (H1.get H.next) 0 3=some [.str (cV 1),.str (cV 2),.str (cV 3)]:=by rw[<-ay,bT];rfl
  have e1:cV 1=[110,111,105,110,99,108,117,100,101]:=rfl;have e2:cV 2=[105,110,99,108,117,100,101,111,110,108,121]:=rfl;have e3:cV 3=[111,110,108,121,105,110,99,108,117,100,101]:=rfl;rw[e1,e2,e3]at aD hr ⊢;refine cx Qn.1 ?_;refine af @aD ?_;refine aO @hr ?_;exact(⟨rfl,aB⟩)
 obtain⟨w,H',h,rfl,h2⟩:=key;exact⟨H',h,h2⟩
def HV (f:Nat->List Nat) (o:List Nat):Prop:=o.length<=2/\∀k,k=1\/k=2\/k=3->f k=o++cV k++[62]
theorem Ph:HV bR [60]:=⟨by decide,fun k _=>rfl⟩
theorem Pg:HV bS [60,47]:=⟨by decide,fun k _=>rfl⟩
def kR (f:Nat->List Nat) (w:Nat):Nat:=if w=0 then 0 else(f w).length
@[reducible] def ZU (H0:ag) (f:Nat->List Nat) (o s:List Nat) (m:Nat) (ts:T) (D:DS) (H':ag):Prop:=
  D=[]/\H'=H0/\∃i:Nat,m=3-i/\i<=3/\(∀k,1<=k->k<=i->pre (f k) s=false)/\∃z:Nat->SV,ts=((.str s)::(.str o)::zz z 2 7 ((.agg [.str (cV 1),.str (cV 2),.str (cV 3)])::(.int .i64 (i:Int))::zz z 11 15 []):T)/\(True)
theorem OU {f:Nat->List Nat} {s:List Nat} {i:Nat} (hi:i<3) (h:∀k,1<=k->k<=i->pre (f k) s=false) (hp:pre (f (i+1)) s=true):c9 f s=i+1:=by
 unfold c9
 match i,hi with
 |0,_=>rw[if_pos hp]
 |1,_=>rw[if_neg (by rw[h 1 om om];decide),if_pos hp]
 |2,_=>rw[if_neg (by rw[h 1 om om];decide),if_neg (by rw[h 2 om om];decide),if_pos hp]
theorem HU {f:Nat->List Nat} {s:List Nat} (h:∀k,1<=k->k<=3->pre (f k) s=false):c9 f s=0:=by
 unfold c9;rw[if_neg (by rw[h 1 om om];decide),if_neg (by rw[h 2 om om];decide),if_neg (by rw[h 3 om om];decide)]
theorem HW {f:Nat->List Nat} {o s:List Nat} (hw:HV f o) (hn:3<=n) (aC:10<lf):∃H',aj ak lf n 346 [.str s,.str o] H=some (.aJ [iN (c9 f s),iN (kR f (c9 f s))],H')/\Ext H H':=by
 obtain⟨n,rfl⟩:=aN (n:=n);obtain⟨H1,aV,aB⟩:=ag1 (lf:=lf) (n:=n) (H:=H) om;have key:∃w H',aj ak lf (n+1) 346 [.str s,.str o] H=some (w,H')/\w=.aJ [iN (c9 f s),iN (kR f (c9 f s))]/\Ext H H':=by
  refine cx Qj.1 ?_;refine af ae ?_;refine ai ae aV ?_;refine af ae ?_;refine bH (I:=ZU H1 f o s) ?_ 3 ?_ om
  ·rintro m ts D H' ⟨rfl,rfl,i,rfl,hi,lH,⟨z,rfl, -⟩⟩;by_cases LY:i<3
   ·have d1:decide (((i:Nat):Int)<((3:Nat):Int))=true:=dt;have hf:f (i+1)=o++cV (i+1)++[62]:=hw.2 (i+1) om;have hx:zV 3 false 1 (.agg [.str (cV 1),.str (cV 2),.str (cV 3)]) (.int .i64 (i:Int))=some (.str (cV (i+1))):=by
     match i,LY with
     |0,_=>rfl
     |1,_=>rfl
     |2,_=>rfl
    have kM:=hw.1;have kf:(cV (i+1)).length<=11:=by
     match i,LY with
     |0,_=>decide
     |1,_=>decide
     |2,_=>decide
    have fF:bX .add (.str o) (.str (cV (i+1)))=some (.str (o++cV (i+1))):=eT om;have gI:bX .add (.str (o++cV (i+1))) (.str [62])=some (.str (f (i+1))):=by rw[eT (by simp;omega),hf]
    have F1:=Lw (lf:=lf) (n:=n) (H:=H') (s:=s) (t:=f (i+1)) om;generalize cV (i+1)=tn at hx fF gI;cases hp:pre (f (i+1)) s with
    |true=>
     rw[hp]at F1;refine af @d1 ?_;refine ar ae ?_;refine af (An @hx (An @fF @gI)) ?_;refine ai ae F1 ?_;refine af ae ?_;refine ar ae ?_;refine af (c8 (k:=i) om) ?_;refine cD ae ?_;exact(⟨by rw[OU LY lH hp,kR,if_neg om],aB⟩)
    |false=>
     rw[hp]at F1;refine af @d1 ?_;refine ar ae ?_;refine af (An @hx (An @fF @gI)) ?_;refine ai ae F1 ?_;refine af ae ?_;refine ah ae ?_;refine af (c8 (k:=i) om) ?_;refine aT (3-(i+1)) om ⟨rfl,rfl,i+1,rfl,by omega,fun k h1 h2=>?_,aw⟩;by_cases hk:k=i+1
     ·rw[hk];exact hp
     ·exact lH k h1 om
   ·have d1:decide (((i:Nat):Int)<((3:Nat):Int))=false:=df;refine af @d1 ?_;refine ah ae ?_;refine af ae ?_;refine cD ae ?_;exact(⟨by rw[HU fun k h1 h2=>lH k h1 om];rfl,aB⟩)
  ·exact⟨rfl,rfl,0,rfl,Nat.zero_le _,fun k h1 h2=>by omega,aw⟩
 obtain⟨w,H',h,rfl,h2⟩:=key;exact⟨H',h,h2⟩
end
end
section
theorem HY (s:List Nat) (k:Nat):(s.drop k).take (s.length-k)=s.drop k:=List.take_of_length_le (by rw[List.length_drop];exact Nat.le_refl _)
theorem YG {f:Nat->List Nat} {o:List Nat} (hw:HV f o) {s:List Nat} (h:c9 f s≠0):kR f (c9 f s)≠0:=by
 have:=(Du h).1;unfold kR;rw[if_neg h,hw.2 _ this];simp
theorem YK (b:Nat) (r:List Nat):cm (b::r)=if b=60 then jD (b::r)else if b=123 then(if 2<=cT 123 (b::r)then(3,cT 123 (b::r))else(0,0))else if b=125 then(if 2<=cT 125 (b::r)then(4,cT 125 (b::r))else(0,0))
 else if b=91 then(if 2<=cT 91 (b::r)then(5,2)else(0,0))else if b=93 then(if 2<=cT 93 (b::r)then(6,2)else(0,0))else if b=124 then(7,1)else if b=61 then(8,1)else if b=10 then(2,1)else(0,0):=by
 by_cases h1:b=60
 ·subst h1;rfl
 by_cases h2:b=123
 ·subst h2;rfl
 by_cases h3:b=125
 ·subst h3;rfl
 by_cases h4:b=91
 ·subst h4;rfl
 by_cases h5:b=93
 ·subst h5;rfl
 by_cases h6:b=124
 ·subst h6;rfl
 by_cases h7:b=61
 ·subst h7;rfl
 by_cases h8:b=10
 ·subst h8;rfl
 rw[if_neg h1,if_neg h2,if_neg h3,if_neg h4,if_neg h5,if_neg h6,if_neg h7,if_neg h8];unfold cm;split<;>first|rfl|(rename_i e;injection e with e1 e2;exact absurd e1 (by assumption))
section
variable {lf n:Nat} {H:ag}
theorem aaE {s:List Nat} (hs:s.length<90000) (hn:4<=n) (aC:10<lf):∃H',aj ak lf n 343 [.str s] H=some (.aJ [iN (jD s).1,iN (jD s).2],H')/\Ext H H':=by
 obtain⟨n,rfl⟩:=aN (n:=n);have key:∃w H',aj ak lf (n+1) 343 [.str s] H=some (w,H')/\w=.aJ [iN (jD s).1,iN (jD s).2]/\Ext H H':=by
  have p1:=Lw (lf:=lf) (n:=n) (H:=H) (s:=s) (t:=[60,33,45,45]) om;have p2:=Lw (lf:=lf) (n:=n) (H:=H) (s:=s) (t:=[60,110,111,119,105,107,105,62]) om;have x1:=Ni (lf:=lf) (n:=n) (H:=H) (s:=s.drop 4) (t:=[45,45,62]) (by rw[List.length_drop];omega) om;have x2:=Ni (lf:=lf) (n:=n) (H:=H) (s:=s.drop 8) (t:=[60,47,110,111,119,105,107,105,62]) (by rw[List.length_drop];omega) om;have t4:=HY s 4;have t8:=HY s 8;cases h1:pre [60,33,45,45] s with
  |true=>
   have hl:=oE h1;simp only[List.length_cons,List.length_nil]at hl;rw[h1]at p1;have ha:jD s=(9,match dx yQ (s.drop 4)with|some k=>4+k+3|none=>s.length):=if_pos h1;refine cx DU.1 ?_;refine af ae ?_;refine ai ae p1 ?_;refine af ae ?_;refine ar ae ?_;refine af @t4 ?_;refine ai ae x1 ?_;cases hx:dx [45,45,62] (s.drop 4)with
   |some k=>
    have hk:=(sN hx).2.1;rw[List.length_drop]at hk;have e:vA (some k)=(k:Int):=rfl;have d:decide (((k:Nat):Int)>=((0:Nat):Int))=true:=dt;have e1:((4:Nat):Int)+((k:Nat):Int)=((4+k:Nat):Int):=om;have e2:((4+k:Nat):Int)+((3:Nat):Int)=((4+k+3:Nat):Int):=om;refine af (An @e @d) ?_;refine ar ae ?_;refine af (An @e1 @e2) ?_;refine cD ae ?_;exact(⟨by rw[ha,show dx yQ (s.drop 4)=some k from hx],Ext.refl _⟩)
   |none=>
    have e:vA (none:Option Nat)=(-1:Int):=rfl;have d:decide ((-1:Int)>=((0:Nat):Int))=false:=by decide
    refine af (An @e @d) ?_;refine ah ae ?_;refine af ae ?_;refine cD ae ?_;exact(⟨by rw[ha,show dx yQ (s.drop 4)=none from hx],Ext.refl _⟩)
  |false=>
   rw[h1]at p1;have ha:jD s=match(if pre eB s then dx gB (s.drop 8)else none)with
    |some k=>(10,8+k+9)
    |none=>if c9 bR s=0 then(if c9 bS s=0 then(0,0)else(12,(bS (c9 bS s)).length))else(11,(bR (c9 bR s)).length):=if_neg (by show¬pre [60,33,45,45] s=true;rw[h1];decide)
   obtain⟨H1,g1,aB⟩:=HW (lf:=lf) (n:=n) (H:=H) (s:=s) Ph om aC;obtain⟨H2,g2,aF⟩:=HW (lf:=lf) (n:=n) (H:=H1) (s:=s) Pg om aC;cases hx:(if pre eB s then dx gB (s.drop 8)else none)with
   |some k=>
    have hp:pre [60,110,111,119,105,107,105,62] s=true:=by
     split at hx
     ·assumption
     ·cases hx
    rw[if_pos (by exact hp)]at hx;have hl:=oE hp;simp only[List.length_cons,List.length_nil]at hl;have eX:dx [60,47,110,111,119,105,107,105,62] (s.drop 8)=some k:=hx;have hk:=(sN eX).2.1;rw[List.length_drop]at hk;rw[eX]at x2;rw[hp]at p2;have e:vA (some k)=(k:Int):=rfl;have d:decide (((k:Nat):Int)>=((0:Nat):Int))=true:=dt;have e1:((8:Nat):Int)+((k:Nat):Int)=((8+k:Nat):Int):=om;have e2:((8+k:Nat):Int)+((9:Nat):Int)=((8+k+9:Nat):Int):=om;refine cx DU.1 ?_;refine af ae ?_;refine ai ae p1 ?_;refine af ae ?_;refine ah ae ?_;refine af ae ?_;refine ai ae p2 ?_;refine af ae ?_;refine ar ae ?_;refine af @t8 ?_;refine ai ae x2 ?_;refine af (An @e @d) ?_;refine ar ae ?_;refine af (An @e1 @e2) ?_;refine cD ae ?_;exact(⟨by rw[ha,if_pos (by exact hp),show dx gB (s.drop 8)=some k from hx],Ext.refl _⟩)
   |none=>
    rw[hx]at ha;dsimp only at ha;refine cx DU.1 ?_;refine af ae ?_;refine ai ae p1 ?_;refine af ae ?_;refine ah ae ?_;refine af ae ?_;refine ai ae p2 ?_;refine af ae ?_;refine nJ (fun ts H'=>H'=H/\∃z:Nat->SV,ts=((.str s)::zz z 1 47 []:T)/\(True)) ?_ (fun aA H7 gR=>?_)
    ·cases hp:pre [60,110,111,119,105,107,105,62] s with
     |true=>
      have hl:=oE hp;simp only[List.length_cons,List.length_nil]at hl;rw[if_pos (by exact hp)]at hx;have eX:dx [60,47,110,111,119,105,107,105,62] (s.drop 8)=none:=hx;rw[eX]at x2;have e:vA (none:Option Nat)=(-1:Int):=rfl;have d:decide ((-1:Int)>=((0:Nat):Int))=false:=by decide
      refine ar @hp ?_;refine af @t8 ?_;refine ai ae x2 ?_;refine af (An @e @d) ?_;refine ah ae ?_;refine af ae ?_;exact⟨rfl,rfl,rfl,aw⟩
     |false=>
      refine ah @hp ?_;refine af ae ?_;exact⟨rfl,rfl,rfl,aw⟩
    ·obtain⟨rfl,⟨z,rfl, -⟩⟩:=gR;by_cases ho:c9 bR s=0
     ·have e1:kR bR (c9 bR s)=0:=by unfold kR;rw[if_pos ho]
      have d1:decide (((0:Nat):Int)>((0:Nat):Int))=false:=by decide
      rw[if_pos ho]at ha;by_cases hc:c9 bS s=0
      ·have e2:kR bS (c9 bS s)=0:=by unfold kR;rw[if_pos hc]
       rw[if_pos hc]at ha;refine af ae ?_;refine ai ae g1 ?_;refine af (An @e1 @d1) ?_;refine ah ae ?_;refine af ae ?_;refine ai ae g2 ?_;refine af (An @e2 @d1) ?_;refine ah ae ?_;refine af ae ?_;refine cD ae ?_;exact(⟨by rw[ha],aB.trans aF⟩)
      ·have e2:kR bS (c9 bS s)=(bS (c9 bS s)).length:=by unfold kR;rw[if_neg hc]
       have hp:=YG Pg hc;have d2:decide (((kR bS (c9 bS s):Nat):Int)>((0:Nat):Int))=true:=dt;rw[if_neg hc,<-e2]at ha;refine af ae ?_;refine ai ae g1 ?_;refine af (An @e1 @d1) ?_;refine ah ae ?_;refine af ae ?_;refine ai ae g2 ?_;refine af @d2 ?_;refine ar ae ?_;refine af ae ?_;refine cD ae ?_;exact(⟨by rw[ha],aB.trans aF⟩)
     ·have e1:kR bR (c9 bR s)=(bR (c9 bR s)).length:=by unfold kR;rw[if_neg ho]
      have hp:=YG Ph ho;have d2:decide (((kR bR (c9 bR s):Nat):Int)>((0:Nat):Int))=true:=dt;rw[if_neg ho,<-e1]at ha;refine af ae ?_;refine ai ae g1 ?_;refine af @d2 ?_;refine ar ae ?_;refine af ae ?_;refine cD ae ?_;exact(⟨by rw[ha],aB⟩)
 obtain⟨w,H',h,rfl,h2⟩:=key;exact⟨H',h,h2⟩
theorem acQ {b:Nat} {r:List Nat} (hs:(b::r).length<90000) (hn:5<=n) (aC:100000<lf):∃H',aj ak lf n 265 [.str (b::r)] H=some (.aJ [iN (cm (b::r)).1,iN (cm (b::r)).2],H')/\Ext H H':=by
 obtain⟨n,rfl⟩:=aN (n:=n);have key:∃w H',aj ak lf (n+1) 265 [.str (b::r)] H=some (w,H')/\w=.aJ [iN (cm (b::r)).1,iN (cm (b::r)).2]/\Ext H H':=by
  have hg:(b::r)[0]? =some b:=rfl;have dK:=fun c=>aj8 (lf:=lf) (n:=n) (H:=H) (s:=b::r) (c:=c) om om aC
  obtain⟨H1,ha,aB⟩:=aaE (lf:=lf) (n:=n) (H:=H) (s:=b::r) hs om om;have dF:∀k,b≠k->decide ((b:Int)=((k:Nat):Int))=false:=fun k h=>by simp only[decide_eq_false_iff_not];omega
  have dT:∀k,b=k->decide ((b:Int)=((k:Nat):Int))=true:=fun k h=>by simp only[decide_eq_true_eq];omega
  have dg:∀m:Nat,2<=m->decide (((m:Nat):Int)>=((2:Nat):Int))=true:=fun m h=>by simp only[decide_eq_true_eq];omega
  have dl:∀m:Nat,¬2<=m->decide (((m:Nat):Int)>=((2:Nat):Int))=false:=fun m h=>by simp only[decide_eq_false_iff_not];omega
  rw[YK];generalize (b::r)=s at hg dK ha;refine cx IC.1 ?_;refine af @hg ?_;by_cases h1:b=60
  ·have d:=dT 60 h1;rw[if_pos h1];refine af @d ?_;refine ar @d ?_;refine af ae ?_;refine ai ae ha ?_;refine af ae ?_;refine cD ae ?_;exact(⟨rfl,aB⟩)
  rw[if_neg h1];have d1:=dF 60 h1;refine af @d1 ?_;refine ah @d1 ?_;by_cases h2:b=123
  ·have d:=dT 123 h2;have hc:=dK 123;rw[if_pos h2];by_cases hl:2<=cT 123 s
   ·have e:=dg _ hl;rw[if_pos hl];refine af @d ?_;refine ar @d ?_;refine af ae ?_;refine ai ae hc ?_;refine af @e ?_;refine ar ae ?_;refine af ae ?_;refine cD ae ?_;exact(⟨rfl,Ext.refl _⟩)
   ·have e:=dl _ hl;rw[if_neg hl];refine af @d ?_;refine ar @d ?_;refine af ae ?_;refine ai ae hc ?_;refine af @e ?_;refine ah ae ?_;refine af ae ?_;refine cD ae ?_;exact(⟨rfl,Ext.refl _⟩)
  rw[if_neg h2];have d2:=dF 123 h2;refine af @d2 ?_;refine ah @d2 ?_;by_cases h3:b=125
  ·have d:=dT 125 h3;have hc:=dK 125;rw[if_pos h3];by_cases hl:2<=cT 125 s
   ·have e:=dg _ hl;rw[if_pos hl];refine af @d ?_;refine ar @d ?_;refine af ae ?_;refine ai ae hc ?_;refine af @e ?_;refine ar ae ?_;refine af ae ?_;refine cD ae ?_;exact(⟨rfl,Ext.refl _⟩)
   ·have e:=dl _ hl;rw[if_neg hl];refine af @d ?_;refine ar @d ?_;refine af ae ?_;refine ai ae hc ?_;refine af @e ?_;refine ah ae ?_;refine af ae ?_;refine cD ae ?_;exact(⟨rfl,Ext.refl _⟩)
  rw[if_neg h3];have d3:=dF 125 h3;refine af @d3 ?_;refine ah @d3 ?_;by_cases h4:b=91
  ·have d:=dT 91 h4;have hc:=dK 91;rw[if_pos h4];by_cases hl:2<=cT 91 s
   ·have e:=dg _ hl;rw[if_pos hl];refine af @d ?_;refine ar @d ?_;refine af ae ?_;refine ai ae hc ?_;refine af @e ?_;refine ar ae ?_;refine af ae ?_;refine cD ae ?_;exact(⟨rfl,Ext.refl _⟩)
   ·have e:=dl _ hl;rw[if_neg hl];refine af @d ?_;refine ar @d ?_;refine af ae ?_;refine ai ae hc ?_;refine af @e ?_;refine ah ae ?_;refine af ae ?_;refine cD ae ?_;exact(⟨rfl,Ext.refl _⟩)
  rw[if_neg h4];have d4:=dF 91 h4;refine af @d4 ?_;refine ah @d4 ?_;by_cases h5:b=93
  ·have d:=dT 93 h5;have hc:=dK 93;rw[if_pos h5];by_cases hl:2<=cT 93 s
   ·have e:=dg _ hl;rw[if_pos hl];refine af @d ?_;refine ar @d ?_;refine af ae ?_;refine ai ae hc ?_;refine af @e ?_;refine ar ae ?_;refine af ae ?_;refine cD ae ?_;exact(⟨rfl,Ext.refl _⟩)
   ·have e:=dl _ hl;rw[if_neg hl];refine af @d ?_;refine ar @d ?_;refine af ae ?_;refine ai ae hc ?_;refine af @e ?_;refine ah ae ?_;refine af ae ?_;refine cD ae ?_;exact(⟨rfl,Ext.refl _⟩)
  rw[if_neg h5];have d5:=dF 93 h5;refine af @d5 ?_;refine ah @d5 ?_;by_cases h6:b=124
  ·have d:=dT 124 h6;rw[if_pos h6];refine af @d ?_;refine ar @d ?_;refine af ae ?_;refine cD ae ?_;exact(⟨rfl,Ext.refl _⟩)
  rw[if_neg h6];have d6:=dF 124 h6;refine af @d6 ?_;refine ah @d6 ?_;by_cases h7:b=61
  ·have d:=dT 61 h7;rw[if_pos h7];refine af @d ?_;refine ar @d ?_;refine af ae ?_;refine cD ae ?_;exact(⟨rfl,Ext.refl _⟩)
  rw[if_neg h7];have d7:=dF 61 h7;refine af @d7 ?_;refine ah @d7 ?_;by_cases h8:b=10
  ·have d:=dT 10 h8;rw[if_pos h8];refine af @d ?_;refine ar @d ?_;refine af ae ?_;refine cD ae ?_;exact(⟨rfl,Ext.refl _⟩)
  rw[if_neg h8];have d8:=dF 10 h8;refine af @d8 ?_;refine ah @d8 ?_;refine af ae ?_;refine cD ae ?_;exact(⟨rfl,Ext.refl _⟩)
 obtain⟨w,H',h,rfl,h2⟩:=key;exact⟨H',h,h2⟩
end
end
section
def cr (t:Tok):List SV:=[iN t.1,iN t.2.1,iN t.2.2]
def jn (L:List Tok):List (List SV):=L.map cr
theorem Dv (L:List Tok):dq 3 (jn L):=by
 intro x hx;obtain⟨t,_,rfl⟩:=List.mem_map.1 hx;rfl
theorem alv (L K:List Tok):jn (L++K)=jn L++jn K:=by simp[jn]
theorem O1 (L:List Tok):(jn L).length=L.length:=by simp[jn]
theorem AI {H:ag} {B:Nat} {v:SV} {L:List Tok} (hS:Sl B 294 3 H v (jn L)) (t:Tok) (hB:B<=H.next) (hl:L.length<100000):
 ∃v2 H2,fu (H.push (.row (cr t) 294 true false 0)) false 294 3 24 v (.slice H.next 0 1 (some 1) 3)=some (v2,H2)/\Sl B 294 3 H2 v2 (jn (L++[t]))/\H.next<=H2.next/\∀k,k<B->H2.get k=H.get k:=by
 have hE:Ext H (H.push (.row (cr t) 294 true false 0)):=(Ext.refl H).push _;obtain⟨v2,H2,h1,h2,h3,h4⟩:=wt (x:=cr t) (hS.ax hE) (Dv L) rfl rfl (bd _) (Nat.le_trans hB hE.1) (by rw[O1];omega) 24 (by decide);refine⟨v2,H2,h1,?_,Nat.le_trans hE.1 h3,fun k hk=>(h4 k hk).trans (hE.2 k om)⟩;rw[alv];exact h2
theorem OB (s:List Nat) (f i t:Nat) (ht:t<=i) (hi:i<=s.length) (hf:s.length<f+i):(oI s f i t).length+t<=s.length:=by
 have h:=Hu s f i t ht hi hf;have key:∀l:List Tok,(∀x∈l,x.2.1<x.2.2/\x.2.2<=s.length)->l.length<=((l.map (cB s)).flatten).length:=by
  intro l
  induction l with
  |nil=>intro _;exact Nat.zero_le _
  |cons x l ih=>
   intro h;have h1:=h x (List.mem_cons_self ..);have h2:=ih fun y hy=>h y (List.mem_cons_of_mem _ hy)
   have h3:1<=(cB s x).length:=by
    simp only[cB,List.length_take,List.length_drop];omega
   simp only[List.map_cons,List.flatten_cons,List.length_append,List.length_cons];omega
 have:=key _ fun x hx=>⟨(h.1 x hx).2.1,(h.1 x hx).2.2.1⟩
 rw[h.2,List.length_drop]at this;omega
theorem XS {s:List Nat} {f i t:Nat} (hi:i<s.length):oI s (f+1) i t=if(cm (s.drop i)).1=0 then oI s f (i+1) t else(if t<i then[(1,t,i)]else[])++((cm (s.drop i)).1,i,i+(cm (s.drop i)).2)::oI s f (i+(cm (s.drop i)).2) (i+(cm (s.drop i)).2):=by
 conv=>lhs;unfold oI
 rw[if_pos hi]
theorem akf {s:List Nat} {f i t:Nat} (hi:¬i<s.length):oI s (f+1) i t=if t<s.length then[(1,t,s.length)]else[]:=by
 conv=>lhs;unfold oI
 rw[if_neg hi]
def lX (s:List Nat) (L:List Tok) (i t:Nat):Prop:=t<=i/\i<=s.length/\∃f,s.length<f+i/\cw s=L++oI s f i t
theorem lX.start (s:List Nat):lX s [] 0 0:=⟨Nat.le_refl _,Nat.zero_le _,s.length+1,by omega,rfl⟩
theorem lX.skip {s:List Nat} {L:List Tok} {i t:Nat} (h:lX s L i t) (hi:i<s.length) (h0:(cm (s.drop i)).1=0):lX s L (i+1) t:=by
 obtain⟨h1,h2,f,h3,h4⟩:=h;obtain⟨f,rfl⟩:∃g,f=g+1:=⟨f-1,by omega⟩;refine⟨by omega,by omega,f,by omega,?_⟩;rw[h4,XS hi,if_pos h0]
theorem lX.take {s:List Nat} {L:List Tok} {i t:Nat} (h:lX s L i t) (hi:i<s.length) (h0:(cm (s.drop i)).1≠0):lX s (L++(if t<i then[(1,t,i)]else[])++[((cm (s.drop i)).1,i,i+(cm (s.drop i)).2)]) (i+(cm (s.drop i)).2) (i+(cm (s.drop i)).2)/\1<=(cm (s.drop i)).2/\i+(cm (s.drop i)).2<=s.length:=by
 obtain⟨h1,h2,f,h3,h4⟩:=h;obtain⟨f,rfl⟩:∃g,f=g+1:=⟨f-1,by omega⟩;have hg:=YL (s:=s.drop i) (by intro e;have:=congrArg List.length e;simp at this;omega) h0;rw[List.length_drop]at hg;refine⟨⟨Nat.le_refl _,by omega,f,by omega,?_⟩,hg.1,by omega⟩;rw[h4,XS hi,if_neg h0];simp only[List.append_assoc,List.cons_append,List.nil_append]
theorem lX.len {s:List Nat} {L:List Tok} {i t:Nat} (h:lX s L i t):L.length<=s.length:=by
 have:=OB s (s.length+1) 0 0 (Nat.le_refl _) (Nat.zero_le _) om;obtain⟨_,_,f,_,h4⟩:=h;have h5:=congrArg List.length h4;rw[List.length_append]at h5;unfold cw at h5;omega
theorem lX.fin {s:List Nat} {L:List Tok} {i t:Nat} (h:lX s L i t) (hi:¬i<s.length):cw s=L++(if t<s.length then[(1,t,s.length)]else[]):=by
 obtain⟨h1,h2,f,h3,h4⟩:=h;obtain⟨f,rfl⟩:∃g,f=g+1:=⟨f-1,by omega⟩;rw[h4,akf hi]
@[reducible] def ZG (H0:ag) (s:List Nat) (m:Nat) (ts:T) (D:DS) (H':ag):Prop:=
  D=[]/\∃(L:List Tok) (i t:Nat) (v:SV),m=s.length-i/\lX s L i t/\Sl H0.next 294 3 H' v (jn L)/\Ext H0 H'/\∃z:Nat->SV,ts=((.str s)::zz z 1 3 ((v)::(.int .i64 (t:Int))::(.int .i64 (i:Int))::zz z 7 54 []):T)/\(True)
section
variable {lf n:Nat} {H:ag}
theorem akg {s:List Nat} (hs:s.length<=8192) (hn:6<=n) (aC:100000<lf):∃v H',aj ak lf n 199 [.str s] H=some (.aJ [v,iN 0],H')/\Ext H H'/\br H' v 3 (jn (cw s)):=by
 obtain⟨n,rfl⟩:=aN (n:=n);have key:∃w H',aj ak lf (n+1) 199 [.str s] H=some (w,H')/\∃v,w=.aJ [v,iN 0]/\Ext H H'/\br H' v 3 (jn (cw s)):=by
  have d0:decide (((s.length:Nat):Int)>((8192:Nat):Int))=false:=df;refine cx Ix.1 ?_;refine af @d0 ?_;refine ah ae ?_;refine af ae ?_;refine bH (I:=ZG H s) ?_ s.length ?_ om
  ·rintro m ts D H' ⟨rfl,L,i,t,v,rfl,hP,hS,hE,⟨z,rfl, -⟩⟩;have TE:=hP.len;have bu:=hP.1;have bw:=hP.2.1;by_cases hi:i<s.length
   ·have d1:decide (((i:Nat):Int)<((s.length:Nat):Int))=true:=dt;have MU:=HY s i;have sE:(s.drop i).length=s.length-i:=List.length_drop ..;obtain⟨b,r,ic⟩:∃b r,s.drop i=b::r:=by
     cases hh:s.drop i with
     |nil=>rw[hh]at sE;simp at sE;omega
     |cons b r=>exact⟨b,r,rfl⟩
    obtain⟨H1,aV,aB⟩:=acQ (lf:=lf) (n:=n) (H:=H') (b:=b) (r:=r) (by rw[<-ic];omega) om aC;rw[<-ic]at aV;have ml:=hS.ax aB;have qN:=hE.trans aB;by_cases h0:(cm (s.drop i)).1=0
    ·have d2:decide ((((cm (s.drop i)).1:Nat):Int)=((0:Nat):Int))=true:=by rw[h0];decide
     have mi:=hP.skip hi h0;generalize (cm (s.drop i)).1=k at aV d2;generalize (cm (s.drop i)).2=q at aV;refine af @d1 ?_;refine ar ae ?_;refine af @MU ?_;refine ai ae aV ?_;refine af @d2 ?_;refine ar ae ?_;refine af (c8 (k:=i) om) ?_;refine aT (s.length-(i+1)) om ⟨rfl,L,i+1,t,v,rfl,mi,ml,qN,aw⟩
    ·have d2:decide ((((cm (s.drop i)).1:Nat):Int)=((0:Nat):Int))=false:=df;obtain⟨mi,rk,Cq⟩:=hP.take hi h0;have tN:=mi.len;generalize (cm (s.drop i)).1=k at aV d2 mi tN;generalize (cm (s.drop i)).2=q at aV mi rk Cq tN;have gb:((i:Nat):Int)+((q:Nat):Int)=((i+q:Nat):Int):=om;refine af @d1 ?_;refine ar ae ?_;refine af @MU ?_;refine ai ae aV ?_;refine af @d2 ?_;refine ah ae ?_;refine af ae ?_;refine nJ (fun ts H'=>∃v',Sl H.next 294 3 H' v' (jn (L++(if t<i then[(1,t,i)]else[])))/\Ext H H'/\∃z:Nat->SV,ts=((.str s)::zz z 1 3 ((v')::z 5::(.int .i64 (i:Int))::(.int .i64 (k:Int))::(.int .i64 (q:Int))::zz z 9 52 []):T)/\(True)) ?_ (fun aA H7 gR=>?_)
     ·by_cases fU:t<i
      ·have d3:decide (((t:Nat):Int)<((i:Nat):Int))=true:=dt;obtain⟨v2,H2,ha,iB,dc,ig⟩:=AI ml (1,t,i) qN.1 om;have aF:Ext H H2:=⟨Nat.le_trans qN.1 dc,fun b hb=>(ig b hb).trans (qN.2 b hb)⟩;unfold cr at ha;refine ar @d3 ?_;refine af @ha ?_;exact⟨rfl,rfl,v2,by rw[if_pos fU];exact iB,aF,aw⟩
      ·have d3:decide (((t:Nat):Int)<((i:Nat):Int))=false:=df;refine ah @d3 ?_;refine af ae ?_;exact⟨rfl,rfl,v,by rw[if_neg fU,List.append_nil];exact ml,qN,aw⟩
     ·obtain⟨v',BK,dV,⟨z,rfl, -⟩⟩:=gR;obtain⟨v2,H2,ha,iB,dc,ig⟩:=AI BK (k,i,i+q) dV.1 (by rw[List.length_append]at tN;simp only[List.length_cons,List.length_nil]at tN;omega);have aF:Ext H H2:=⟨Nat.le_trans dV.1 dc,fun b hb=>(ig b hb).trans (dV.2 b hb)⟩;unfold cr at ha;refine af (An @gb @ha) ?_;refine aT (s.length-(i+q)) om ⟨rfl,_,i+q,i+q,v2,rfl,mi,iB,aF,aw⟩
   ·have d1:decide (((i:Nat):Int)<((s.length:Nat):Int))=false:=df;have fy:=hP.fin hi;by_cases fU:t<s.length
    ·have d3:decide (((t:Nat):Int)<((s.length:Nat):Int))=true:=dt;obtain⟨v2,H2,ha,iB,dc,ig⟩:=AI hS (1,t,s.length) hE.1 om;have aF:Ext H H2:=⟨Nat.le_trans hE.1 dc,fun b hb=>(ig b hb).trans (hE.2 b hb)⟩;unfold cr at ha;rw[if_pos fU]at fy;refine af @d1 ?_;refine ah ae ?_;refine af @d3 ?_;refine ar ae ?_;refine af @ha ?_;refine cD ae ?_;exact(⟨v2,rfl,aF,by rw[fy];exact iB.aQ (Dv _)⟩)
    ·have d3:decide (((t:Nat):Int)<((s.length:Nat):Int))=false:=df;rw[if_neg fU,List.append_nil]at fy;refine af @d1 ?_;refine ah ae ?_;refine af @d3 ?_;refine ah ae ?_;refine af ae ?_;refine cD ae ?_;exact(⟨v,rfl,hE,by rw[fy];exact hS.aQ (Dv _)⟩)
  ·exact⟨rfl,[],0,0,.ao,rfl,lX.start s,Sl.nil,Ext.refl _,aw⟩
 obtain⟨w,H',h,v,rfl,h2,h3⟩:=key;exact⟨v,H',h,h2,h3⟩
end
end
end Go.Sh
