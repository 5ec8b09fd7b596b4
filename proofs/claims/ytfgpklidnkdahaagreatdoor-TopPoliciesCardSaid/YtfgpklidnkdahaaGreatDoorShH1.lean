/-
  A policy that is written is read back as it was. No conditions beyond those that stand in the theorems.
-/
import Derived.Test.YtfgpklidnkdahaaGreatDoorShH0
set_option linter.all false
set_option maxHeartbeats 20000000
set_option maxRecDepth 10000
namespace Go.Sh
section
def qE (x:List Nat):List Nat×List Nat×Bool:=match dx [124] x with
 |some k=>(x.take k,x.drop (k+1),true)
 |none=>(x,[],false)
def Td (t:Tt) (s:List Nat):Bool:=
 decide (ep (qE (eN t++iK s)).1=eN t)&&decide (ep (qE (eN t++iK s)).2.1=s)&&(!(qE (eN t++iK s)).2.2||decide (s≠[]))&&(qE (eN t++iK s)).1.all (fun c=>decide (c<128))&&(qE (eN t++iK s)).2.1.all (fun c=>decide (c<128))&&decide ((eN t++iK s).length<60)
theorem ac9:∀t∈gn,∀s∈pz,Td t s=true:=by decide+kernel
theorem adb {t:Tt} {s:List Nat} (ht:t∈gn) (hs:s∈pz) {a b:List Nat} {c:Bool} (h:qE (eN t++iK s)=(a,b,c)):
 ep a=eN t/\ep b=s/\(c=true->s≠[])/\(∀x∈a,x<128)/\(∀x∈b,x<128)/\(eN t++iK s).length<60:=by
 have hk:=ac9 t ht s hs;unfold Td at hk;rw[h]at hk;simp only[Bool.and_eq_true,decide_eq_true_eq,Bool.or_eq_true,List.all_eq_true]at hk;obtain⟨⟨⟨⟨⟨h1,h2⟩,h3⟩,h4⟩,h5⟩,h6⟩:=hk;refine⟨h1,h2,fun hc=>?_,h4,h5,h6⟩;subst hc;rcases h3 with h3|h3
 ·simp at h3
 ·exact h3
theorem ab3 {x a b:List Nat} {c:Bool} (h:qE x=(a,b,c)):a.length<=x.length/\b.length<=x.length:=by
 unfold qE at h;split at h<;>cases h
 ·exact⟨by rw[List.length_take];omega,by rw[List.length_drop];omega⟩
 ·exact⟨Nat.le_refl _,Nat.zero_le _⟩
section
variable {lf n:Nat} {H:ag}
theorem afK {s t:List Nat} (hs:s.length<100000) (hn:1<=n):aj ak lf n 165 [.str s,.str t] H=some (.int .i64 (vA (dx t s)),H):=by
 obtain⟨n,rfl⟩:=aN (n:=n);simp only[aj,akY];show(match Nat.blt s.length 4294967281 with|true=>some (SV.int .i64 (jy s t 0),H)|false=>none)=_;rw[qB om,Nl];cases dx t s with
 |none=>rfl
 |some k=>simp[vA]
theorem ab4 {x a b:List Nat} {c:Bool} (h:qE x=(a,b,c)) (hx:x.length<1000) (hn:3<=n):aj ak lf n 96 [.str x,.str [124]] H=some (.aJ [.str a,.str b,.bool c],H):=by
 obtain⟨n,rfl⟩:=aN (n:=n);obtain⟨n,rfl⟩:=aN (n:=n);have dp:=afK (lf:=lf) (n:=n) (H:=H) (s:=x) (t:=[124]) om om;have adv:aj ak lf (n+1) 174 [.str x,.str [124]] H=some (.aJ [.str a,.str b,.bool c],H):=by
  have key:∃w H',aj ak lf (n+1) 174 [.str x,.str [124]] H=some (w,H')/\w=.aJ [.str a,.str b,.bool c]/\H'=H:=by
   unfold qE at h;cases hk:dx [124] x with
   |some k=>
    rw[hk]at h dp;cases h;have p0:=sN hk;have fG:=oE p0.1;rw[List.length_drop]at fG;have fG:1<=x.length-k:=fG;have dp:aj ak lf n 165 [.str x,.str [124]] H=some (.int .i64 (k:Int),H):=dp;have d1:decide (((k:Nat):Int)>=((0:Nat):Int))=true:=dt;have lF:([124]:List Nat).length=1:=rfl;have eW:((k:Nat):Int)+((1:Nat):Int)=((k+1:Nat):Int):=om;have jK:(x.drop (k+1)).take (x.length-(k+1))=x.drop (k+1):=List.take_of_length_le (by rw[List.length_drop];omega);refine cx DH.1 ?_;refine af ae ?_;refine ai ae dp ?_;refine af @d1 ?_;refine ar ae ?_;refine af (An @lF (An @eW @jK)) ?_;refine gQ (vR _ _ _ _ _ _ (by exact aZ trivial) (by exact aZ trivial) (by exact aZ trivial)) ?_;exact⟨by rw[Nat.sub_zero],rfl⟩
   |none=>
    rw[hk]at h dp;cases h;have dp:aj ak lf n 165 [.str x,.str [124]] H=some (.int .i64 (-1:Int),H):=dp;have d1:decide ((-1:Int)>=((0:Nat):Int))=false:=by decide
    refine cx DH.1 ?_;refine af ae ?_;refine ai ae dp ?_;refine af @d1 ?_;refine ah ae ?_;refine af ae ?_;refine gQ (vR _ _ _ _ _ _ (by exact aZ trivial) (by exact aZ trivial) (by exact aZ trivial)) ?_;exact⟨rfl,rfl⟩
  obtain⟨w,H',h,rfl,rfl⟩:=key;exact h
 have key:∃w H',aj ak lf (n+1+1) 96 [.str x,.str [124]] H=some (w,H')/\w=.aJ [.str a,.str b,.bool c]/\H'=H:=by
  refine cx I6.1 ?_;refine af ae ?_;refine ai ae adv ?_;refine af ae ?_;refine gQ (vR _ _ _ _ _ _ (by exact aZ trivial) (by exact aZ trivial) (by exact aZ trivial)) ?_;exact⟨rfl,rfl⟩
 obtain⟨w,H',h,rfl,rfl⟩:=key;exact h
theorem adt {own:Nat->Nat} {pp k:Nat} {G:List Gr} {R:List Rl} {E:List Gd} {s:List Nat} {x:Gd} (h:QP own H pp G R E) (hx:qy k x) (h1:fV s=(x.g,eN x.t++iK x.s))
 (hb:∀c∈s,c<128) (hlen:s.length<=900) (hR:E.length<900) (hn:5<=n) (aC:600000<lf):
 ∃au H',aj ak lf n 57 [.ptr pp 0,.str s,.bool x.st] H=some (.bool true,H')/\QP au H' pp G R (E++[x])/\bM own H au H':=by
 obtain⟨n,rfl⟩:=aN (n:=n);have xJ:=hx.t;have vy:=hx.s;obtain⟨st,g,⟨t1,t2⟩,sec⟩:=x;have h1:fV s=(g,eN (t1,t2)++iK sec):=h1;have xJ:(t1,t2)∈gn:=xJ;have vy:sec∈pz:=vy;obtain⟨H1,aV,aB⟩:=vN (lf:=lf) (n:=n) (H:=H) hb hlen om om;rw[h1]at aV;obtain⟨a,b,c,jZ⟩:∃a b c,qE (eN (t1,t2)++iK sec)=(a,b,c):=⟨_,_,_,rfl⟩;obtain⟨u1,u2,u3,u4,u5,u6⟩:=adb xJ vy jZ;have fP:=ab3 jZ;have aH:=ab4 (lf:=lf) (n:=n) (H:=H1) jZ om om;obtain⟨rest,F6⟩:∃r,eN (t1,t2)++iK sec=r:=⟨_,rfl⟩;rw[F6]at aV aH fP u6;obtain⟨H2,bf,aF⟩:=yu (lf:=lf) (n:=n) (H:=H1) (s:=b) (fun c hc=>by have:=u5 c hc;omega) om om om om;have bf:aj ak lf n 87 [.str b,.str [32,9]] H1=some (.str (ep b),H2):=bf;rw[u2]at bf;obtain⟨H3,fx,aS⟩:=yu (lf:=lf) (n:=n) (H:=H2) (s:=a) (fun c hc=>by have:=u4 c hc;omega) om om om om;have fx:aj ak lf n 87 [.str a,.str [32,9]] H2=some (.str (ep a),H3):=fx;rw[u1]at fx;have eP:=YM (lf:=lf) (n:=n) (H:=H3) xJ om;obtain⟨H4,jx,bz,nY,ji⟩:=iw (H:=H3) (zs:=[.int .i64 ((0:Nat):Int),.str []]) (ty:=40) (z:=2) rfl (cs:=[.int .i64 (t1:Int),.str t2]) rfl rfl;have u9:=aB.trans (aF.trans (aS.trans bz));have hQ:=h.ext u9;obtain⟨gv,rv,dv,g1,g2,g3,g4⟩:=hQ.ex;obtain⟨v2,Q2,Q3,au,a1,a2,a3,a4,a5,a6,a7,a8,a9,Jl⟩:=Eg (j:=2) (bytes:=64) (x:=[.bool st,.str g,.int .i64 (t1:Int),.str t2,.str sec]) hQ.fr hQ.op hQ.lt g1 (by simp) g4 (by decide) (by decide) rfl rfl (by rw[List.length_map];omega) (by decide);obtain⟨Q1,su⟩:∃Q1,H4.push (.row [.bool st,.str g,.int .i64 (t1:Int),.str t2,.str sec] 58 true false 0)=Q1:=⟨_,rfl⟩;rw[su]at a1;have y0:aq (H4.get H3.next) 0 2=some [.int .i64 (t1:Int),.str t2]:=by rw[ji];rfl
 have y1:aq (H4.get pp) 2 1=some [dv]:=by rw[g1];rfl
 have yE:aq (Q1.get pp) 2 1=some [dv]:=by rw[<-su,cU hQ.lt];exact y1
 have ic:bD dv dv=true:=g4.rg.bq;have sy:bD (.agg [.int .i64 (t1:Int),.str t2]) (.agg [.int .i64 (t1:Int),.str t2])=true:=by simp[bD,eF,eg,gG]
 have fin:QP au Q3 pp G R (E++[⟨st,g,(t1,t2),sec⟩]):=by
  refine⟨a9,a8,Nat.lt_of_lt_of_le hQ.lt a6,⟨gv,rv,v2,a4,g2.ax a6 fun b hb hn=>?_,g3.ax a6 fun b hb hn=>?_,?_⟩,fun g hg=>(hQ.mem g hg).ax a6 fun b hb hn=>?_⟩
  ·have:=a7 b hn om (fun e=>by rw[e,hQ.op]at hb;omega);exact⟨this.1.trans hb,this.2⟩
  ·have:=a7 b hn om (fun e=>by rw[e,hQ.op]at hb;omega);exact⟨this.1.trans hb,this.2⟩
  ·rw[List.map_append];exact a5
  ·have:=a7 b hn om (fun e=>by rw[e,hQ.op]at hb;omega);exact⟨this.1.trans hb,this.2⟩
 have Ll:bM own H au Q3:=⟨Nat.le_trans u9.1 a6,fun b hb hn=>by
  have:=a7 b (Nat.lt_of_lt_of_le hn u9.1) om (fun e=>by rw[e,h.op]at hb;omega);exact⟨this.1.trans hb,this.2.trans (u9.2 b hn)⟩⟩
 have d32:=vK;have key:∃w H',aj ak lf (n+1) 57 [.ptr pp 0,.str s,.bool st] H=some (w,H')/\w=.bool true/\H'=Q3:=by
  cases c with
  |true=>
   have d38:decide (sec=[])=false:=by simpa using u3 rfl
   refine cx IY.1 ?_;refine af ae ?_;refine ai ae aV ?_;refine af ae ?_;refine ai ae aH ?_;refine af ae ?_;refine ai ae bf ?_;refine af ae ?_;refine ai ae fx ?_;refine af ae ?_;refine ai ae eP ?_;refine af (An @jx (An @d32 @d38)) ?_;refine ah ae ?_;refine af ae ?_;refine dG rfl ?_;refine af (An @y1 (An @y0 (An @su (An @a1 (An @a2 @a3))))) ?_;refine dB ?_ ?_
   ·exact dh (An @y1 (An @yE (An @y0 (An @ic @sy))))
   ·refine af ae ?_;refine aO ae ?_;exact(⟨rfl,rfl⟩)
  |false=>
   refine cx IY.1 ?_;refine af ae ?_;refine ai ae aV ?_;refine af ae ?_;refine ai ae aH ?_;refine af ae ?_;refine ai ae bf ?_;refine af ae ?_;refine ai ae fx ?_;refine af ae ?_;refine ai ae eP ?_;refine af (An @jx @d32) ?_;refine ah ae ?_;refine af ae ?_;refine dG rfl ?_;refine af (An @y1 (An @y0 (An @su (An @a1 (An @a2 @a3))))) ?_;refine dB ?_ ?_
   ·exact dh (An @y1 (An @yE (An @y0 (An @ic @sy))))
   ·refine af ae ?_;refine aO ae ?_;exact(⟨rfl,rfl⟩)
 obtain⟨w,H',hc,rfl,rfl⟩:=key;exact⟨au,_,hc,fin,Ll⟩
end
end
section
def GI (s:List Nat):Bool:=match s with
 |[]=>false
 |a::r=>!isSp a&&!isSp (r.getLastD a)
theorem Wz {s:List Nat} (h:GI s=true):Nb s:=by
 match s,h with
 |a::r,h=>
  simp only[GI,Bool.and_eq_true,Bool.not_eq_true']at h;rcases List.eq_nil_or_concat r with rfl|⟨m,b,e⟩
  ·exact⟨a,[],a,.inr ⟨rfl,rfl⟩,h.1,h.1⟩
  ·rw[List.concat_eq_append]at e;subst e;refine⟨a,m,b,.inl rfl,h.1,?_⟩;have h2:=h.2;rw[List.getLastD_eq_getLast?,List.getLast?_append]at h2;simpa using h2
def DF (s:List Nat):Bool:=decide (s≠[])&&s.all fun c=>!isSp c
theorem v7 {s:List Nat} (h:DF s=true):Wd s:=by
 simp only[DF,Bool.and_eq_true,decide_eq_true_eq,List.all_eq_true,Bool.not_eq_true']at h;exact h
theorem Pk:∀n∈[0,1,2,3],∀s∈lN n,DF s=true:=by decide+kernel
theorem al7:∀s∈dC,DF s=true:=by decide+kernel
theorem al8:∀r∈[1,2,3,4,5],DF (iY.getD (r-1) [])=true:=by decide+kernel
theorem ag9:∀x∈Df,GI (mL x)=true:=by decide+kernel
theorem ag8:∀t∈gn,∀s∈pz,GI (eN t++iK s)=true:=by decide+kernel
theorem Wy {x:List Nat} (hx:Nb x):∀{ms:List (List Nat)},(∀m∈ms,Wd m)->Nb (x++(ms.map (32:: ·)).flatten):=by
 intro ms
 induction ms generalizing x with
 |nil=>intro _;simpa using hx
 |cons m r ih=>
  intro h;have:=ih (x:=x++([32]++m)) (hx.cat (h m (List.mem_cons_self ..)).nb [32]) fun y hy=>h y (List.mem_cons_of_mem _ hy)
  simpa using this
def wG:List Nat:=[103,114,111,117,112]
def wR (b:Bool):List Nat:=match b with
 |true=>[97,108,108,111,119]
 |false=>[100,101,110,121]
def wD (b:Bool):List Nat:=match b with
 |true=>[115,116,114,105,99,116]
 |false=>[103,117,97,114,100]
theorem Pj:Wd wG/\(∀b,Wd (wR b))/\∀b,Wd (wD b):=⟨v7 (by decide),fun b=>v7 (by cases b<;>decide),fun b=>v7 (by cases b<;>decide)⟩
theorem agM {nm:List Nat} {mv:SV} {ms:List (List Nat)} (hn:Wd nm) (hm:∀m∈ms,Wd m):∃r,fV (eZ (nm,mv,ms))=(wG,r)/\fV r=(nm,zW ms)/\eZ (nm,mv,ms)=wG++32::r:=by
 have e:eZ (nm,mv,ms)=wG++32::(nm++(ms.map (32:: ·)).flatten):=by simp[eZ,wG]
 refine⟨nm++(ms.map (32:: ·)).flatten,?_,?_,e⟩
 ·rw[e,xU Pj.1 (Wy hn.nb hm)]
 ·cases ms with
  |nil=>simpa[zW]using ahd hn
  |cons m r=>
   have h1:nm++((m::r).map (32:: ·)).flatten=nm++32::(m++(r.map (32:: ·)).flatten):=by simp
   rw[h1,xU hn (Wy (hm m (List.mem_cons_self ..)).nb fun y hy=>hm y (List.mem_cons_of_mem _ hy))];rfl
theorem agN {k:Nat} {x:Rl} (hk:k<=3) (h:pE k x):∃r r1,fV (fK x)=(wR x.al,r)/\fV r=(iY.getD (x.r-1) [],r1)/\fV r1=(x.g,mL (x.k,x.t))/\fK x=wR x.al++32::r/\r=iY.getD (x.r-1) []++32::r1:=by
 have Cu:x.r∈[1,2,3,4,5]:=by
  have:=h.r1;have:=h.r5;have:x.r=1\/x.r=2\/x.r=3\/x.r=4\/x.r=5:=om;simpa using this
 have w1:=v7 (al8 _ Cu);have w2:=v7 (Pk k (mH hk) _ h.g);have n1:=Wz (ag9 _ (OD h));have n2:Nb (x.g++32::mL (x.k,x.t)):=w2.nb.cat n1 [32];have n3:Nb (iY.getD (x.r-1) []++32::(x.g++32::mL (x.k,x.t))):=w1.nb.cat n2 [32];have e:fK x=wR x.al++32::(iY.getD (x.r-1) []++32::(x.g++32::mL (x.k,x.t))):=by
  unfold fK;cases x.al<;>simp[AQ,wR]
 exact⟨_,_,by rw[e,xU (Pj.2.1 _) n3],xU w1 n2,xU w2 n1,e,rfl⟩
theorem agL {k:Nat} {x:Gd} (hk:k<=3) (h:qy k x):∃r,fV (fJ x)=(wD x.st,r)/\fV r=(x.g,eN x.t++iK x.s)/\fJ x=wD x.st++32::r:=by
 have w2:=v7 (Pk k (mH hk) _ h.g);have n1:=Wz (ag8 _ h.t _ h.s);have n2:Nb (x.g++32::(eN x.t++iK x.s)):=w2.nb.cat n1 [32];have e:fJ x=wD x.st++32::(x.g++32::(eN x.t++iK x.s)):=by
  unfold fJ;cases x.st<;>simp[v8,wD]
 exact⟨_,by rw[e,xU (Pj.2.2 _) n2],xU w2 n1,e⟩
section
variable {lf n:Nat} {H:ag}
theorem akN {pp:Nat} (hn:5<=n) (aC:600000<lf):∃H',aj ak lf n 28 [.ptr pp 0,.str []] H=some (.bool true,H')/\Ext H H':=by
 obtain⟨n,rfl⟩:=aN (n:=n);obtain⟨H1,aV,aB⟩:=vN (lf:=lf) (n:=n) (H:=H) (s:=[]) (fun c hc=>by cases hc) (by simp) om om;have aV:aj ak lf n 54 [.str []] H=some (.aJ [.str [],.str []],H1):=aV;have key:∃w H',aj ak lf (n+1) 28 [.ptr pp 0,.str []] H=some (w,H')/\w=.bool true/\H'=H1:=by
  refine cx wb.1 ?_;refine af ae ?_;refine ai ae aV ?_;refine af @Bm ?_;refine ar ae ?_;refine af ae ?_;refine aO ae ?_;exact(⟨rfl,rfl⟩)
 obtain⟨w,H',h,rfl,rfl⟩:=key;exact⟨_,h,aB⟩
theorem akO {own:Nat->Nat} {pp:Nat} {G:List Gr} {R:List Rl} {E:List Gd} {s r nm:List Nat} {ms:List (List Nat)} (h:QP own H pp G R E) (hs:fV s=(wG,r)) (hr:fV r=(nm,zW ms)) (hb:∀c∈s,c<128) (hlen:s.length<=900) (ic:∀c∈r,c<128) (fB:r.length<=900) (h3:ms.length<=3) (hm:∀m∈ms,m∈dC) (fR:nm≠[]) (hG:G.length<900) (hn:6<=n) (aC:600000<lf):
 ∃au H' mv,aj ak lf n 28 [.ptr pp 0,.str s] H=some (.bool true,H')/\QP au H' pp (G++[(nm,mv,ms)]) R E/\bM own H au H':=by
 obtain⟨n,rfl⟩:=aN (n:=n);obtain⟨H1,aV,aB⟩:=vN (lf:=lf) (n:=n) (H:=H) hb hlen om om;rw[hs]at aV;obtain⟨au,H2,mv,aH,gH,bK⟩:=adj (lf:=lf) (n:=n) (h.ext aB) hr ic fB h3 hm fR hG om om;have key:∃w H',aj ak lf (n+1) 28 [.ptr pp 0,.str s] H=some (w,H')/\w=.bool true/\H'=H2:=by
  have e0:decide (wG=[])=false:=by decide
  have e1:wG[0]? =some 103:=by decide
  have e2:decide (((103:Nat):Int)=((35:Nat):Int))=false:=by decide
  have e3:decide (wG=[103,114,111,117,112])=true:=by decide
  generalize wG=w at aV e0 e1 e3;refine cx wb.1 ?_;refine af ae ?_;refine ai ae aV ?_;refine af (An @e0 (An @e1 @e2)) ?_;refine ah ae ?_;refine af @e3 ?_;refine ar ae ?_;refine af ae ?_;refine ai ae aH ?_;refine af ae ?_;refine aO ae ?_;exact(⟨rfl,rfl⟩)
 obtain⟨w,H',h,rfl,rfl⟩:=key;exact⟨au,_,mv,h,gH,(aB.bY own).trans bK⟩
theorem akQ {own:Nat->Nat} {pp k:Nat} {G:List Gr} {R:List Rl} {E:List Gd} {s r r1:List Nat} {x:Rl} (h:QP own H pp G R E) (hx:pE k x) (hs:fV s=(wR x.al,r)) (h1:fV r=(iY.getD (x.r-1) [],r1)) (h2:fV r1=(x.g,mL (x.k,x.t)))
 (hb:∀c∈s,c<128) (hlen:s.length<=900) (ic:∀c∈r,c<128) (fB:r.length<=900) (dn:∀c∈r1,c<128) (Ma:r1.length<=900) (hR:R.length<900) (hn:6<=n) (aC:600000<lf):
 ∃au H',aj ak lf n 28 [.ptr pp 0,.str s] H=some (.bool true,H')/\QP au H' pp G (R++[x]) E/\bM own H au H':=by
 obtain⟨n,rfl⟩:=aN (n:=n);obtain⟨H1,aV,aB⟩:=vN (lf:=lf) (n:=n) (H:=H) hb hlen om om;rw[hs]at aV;obtain⟨au,H2,aH,gH,bK⟩:=ajY (lf:=lf) (n:=n) (h.ext aB) hx h1 h2 ic fB dn Ma hR om aC;have key:∃w H',aj ak lf (n+1) 28 [.ptr pp 0,.str s] H=some (w,H')/\w=.bool true/\H'=H2:=by
  cases ha:x.al with
  |true=>
   rw[ha]at aV aH;have e0:decide (wR true=[])=false:=by decide
   have e1:(wR true)[0]? =some 97:=by decide
   have e2:decide (((97:Nat):Int)=((35:Nat):Int))=false:=by decide
   have e3:decide (wR true=[103,114,111,117,112])=false:=by decide
   have e4:decide (wR true=[97,108,108,111,119])=true:=by decide
   generalize wR true=w at aV e0 e1 e3 e4;refine cx wb.1 ?_;refine af ae ?_;refine ai ae aV ?_;refine af (An @e0 (An @e1 @e2)) ?_;refine ah ae ?_;refine af @e3 ?_;refine ah ae ?_;refine af @e4 ?_;refine ar ae ?_;refine af @e4 ?_;refine ai ae aH ?_;refine af ae ?_;refine aO ae ?_;exact(⟨rfl,rfl⟩)
  |false=>
   rw[ha]at aV aH;have e0:decide (wR false=[])=false:=by decide
   have e1:(wR false)[0]? =some 100:=by decide
   have e2:decide (((100:Nat):Int)=((35:Nat):Int))=false:=by decide
   have e3:decide (wR false=[103,114,111,117,112])=false:=by decide
   have e4:decide (wR false=[97,108,108,111,119])=false:=by decide
   have e5:decide (wR false=[100,101,110,121])=true:=by decide
   generalize wR false=w at aV e0 e1 e3 e4 e5;refine cx wb.1 ?_;refine af ae ?_;refine ai ae aV ?_;refine af (An @e0 (An @e1 @e2)) ?_;refine ah ae ?_;refine af @e3 ?_;refine ah ae ?_;refine af (An @e4 @e5) ?_;refine ar ae ?_;refine af @e4 ?_;refine ai ae aH ?_;refine af ae ?_;refine aO ae ?_;exact(⟨rfl,rfl⟩)
 obtain⟨w,H',h,rfl,rfl⟩:=key;exact⟨au,_,h,gH,(aB.bY own).trans bK⟩
theorem akP {own:Nat->Nat} {pp k:Nat} {G:List Gr} {R:List Rl} {E:List Gd} {s r:List Nat} {x:Gd} (h:QP own H pp G R E) (hx:qy k x) (hs:fV s=(wD x.st,r)) (h1:fV r=(x.g,eN x.t++iK x.s))
 (hb:∀c∈s,c<128) (hlen:s.length<=900) (ic:∀c∈r,c<128) (fB:r.length<=900) (hR:E.length<900) (hn:6<=n) (aC:600000<lf):
 ∃au H',aj ak lf n 28 [.ptr pp 0,.str s] H=some (.bool true,H')/\QP au H' pp G R (E++[x])/\bM own H au H':=by
 obtain⟨n,rfl⟩:=aN (n:=n);obtain⟨H1,aV,aB⟩:=vN (lf:=lf) (n:=n) (H:=H) hb hlen om om;rw[hs]at aV;obtain⟨au,H2,aH,gH,bK⟩:=adt (lf:=lf) (n:=n) (h.ext aB) hx h1 ic fB hR om aC;have key:∃w H',aj ak lf (n+1) 28 [.ptr pp 0,.str s] H=some (w,H')/\w=.bool true/\H'=H2:=by
  cases ha:x.st with
  |true=>
   rw[ha]at aV aH;have e0:decide (wD true=[])=false:=by decide
   have e1:(wD true)[0]? =some 115:=by decide
   have e2:decide (((115:Nat):Int)=((35:Nat):Int))=false:=by decide
   have e3:decide (wD true=[103,114,111,117,112])=false:=by decide
   have e4:decide (wD true=[97,108,108,111,119])=false:=by decide
   have e5:decide (wD true=[100,101,110,121])=false:=by decide
   have e6:decide (wD true=[103,117,97,114,100])=false:=by decide
   have e7:decide (wD true=[115,116,114,105,99,116])=true:=by decide
   generalize wD true=w at aV e0 e1 e3 e4 e5 e6 e7;refine cx wb.1 ?_;refine af ae ?_;refine ai ae aV ?_;refine af (An @e0 (An @e1 @e2)) ?_;refine ah ae ?_;refine af @e3 ?_;refine ah ae ?_;refine af (An @e4 @e5) ?_;refine ah ae ?_;refine af (An @e6 @e7) ?_;refine ar ae ?_;refine af @e7 ?_;refine ai ae aH ?_;refine af ae ?_;refine aO ae ?_;exact(⟨rfl,rfl⟩)
  |false=>
   rw[ha]at aV aH;have e0:decide (wD false=[])=false:=by decide
   have e1:(wD false)[0]? =some 103:=by decide
   have e2:decide (((103:Nat):Int)=((35:Nat):Int))=false:=by decide
   have e3:decide (wD false=[103,114,111,117,112])=false:=by decide
   have e4:decide (wD false=[97,108,108,111,119])=false:=by decide
   have e5:decide (wD false=[100,101,110,121])=false:=by decide
   have e6:decide (wD false=[103,117,97,114,100])=true:=by decide
   have e7:decide (wD false=[115,116,114,105,99,116])=false:=by decide
   generalize wD false=w at aV e0 e1 e3 e4 e5 e6 e7;refine cx wb.1 ?_;refine af ae ?_;refine ai ae aV ?_;refine af (An @e0 (An @e1 @e2)) ?_;refine ah ae ?_;refine af @e3 ?_;refine ah ae ?_;refine af (An @e4 @e5) ?_;refine ah ae ?_;refine af @e6 ?_;refine ar ae ?_;refine af @e7 ?_;refine ai ae aH ?_;refine af ae ?_;refine aO ae ?_;exact(⟨rfl,rfl⟩)
 obtain⟨w,H',h,rfl,rfl⟩:=key;exact⟨au,_,h,gH,(aB.bY own).trans bK⟩
end
end
section
def qn (G:List Gr):List (List Nat×List (List Nat)):=G.map fun g=>(g.1,g.2.2)
theorem RB.ro {B:Nat} {ok:Nat->Prop} {H:ag} {v:SV} {z:Nat} {L:List (List SV)} (h:RB B H v z L) (hB:∀b,B<=b->ok b):RO ok H v z L:=by
 refine⟨h.1,?_⟩;rcases h.2 with h|⟨b,c,e,ex,ro,frz,h1,hc,h2,h3,h4⟩
 ·exact .inl h
 ·exact .inr ⟨b,c,e,ex,ro,frz,h1,hc,hB b h2,h3,h4⟩
theorem MW.aQ {own:Nat->Nat} {k e:Nat} {H:ag} {v:SV} {z:Nat} {L:List (List SV)} (h:MW own k e H v z L):RO (fun b=>own b=k) H v z L:=by
 refine⟨h.1,?_⟩;rcases h.2 with h|⟨b,c,ex,h1,h2,h3,h4,h5,h6⟩
 ·exact .inl h
 ·exact .inr ⟨b,c,e,ex,false,0,h1,h2,h4,h5,h6⟩
theorem RO.nq {ok:Nat->Prop} {H:ag} {v:SV} {L:List (List Nat)} (h:RO ok H v 1 (bZ L)) {q:Nat} {e:TypeId} (hq:H.get q=some (.row [.ao,.ao,.ao] e true false 0)):RO (fun b=>ok b/\b≠q) H v 1 (bZ L):=by
 refine⟨h.1,?_⟩;rcases h.2 with h|⟨b,c,e,ex,ro,frz,h1,h2,h4,h5,h6⟩
 ·exact .inl h
 ·refine .inr ⟨b,c,e,ex,ro,frz,h1,h2,⟨h4,fun hb=>?_⟩,h5,h6⟩;subst hb;rw[hq,vU]at h6;have h7:=congrArg (fun o:Option cz=>match o with|some (.row cs _ _ _ _)=>cs|_=>[]) h6;cases L with
  |nil=>cases h7
  |cons x L=>cases h7
section
variable {lf n:Nat} {H:ag}
theorem ai8 {RS:SV->Nat->List (List SV)->Prop} {k:Nat} {gv rv dv:SV} {G:List Gr} {R:List Rl} {E:List Gd} (hp:g' RS k gv rv dv G R E) (hn:9<=n) (aC:600000<lf):
 ∃fO gE gu G' H',aj ak lf n 7 [.str (cE (dQ G R E))] H=some (.aJ [.agg [fO,gE,gu],iN 0,iN 0],H')/\Ext H H'/\g' (br H') k fO gE gu G' R E/\qn G'=qn G:=by
 obtain⟨n,rfl⟩:=aN (n:=n);have hT:=W3 hp;have fo:=hp.n3;have hTL:(cE (dQ G R E)).length<=793:=by
  have h1:=Dz (l:=dQ G R E) (k:=60) fun x hx=>(hT.2 x hx).1
  have:=Nat.mul_le_mul_left 61 hT.1;omega
 have TD:G.length=k:=by
  have:=congrArg List.length hp.pO;rw[List.length_map,List.length_take]at this;simp only[fY,List.length_cons,List.length_nil]at this;omega
 have qS:=hp.sU;have BB:=hp.se;have hK:(dQ G R E).length=k+R.length+E.length:=by simp only[dQ,List.length_append,List.length_map];omega
 obtain⟨H1,ay⟩:∃H1,H.push (.row [.ao,.ao,.ao] 29 true false 0)=H1:=⟨_,rfl⟩;have aB:Ext H H1:=by rw[<-ay];exact(Ext.refl H).push _
 have ca:H1.next=H.next+1:=by rw[<-ay];rfl
 have bP:H1.get H.next=some (.row [.ao,.ao,.ao] 29 true false 0):=by rw[<-ay];exact bd _
 obtain⟨pp,nZ⟩:∃pp,H1.next=pp:=⟨_,rfl⟩;obtain⟨H2,aY⟩:∃H2,H1.push (.row [.ao,.ao,.ao] 29 true false 0)=H2:=⟨_,rfl⟩;have cG:Ext H1 H2:=by rw[<-aY];exact(Ext.refl H1).push _
 have dc:H2.next=H1.next+1:=by rw[<-aY];rfl
 have bB:H2.get pp=some (.row [.ao,.ao,.ao] 29 true false 0):=by rw[<-aY,<-nZ];exact bd _
 obtain⟨v,H3,bf,dJ,Vt⟩:=akH (lf:=lf) (n:=n) (H:=H2) (ls:=dQ G R E) (fun l hl=>⟨fun hm=>((hT.2 l hl).2 10 hm).2 rfl,(hT.2 l hl).1⟩) hT.1 om om;obtain⟨de,pf⟩:∃de:Nat->Nat,∀b,de b=if b=pp then 4 else 0:=⟨_,fun _=>rfl⟩
 have o4:de pp=4:=by rw[pf,if_pos rfl]
 have oz:∀b,b≠pp->de b=0:=fun b hb=>by rw[pf,if_neg hb]
 have aoh:=dJ.1;have hQ0:QP de H3 pp [] [] []:=⟨fun b hb=>oz b om,o4,by omega,⟨_,_,_,(dJ.2 pp om).trans bB,⟨(fun _ h=>by cases h),.inl ⟨rfl,rfl⟩⟩,⟨(fun _ h=>by cases h),.inl ⟨rfl,rfl⟩⟩,⟨(fun _ h=>by cases h),.inl ⟨rfl,rfl⟩⟩⟩,fun g hg=>by cases hg⟩;have hvO:RO (fun b=>de b=0) H3 v 1 (bZ (dQ G R E++[[]])):=Vt.ro fun b hb=>oz b om
 have dA:H3.get H.next=some (.row [.ao,.ao,.ao] 29 true false 0):=by rw[dJ.2 _ om,cG.2 _ om];exact bP
 have xD:de H.next=0:=oz _ om;have aS:Ext H H3:=aB.trans (cG.trans dJ);have dE:=Vt.aQ.cA;rw[kt,List.length_append,List.length_singleton]at dE;have key:∃w H',aj ak lf (n+1) 7 [.str (cE (dQ G R E))] H=some (w,H')/\∃fO gE gu G',w=.aJ [.agg [fO,gE,gu],iN 0,iN 0]/\Ext H H'/\g' (br H') k fO gE gu G' R E/\qn G'=qn G:=by
  have d0:decide ((((cE (dQ G R E)).length:Nat):Int)>((8192:Nat):Int))=false:=df;obtain⟨tx,MZ⟩:∃tx,cE (dQ G R E)=tx:=⟨_,rfl⟩;rw[MZ]at bf d0 ⊢;refine cx x7.1 ?_;refine af (An @ay @d0) ?_;refine ah ae ?_;refine af (An @ay (An @nZ @aY)) ?_;refine ai ae bf ?_;refine af @dE ?_;refine bH (I:=fun m ts D Q=>D=[]/\∃(i:Nat) (au:Nat->Nat) (G':List Gr),m=(dQ G R E).length+1-i/\i<=(dQ G R E).length+1/\QP au Q pp G' (R.take (i-k)) (E.take (i-k-R.length))/\qn G'=qn (G.take i)/\bM de H3 au Q/\∃z:Nat->SV,ts=(z 0::z 1::(.ptr H.next 0)::z 3::z 4::(.ptr pp 0)::zz z 6 8 ((v)::(.int .i64 (((dQ G R E).length+1:Nat):Int))::(.int .i64 (i:Int))::zz z 17 18 []):T)/\(True)) ?_ ((dQ G R E).length+1) ?_ om
  ·rintro m ts D Q ⟨rfl,i,au,G',rfl,hi,hQ,fR,hP,⟨z,rfl, -⟩⟩;have hvQ:=hvO.ax hP.1 hP.2;have hG':G'.length=(G.take i).length:=by
    have:=congrArg List.length fR;simpa[qn]using this
   rw[List.length_take]at hG';by_cases bw:i<(dQ G R E).length+1
   ·have d1:decide (((i:Nat):Int)<(((dQ G R E).length+1:Nat):Int))=true:=dt;obtain⟨l,hl⟩:∃l,(dQ G R E++[[]])[i]? =some l:=⟨_,List.getElem?_eq_getElem (by rw[List.length_append,List.length_singleton];exact bw)⟩;obtain⟨b,o,j1,_,j2,_⟩:=hvQ.aQ.at_ (yn hl);obtain⟨c5,Q2,G2,hj,gH,Mq,bK⟩:∃(c5:Nat->Nat) (Q2:ag) (G2:List Gr),aj ak lf n 28 [.ptr pp 0,.str l] Q=some (.bool true,Q2)/\QP c5 Q2 pp G2 (R.take (i+1-k)) (E.take (i+1-k-R.length))/\qn G2=qn (G.take (i+1))/\bM au Q c5 Q2:=by
     have fh:∀{x y:List Nat} {a:List Nat},x∈dQ G R E->x=a++32::y->(∀c∈y,c<128)/\y.length<=900:=fun hx e=>by
      have hh:=hT.2 _ hx;rw[e]at hh;refine⟨fun c hc=>(hh.2 c (by simp[hc])).1,?_⟩;have:=hh.1;simp only[List.length_append,List.length_cons]at this;omega
     by_cases h1:i<k
     ·obtain⟨g,hg⟩:∃g,G[i]? =some g:=⟨_,List.getElem?_eq_getElem om⟩;have kE:=List.mem_of_getElem? hg;have hle:l=eZ g:=by
       rw[List.getElem?_append_left om,dQ,List.getElem?_append_left (by rw[List.length_map];omega),List.getElem?_map,hg]at hl;exact(Option.some.inj hl).symm
      subst hle;have sG:eZ g∈dQ G R E:=List.mem_append_left _ (List.mem_map_of_mem kE);have fA:=hT.2 _ sG;have jP:=hp.tE g kE;have h3:=hp.tD g kE;have hnn:g.1∈lN k:=List.mem_cons_of_mem _ (List.mem_cons_of_mem _ (by rw[<-hp.pO];exact List.mem_map_of_mem kE));have fT:=vV hg;obtain⟨nm,mv,ms⟩:=g;have UF:∀m∈ms,m∈dC:=fun m hm=>NJ k (mH fo) m (jP m hm)
      have Vw:=v7 (Pk k (mH fo) nm hnn);obtain⟨r,w1,w2,w3⟩:=agM (mv:=mv) Vw (ms:=ms) fun m hm=>v7 (al7 m (UF m hm))
      obtain⟨r1,r2⟩:=fh sG w3;have e1:i-k=0:=om;have e2:i+1-k=0:=om;rw[e1]at hQ;rw[e2];obtain⟨c5,Q2,mv2,hj,gH,bK⟩:=akO (lf:=lf) (n:=n) hQ w1 w2 (fun c hc=>(fA.2 c hc).1) (by have:=fA.1;omega) r1 r2 h3 UF Vw.1 om om aC;refine⟨c5,Q2,G'++[(nm,mv2,ms)],hj,?_,?_,bK⟩
      ·simpa using gH
      ·rw[fT];simp only[qn,List.map_append,List.map_cons,List.map_nil]at fR ⊢;rw[fR]
     ·have hGi:G.take (i+1)=G.take i:=by rw[List.take_of_length_le om,List.take_of_length_le om]
      rw[hGi];by_cases h2:i<k+R.length
      ·obtain⟨x,hx⟩:∃x,R[i-k]? =some x:=⟨_,List.getElem?_eq_getElem om⟩;have lL:=hp.uy x (List.mem_of_getElem? hx);have hle:l=fK x:=by
        rw[List.getElem?_append_left om,dQ,List.getElem?_append_right (by rw[List.length_map];omega),List.length_map,TD,List.getElem?_append_left (by rw[List.length_map];omega),List.getElem?_map,hx]at hl;exact(Option.some.inj hl).symm
       subst hle;have sG:fK x∈dQ G R E:=List.mem_append_right _ (List.mem_append_left _ (List.mem_map_of_mem (List.mem_of_getElem? hx)));have fA:=hT.2 _ sG;obtain⟨r,r1,w1,w2,w3,w4,w5⟩:=agN fo lL;obtain⟨s1,s2⟩:=fh sG w4;have s3:(∀c∈r1,c<128)/\r1.length<=900:=by
        rw[w5]at s1 s2;refine⟨fun c hc=>s1 c (by simp[hc]),?_⟩;simp only[List.length_append,List.length_cons]at s2;omega
       have e1:i-k-R.length=0:=om;have e2:i+1-k-R.length=0:=om;have e3:i+1-k=(i-k)+1:=om;rw[e1]at hQ;rw[e2,e3,vV hx];obtain⟨c5,Q2,hj,gH,bK⟩:=akQ (lf:=lf) (n:=n) hQ lL w1 w2 w3 (fun c hc=>(fA.2 c hc).1) (by have:=fA.1;omega) s1 s2 s3.1 s3.2 (by rw[List.length_take];omega) om aC;exact⟨c5,Q2,G',hj,gH,fR,bK⟩
      ·have hRi:R.take (i+1-k)=R.take (i-k):=by rw[List.take_of_length_le om,List.take_of_length_le om]
       rw[hRi];by_cases h3:i<k+R.length+E.length
       ·obtain⟨x,hx⟩:∃x,E[i-k-R.length]? =some x:=⟨_,List.getElem?_eq_getElem om⟩;have lL:=hp.qG x (List.mem_of_getElem? hx);have hle:l=fJ x:=by
         rw[List.getElem?_append_left om,dQ,List.getElem?_append_right (by rw[List.length_map];omega),List.length_map,TD,List.getElem?_append_right (by rw[List.length_map];omega),List.length_map,List.getElem?_map,hx]at hl;exact(Option.some.inj hl).symm
        subst hle;have sG:fJ x∈dQ G R E:=List.mem_append_right _ (List.mem_append_right _ (List.mem_map_of_mem (List.mem_of_getElem? hx)));have fA:=hT.2 _ sG;obtain⟨r,w1,w2,w4⟩:=agL fo lL;obtain⟨s1,s2⟩:=fh sG w4;have e3:i+1-k-R.length=(i-k-R.length)+1:=om;rw[e3,vV hx];obtain⟨c5,Q2,hj,gH,bK⟩:=akP (lf:=lf) (n:=n) hQ lL w1 w2 (fun c hc=>(fA.2 c hc).1) (by have:=fA.1;omega) s1 s2 (by rw[List.length_take];omega) om aC;exact⟨c5,Q2,G',hj,gH,fR,bK⟩
       ·have hEi:E.take (i+1-k-R.length)=E.take (i-k-R.length):=by rw[List.take_of_length_le om,List.take_of_length_le om]
        rw[hEi];have hle:l=[]:=by
         rw[List.getElem?_append_right om,show i-(dQ G R E).length=0 by omega]at hl;exact(Option.some.inj hl).symm
        subst hle;obtain⟨Q2,hj,aF⟩:=akN (lf:=lf) (n:=n) (H:=Q) (pp:=pp) om aC;exact⟨au,Q2,G',hj,hQ.ext aF,fR,aF.bY au⟩
    have an1:i<100:=by have:=hT.1;omega
    generalize (dQ G R E).length+1=nl at*;refine af @d1 ?_;refine ar ae ?_;refine af (An @j1 @j2) ?_;refine ai ae hj ?_;refine af ae ?_;refine ah ae ?_;refine af ae ?_;refine af (c8 (k:=i) om) ?_;refine aT (nl-(i+1)) om ⟨rfl,i+1,c5,G2,rfl,by omega,gH,Mq,hP.trans bK,aw⟩
   ·have gV:i=(dQ G R E).length+1:=om;have d1:decide (((i:Nat):Int)<(((dQ G R E).length+1:Nat):Int))=false:=df;rw[List.take_of_length_le om,List.take_of_length_le om]at hQ;rw[List.take_of_length_le om]at fR;obtain⟨fO,gE,gu,g1,g2,g3,g4⟩:=hQ.ex;have Ch:∀g∈G',∃g0∈G,g0.1=g.1/\g0.2.2=g.2.2:=fun g hg=>by
     have:(g.1,g.2.2)∈qn G:=by rw[<-fR];exact List.mem_map_of_mem (f:=fun g:Gr=>(g.1,g.2.2)) hg
     obtain⟨g0,h0,e⟩:=List.mem_map.1 this;have e':=Prod.mk.inj e;exact⟨g0,h0,e'.1,e'.2⟩
    have mk:∀{uO:SV->Nat->List (List SV)->Prop},uO fO 2 (G'.map iQ)->uO gE 6 (R.map gD)->uO gu 5 (E.map iA)->(∀g∈G',uO g.2.1 1 (bZ g.2.2))->g' uO k fO gE gu G' R E:=fun m1 m2 m3 m4=>by
     refine⟨fo,m1,m4,fun g hg=>?_,fun g hg=>?_,?_,m2,qS,hp.uy,m3,BB,hp.qG⟩
     ·obtain⟨g0,h0,_,e2⟩:=Ch g hg;rw[<-e2];exact hp.tD g0 h0
     ·obtain⟨g0,h0,_,e2⟩:=Ch g hg;rw[<-e2];exact hp.tE g0 h0
     ·have:=congrArg (List.map Prod.fst) fR;simp only[qn,List.map_map]at this;have hh:List.map (fun x:Gr=>x.1) G'=List.map (fun x:Gr=>x.1) G:=this;rw[hh,hp.pO]
    obtain⟨H4,kH,bz⟩:=W4 (lf:=lf) (n:=n) (H:=Q) (mk g2.aQ.aQ g3.aQ.aQ g4.aQ.aQ fun g hg=>(hQ.mem g hg).aQ) om om;have Cr:=hP.2 H.next xD om;have hnQ:H.next<Q.next:=Nat.lt_of_lt_of_le om hP.1;have hgq:=(bz.2 H.next hnQ).trans (Cr.2.trans dA);have g5:=(bz.2 pp hQ.lt).trans g1;have r3:aq (Q.get pp) 0 3=some [fO,gE,gu]:=by rw[g1];rfl
    have r5:aq (H4.get pp) 0 3=some [fO,gE,gu]:=by rw[g5];rfl
    have o1:=g2.aQ.aQ.one;have o2:=g3.aQ.aQ.one;have o3:=g4.aQ.aQ.one;obtain⟨H5,bg⟩:∃H5,H4.put H.next (.row [fO,gE,gu] 29 true false 0)=H5:=⟨_,rfl⟩;have aD:c7 3 (.ptr H.next 0) [fO,gE,gu] H4=some H5:=by
     rw[iL (n:=3) (cs:=[fO,gE,gu]) rfl,iq,hgq,im (by simp) (Nat.zero_le _) (by simp only[List.all_cons,o1,o2,o3,List.all_nil];rfl),<-bg];rfl
    have sJ:aq (H5.get H.next) 0 3=some [fO,gE,gu]:=by rw[<-bg,bT];rfl
    have kp:∀{w:SV} {z:Nat} {L:List (List SV)} {ok:Nat->Prop},(∀b,ok b->b≠H.next)->RO ok Q w z L->br H5 w z L:=fun cZ h=>(h.ax (ok':=‹Nat->Prop›) (H':=H5) (by rw[<-bg];exact bz.1) fun b hb hn=>⟨hb,by rw[<-bg,cI (cZ b hb)];exact bz.2 b hn⟩).aQ
    have qP:Ext H H5:=by
     refine⟨by rw[<-bg,ea];have:=aS.1;have:=hP.1;have:=bz.1;omega,fun b hb=>?_⟩;rw[<-bg,cI om,bz.2 b om,(hP.2 b (oz b om) om).2,aS.2 b hb]
    have hPR:g' (br H5) k fO gE gu G' R E:=mk (kp (fun b hb e=>by rw[e,Cr.1]at hb;omega) g2.aQ) (kp (fun b hb e=>by rw[e,Cr.1]at hb;omega) g3.aQ) (kp (fun b hb e=>by rw[e,Cr.1]at hb;omega) g4.aQ)
     fun g hg=>kp (fun b hb=>hb.2) ((hQ.mem g hg).nq (Cr.2.trans dA))
    have d31:=vK;refine af @d1 ?_;refine ah ae ?_;refine af @r3 ?_;refine ai ae kH ?_;refine af @d31 ?_;refine ah ae ?_;refine af (An @r5 @aD) ?_;refine gQ (vR _ _ _ _ _ _ (by exact aZ @sJ) (by exact aZ trivial) (by exact aZ trivial)) ?_;exact⟨fO,gE,gu,G',rfl,qP,hPR,fR⟩
  ·refine⟨rfl,0,de,[],rfl,Nat.zero_le _,?_,rfl,bM.refl _ _,aw⟩;simpa using hQ0
 obtain⟨w,H',h,fO,gE,gu,G',rfl,h1,h2,h3⟩:=key;exact⟨fO,gE,gu,G',H',h,h1,h2,h3⟩
end
end
end Go.Sh
