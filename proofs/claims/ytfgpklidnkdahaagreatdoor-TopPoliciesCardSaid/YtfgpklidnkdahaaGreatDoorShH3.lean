/-
  The groups of a reader are some list of texts. No conditions beyond those that stand in the theorems.
-/
import Derived.Test.YtfgpklidnkdahaaGreatDoorShH2
set_option linter.all false
set_option maxHeartbeats 20000000
set_option maxRecDepth 10000
namespace Go.Sh
section
def WS (H:ag) (v:SV) (b:Nat) (L:List (List Nat)):Prop:=∃c ex,v=.slice b 0 L.length c 1/\H.get b=some (.row (L.map SV.str) 9 ex false 0)
theorem WS.at_ {H:ag} {v:SV} {b:Nat} {L:List (List Nat)} (h:WS H v b L) {i:Nat} {x:List Nat} (hi:L[i]? =some x):kN 1 v (.int .i64 (i:Int))=some (.ptr b i)/\aq (H.get b) i 1=some [.str x]:=by
 obtain⟨c,ex,rfl,hg⟩:=h;have hlt:=(List.getElem?_eq_some_iff.1 hi).1;refine⟨?_,?_⟩
 ·rw[qh om om,Nat.zero_add,Nat.mul_one];rfl
 ·rw[hg];exact nE (by simp[hi])
theorem WS.set {H:ag} {v:SV} {b:Nat} {L:List (List Nat)} (h:WS H v b L) {i:Nat} (hi:i<L.length) (y:List Nat):∃H',c7 1 (.ptr b i) [.str y] H=some H'/\WS H' v b (L.set i y)/\H'.next=H.next/\∀q,q≠b->H'.get q=H.get q:=by
 obtain⟨c,ex,rfl,hg⟩:=h;refine⟨_,gY hg rfl (by rw[List.length_map];omega) (Nat.zero_le _),⟨c,ex,by rw[List.length_set],?_⟩,rfl,fun q hq=>cI hq⟩;rw[bT,List.map_set]
section
variable {lf n:Nat} {H:ag}
theorem agI {a b:List Nat} (hn:2<=n):aj ak lf n 103 [.str a,.str b] H=some (.bool (ou a b),H):=by
 obtain⟨n,rfl⟩:=aN (n:=n);have adw:aj ak lf n 180 [.str a] H=some (.bool false,H):=by
  obtain⟨n,rfl⟩:=aN (n:=n);have key:∃w H',aj ak lf (n+1) 180 [.str a] H=some (w,H')/\w=.bool false/\H'=H:=by
   have d0:decide (a≠a)=false:=by simp
   refine cx PD.1 ?_;refine af @d0 ?_;refine aO ae ?_;exact(⟨rfl,rfl⟩)
  obtain⟨w,H',h,rfl,rfl⟩:=key;exact h
 have key:∃w H',aj ak lf (n+1) 103 [.str a,.str b] H=some (w,H')/\w=.bool (ou a b)/\H'=H:=by
  refine cx Pm.1 ?_;refine af ae ?_;refine ai ae adw ?_;refine af @aaZ ?_;refine aO ae ?_;exact(⟨rfl,rfl⟩)
 obtain⟨w,H',h,rfl,rfl⟩:=key;exact h
theorem afP {v:SV} {b:Nat} {L:List (List Nat)} (h:WS H v b L) (hl:L.length<100) (hn:3<=n) (aC:1000<lf):
 ∃H' L',aj ak lf n 97 [v,iN 0,iN L.length] H=some (.aJ [],H')/\WS H' v b L'/\L'.length=L.length/\H'.next=H.next/\∀q,q≠b->H'.get q=H.get q:=by
 obtain⟨n,rfl⟩:=aN (n:=n);obtain⟨N,hN⟩:∃N,L.length=N:=⟨_,rfl⟩;rw[hN];have key:∃w H',aj ak lf (n+1) 97 [v,iN 0,iN N] H=some (w,H')/\w=.aJ []/\∃L',WS H' v b L'/\L'.length=N/\H'.next=H.next/\∀q,q≠b->H'.get q=H.get q:=by
  have h01:((0:Nat):Int)+((1:Nat):Int)=((1:Nat):Int):=by decide
  refine cx QB.1 ?_;refine af @h01 ?_;refine bH (I:=fun m ts D Q=>D=[]/\∃(i:Nat) (L1:List (List Nat)),m=N-i/\1<=i/\i<=N+1/\WS Q v b L1/\L1.length=N/\Q.next=H.next/\(∀q,q≠b->Q.get q=H.get q)/\∃z:Nat->SV,ts=((v)::(.int .i64 ((0:Nat):Int))::(.int .i64 (N:Int))::zz z 3 3 ((.int .i64 (i:Int))::zz z 7 42 []):T)/\(True)) ?_ (N-1) ?_ om
  ·rintro m ts D Q ⟨rfl,i,L1,rfl,gf,hi,hW,Fi,jw,hk,⟨z,rfl, -⟩⟩;by_cases bw:i<N
   ·have d1:decide (((i:Nat):Int)<((N:Nat):Int))=true:=dt;refine af @d1 ?_;refine ar ae ?_;refine af ae ?_;refine bH (I:=fun m ts D P=>D=[]/\∃(j:Nat) (L2:List (List Nat)),m=j/\j<=i/\WS P v b L2/\L2.length=N/\P.next=H.next/\(∀q,q≠b->P.get q=H.get q)/\∃z:Nat->SV,ts=((v)::(.int .i64 ((0:Nat):Int))::(.int .i64 (N:Int))::zz z 3 3 ((.int .i64 (i:Int))::(.int .i64 (j:Int))::zz z 8 41 []):T)/\(True)) ?_ i ?_ om
    ·rintro m ts D P ⟨rfl,j,L2,rfl,hj,BN,K9,Mu,dX,⟨z,rfl, -⟩⟩;by_cases L3:m=0
     ·subst L3;have d2:decide (((0:Nat):Int)>((0:Nat):Int))=false:=by decide
      refine af ae ?_;refine dG rfl ?_;refine qu @d2 ?_;refine dB ?_ ?_
      ·exact dh @d2
      ·refine af ae ?_;refine ah ae ?_;refine af (c8 (k:=i) om) ?_;refine aT (N-(i+1)) om ⟨rfl,i+1,L2,rfl,by omega,by omega,BN,K9,Mu,dX,aw⟩
     ·have d2:decide (((m:Nat):Int)>((0:Nat):Int))=true:=dt;have ke:((m:Nat):Int)-((1:Nat):Int)=((m-1:Nat):Int):=om;obtain⟨x,hx⟩:∃x,L2[m]? =some x:=⟨_,List.getElem?_eq_getElem om⟩;obtain⟨y,hy⟩:∃y,L2[m-1]? =some y:=⟨_,List.getElem?_eq_getElem om⟩;obtain⟨i1,r1⟩:=BN.at_ hx;obtain⟨i2,r2⟩:=BN.at_ hy;have FO:=agI (lf:=lf) (n:=n) (H:=P) (a:=x) (b:=y) om;cases hlt:ou x y with
      |false=>
       rw[hlt]at FO;refine af ae ?_;refine dG rfl ?_;refine af (An @d2 (An @ke (An @i1 (An @i2 (An @r1 @r2))))) ?_;refine dH (by exact aZ trivial) FO bW ?_;refine af ae ?_;refine dB ?_ ?_
       ·exact dh (An @d2 (An @ke (An @i1 (An @i2 (An @r1 @r2)))))
       ·refine af ae ?_;refine ah ae ?_;refine af (c8 (k:=i) om) ?_;refine aT (N-(i+1)) om ⟨rfl,i+1,L2,rfl,by omega,by omega,BN,K9,Mu,dX,aw⟩
      |true=>
       rw[hlt]at FO;obtain⟨P1,s1,w1,n1,o1⟩:=BN.set (i:=m) om y;obtain⟨P2,s2,w2,n2,o2⟩:=w1.set (i:=m-1) (by rw[List.length_set];omega) x;refine af ae ?_;refine dG rfl ?_;refine af (An @d2 (An @ke (An @i1 (An @i2 (An @r1 @r2))))) ?_;refine dH (by exact aZ trivial) FO bW ?_;refine af ae ?_;refine dB ?_ ?_
       ·exact dh (An @d2 (An @ke (An @i1 (An @i2 (An @r1 @r2)))))
       ·refine af ae ?_;refine ar ae ?_;refine af ae ?_;refine dG rfl ?_;refine af (An @ke (An @i1 (An @i2 (An @r1 (An @r2 (An @s1 @s2)))))) ?_;refine dB ?_ ?_
        ·exact dh (An @ke (An @i1 (An @i2 (An @r1 @r2))))
        ·refine af @ke ?_;refine aT (m-1) om ⟨rfl,m-1,_,rfl,by omega,w2,by rw[List.length_set,List.length_set];exact K9,n2.trans (n1.trans Mu),fun q hq=>(o2 q hq).trans ((o1 q hq).trans (dX q hq)),aw⟩
    ·exact⟨rfl,i,L1,rfl,Nat.le_refl _,hW,Fi,jw,hk,aw⟩
   ·have d1:decide (((i:Nat):Int)<((N:Nat):Int))=false:=df;refine af @d1 ?_;refine ah ae ?_;refine af ae ?_;refine cF bQ ?_;exact(⟨rfl,L1,hW,Fi,jw,hk⟩)
  ·exact⟨rfl,1,L,rfl,Nat.le_refl _,by omega,h,hN,rfl,fun _ _=>rfl,aw⟩
 obtain⟨w,H',h,rfl,L',h1,h2,h3,h4⟩:=key;exact⟨H',L',h,h1,h2,h3,h4⟩
theorem aky {v:SV} {b:Nat} {L:List (List Nat)} (h:WS H v b L) (hl:L.length<=6) (hn:5<=n) (aC:1000<lf):
 ∃H' L',aj ak lf n 33 [v] H=some (.aJ [],H')/\WS H' v b L'/\L'.length=L.length/\H'.next=H.next/\∀q,q≠b->H'.get q=H.get q:=by
 obtain⟨n,rfl⟩:=aN (n:=n);obtain⟨n,rfl⟩:=aN (n:=n);obtain⟨H1,L1,aV,k1,k2,k3,k4⟩:=afP (lf:=lf) (n:=n) h om om aC;have hlen:kn v=some (.int .i64 (L.length:Int)):=by obtain⟨c,ex,rfl,_⟩:=h;rfl
 obtain⟨q,hq⟩:∃q,aj ak lf (n+1) 61 [.int .u64 (L.length:Int)] H=some (.int .i64 q,H):=by
  have hm:L.length∈[0,1,2,3,4,5,6]:=by
   have:L.length=0\/L.length=1\/L.length=2\/L.length=3\/L.length=4\/L.length=5\/L.length=6:=om;simpa using this
  have hk:=fe agl hm;unfold gm at hk;rw[yN]at hk;split at hk
  ·rename_i q hr;refine⟨q,?_⟩;simp only[aj,ala];exact NP rfl hr H
  ·cases hk
 have hwr:IntKind.wrap .u64 (L.length:Int)=(L.length:Int):=by
  have hm:L.length∈[0,1,2,3,4,5,6]:=by
   have:L.length=0\/L.length=1\/L.length=2\/L.length=3\/L.length=4\/L.length=5\/L.length=6:=om;simpa using this
  exact(by decide:∀k∈[0,1,2,3,4,5,6],IntKind.wrap .u64 ((k:Nat):Int)=((k:Nat):Int)) _ hm
 have Tk:aj ak lf (n+1) 60 [v,iN 0,iN L.length,.int .i64 q] H=some (.aJ [],H1):=by
  have key:∃w H',aj ak lf (n+1) 60 [v,iN 0,iN L.length,.int .i64 q] H=some (w,H')/\w=.aJ []/\H'=H1:=by
   have d0:((L.length:Nat):Int)-((0:Nat):Int)=((L.length:Nat):Int):=om;have d1:decide (((L.length:Nat):Int)<=((12:Nat):Int))=true:=dt;generalize L.length=N at*;refine cx Qx.1 ?_;refine af ae ?_;refine bH (I:=fun m ts D Q=>D=[]/\Q=H/\∃z:Nat->SV,ts=((v)::(.int .i64 ((0:Nat):Int))::(.int .i64 (N:Int))::(.int .i64 q)::zz z 4 130 []:T)/\(True)) ?_ 1 ?_ om
   ·rintro m ts D Q ⟨rfl,rfl,⟨z,rfl, -⟩⟩;refine af (An @d0 @d1) ?_;refine ar ae ?_;refine af ae ?_;refine ai ae aV ?_;refine af ae ?_;refine gQ bQ ?_;exact(⟨rfl,rfl⟩)
   ·exact⟨rfl,rfl,aw⟩
  obtain⟨w,H',h,rfl,rfl⟩:=key;exact h
 have key:∃w H',aj ak lf (n+1+1) 33 [v] H=some (w,H')/\w=.aJ []/\H'=H1:=by
  refine cx P6.1 ?_;refine af (An @hlen @hwr) ?_;refine ai ae hq ?_;refine af ae ?_;refine ai ae Tk ?_;refine af ae ?_;refine cF bQ ?_;exact(⟨rfl,rfl⟩)
 obtain⟨w,H',h,rfl,rfl⟩:=key;exact⟨_,L1,h,k1,k2,k3,k4⟩
end
end
section
section
variable {lf n:Nat} {H:ag}
theorem abF {b6 b3 b5:Nat} {lv:SV} {gl:List (List Nat)} {nb:Bool} {u m:List Nat} (h6:aq (H.get b6) 0 1=some [.bool nb]) (h3:aq (H.get b3) 0 1=some [.str u]) (h5:aq (H.get b5) 0 1=some [lv]) (hl:br H lv 1 (bZ gl)) (qY:gl.length<1000) (hm:m.length<1000) (hn:3<=n) (aC:600000<lf):
 ∃bo,aj ak lf n 32 [.str m,.ptr b6 0,.ptr b3 0,.ptr b5 0] H=some (.bool bo,H):=by
 obtain⟨n,rfl⟩:=aN (n:=n);have jO:=hl.bq;have key:∃w H',aj ak lf (n+1) 32 [.str m,.ptr b6 0,.ptr b3 0,.ptr b5 0] H=some (w,H')/\∃bo,w=.bool bo/\H'=H:=by
  have rest:∀(f0:m=u->nb=false),(m=[]\/∃c r,m=c::r/\c≠64)\/(∃r,m=64::r):=fun _=>by
   match m with
   |[]=>exact .inl (.inl rfl)
   |c::r=>
    by_cases hc:c=64
    ·subst hc;exact .inr ⟨r,rfl⟩
    ·exact .inl (.inr ⟨c,r,rfl,hc⟩)
  cases nb with
  |true=>
   by_cases hu:m=u
   ·have d1:decide (m=u)=true:=decide_eq_true hu;refine cx uL.1 ?_;refine af ae ?_;refine dG rfl ?_;refine qu (An @h6 (An @h3 @d1)) ?_;refine dB ?_ ?_
    ·exact dh (An @h6 (An @h3 @d1))
    ·refine af ae ?_;refine aO ae ?_;exact(⟨_,rfl,rfl⟩)
   ·have d1:decide (m=u)=false:=decide_eq_false hu;rcases rest (fun h=>absurd h hu)with(rfl|⟨c,r,rfl,hc⟩)|⟨r,rfl⟩
    ·have d2:decide (((0:Nat):Int)>((0:Nat):Int))=false:=by decide
     have nk:([]:List Nat).length=0:=rfl;refine cx uL.1 ?_;refine af ae ?_;refine dG rfl ?_;refine qu (An @h6 (An @h3 (An @d1 (An @nk @d2)))) ?_;refine dB ?_ ?_
     ·exact dh (An @h6 (An @h3 (An @d1 (An @nk @d2))))
     ·refine af ae ?_;refine aO ae ?_;exact(⟨_,rfl,rfl⟩)
    ·have d2:decide ((((c::r).length:Nat):Int)>((0:Nat):Int))=true:=by simp only[List.length_cons,decide_eq_true_eq];omega
     have lE:(c::r)[0]? =some c:=rfl;have d3:decide (((c:Nat):Int)=((64:Nat):Int))=false:=df;generalize hx:c::r=x at*;generalize lK:x.length=xl at*;refine cx uL.1 ?_;refine af ae ?_;refine dG rfl ?_;refine qu (An @h6 (An @h3 (An @d1 (An @lK (An @d2 (An @lE @d3)))))) ?_;refine dB ?_ ?_
     ·exact dh (An @h6 (An @h3 (An @d1 (An @lK (An @d2 (An @lE @d3))))))
     ·refine af ae ?_;refine aO ae ?_;exact(⟨_,rfl,rfl⟩)
    ·have d2:decide ((((64::r).length:Nat):Int)>((0:Nat):Int))=true:=by simp only[List.length_cons,decide_eq_true_eq];omega
     have lE:(64::r)[0]? =some 64:=rfl;have d3:decide (((64:Nat):Int)=((64:Nat):Int))=true:=by decide
     have bn:=Dg (lf:=lf) (n:=n) (s:=r) hl om om aC;have bE:((64::r).drop 1).take ((64::r).length-1)=r:=by simp
     have rh:1<=(64::r).length:=by simp
     generalize hx:64::r=x at*;generalize lK:x.length=xl at*;refine cx uL.1 ?_;refine af ae ?_;refine dG rfl ?_;refine qu (An @h6 (An @h3 (An @d1 (An @lK (An @d2 (An @lE (An @d3 (An @h5 @bE)))))))) ?_;refine dH (by exact aZ trivial) bn bW ?_;refine qu ae ?_;refine dB ?_ ?_
     ·exact dh (An @h6 (An @h3 (An @d1 (An @lK (An @d2 (An @lE (An @d3 (An @h5 @jO))))))))
     ·refine af ae ?_;refine aO ae ?_;exact(⟨_,rfl,rfl⟩)
  |false=>
   rcases rest (fun _=>rfl)with(rfl|⟨c,r,rfl,hc⟩)|⟨r,rfl⟩
   ·have d2:decide (((0:Nat):Int)>((0:Nat):Int))=false:=by decide
    have nk:([]:List Nat).length=0:=rfl;refine cx uL.1 ?_;refine af ae ?_;refine dG rfl ?_;refine qu (An @h6 (An @nk @d2)) ?_;refine dB ?_ ?_
    ·exact dh (An @h6 (An @nk @d2))
    ·refine af ae ?_;refine aO ae ?_;exact(⟨_,rfl,rfl⟩)
   ·have d2:decide ((((c::r).length:Nat):Int)>((0:Nat):Int))=true:=by simp only[List.length_cons,decide_eq_true_eq];omega
    have lE:(c::r)[0]? =some c:=rfl;have d3:decide (((c:Nat):Int)=((64:Nat):Int))=false:=df;generalize hx:c::r=x at*;generalize lK:x.length=xl at*;refine cx uL.1 ?_;refine af ae ?_;refine dG rfl ?_;refine qu (An @h6 (An @lK (An @d2 (An @lE @d3)))) ?_;refine dB ?_ ?_
    ·exact dh (An @h6 (An @lK (An @d2 (An @lE @d3))))
    ·refine af ae ?_;refine aO ae ?_;exact(⟨_,rfl,rfl⟩)
   ·have d2:decide ((((64::r).length:Nat):Int)>((0:Nat):Int))=true:=by simp only[List.length_cons,decide_eq_true_eq];omega
    have lE:(64::r)[0]? =some 64:=rfl;have d3:decide (((64:Nat):Int)=((64:Nat):Int))=true:=by decide
    have bn:=Dg (lf:=lf) (n:=n) (s:=r) hl om om aC;have bE:((64::r).drop 1).take ((64::r).length-1)=r:=by simp
    have rh:1<=(64::r).length:=by simp
    generalize hx:64::r=x at*;generalize lK:x.length=xl at*;refine cx uL.1 ?_;refine af ae ?_;refine dG rfl ?_;refine qu (An @h6 (An @lK (An @d2 (An @lE (An @d3 (An @h5 @bE)))))) ?_;refine dH (by exact aZ trivial) bn bW ?_;refine qu ae ?_;refine dB ?_ ?_
    ·exact dh (An @h6 (An @lK (An @d2 (An @lE (An @d3 (An @h5 @jO))))))
    ·refine af ae ?_;refine aO ae ?_;exact(⟨_,rfl,rfl⟩)
 obtain⟨w,H',h,bo,rfl,rfl⟩:=key;exact⟨bo,h⟩
theorem abZ {mv:SV} {ms:List (List Nat)} {b6 b3 b5:Nat} {lv:SV} {gl:List (List Nat)} {nb:Bool} {u:List Nat} (hv:br H mv 1 (bZ ms)) (p8:∀m∈ms,m.length<1000) (hms:ms.length<1000) (h6:aq (H.get b6) 0 1=some [.bool nb]) (h3:aq (H.get b3) 0 1=some [.str u]) (h5:aq (H.get b5) 0 1=some [lv]) (hl:br H lv 1 (bZ gl)) (qY:gl.length<1000) (hn:5<=n) (aC:600000<lf):
 ∃bo,aj ak lf n 31 [mv,.func 32 [] [.ptr b6 0,.ptr b3 0,.ptr b5 0]] H=some (.bool bo,H):=by
 obtain⟨n,rfl⟩:=aN (n:=n);obtain⟨n,rfl⟩:=aN (n:=n);have hlen:=hv.cA;rw[kt]at hlen;have h59:∃w H',aj ak lf (n+1) 59 [mv,.func 32 [] [.ptr b6 0,.ptr b3 0,.ptr b5 0]] H=some (w,H')/\∃r,w=.int .i64 r/\H'=H:=by
  refine cx Qw.1 ?_;refine af @hlen ?_;refine bH (I:=fun m ts D Q=>D=[]/\Q=H/\∃i:Nat,m=ms.length-i/\i<=ms.length/\∃z:Nat->SV,ts=((mv)::(.func 32 [] [.ptr b6 0,.ptr b3 0,.ptr b5 0])::zz z 2 5 ((.int .i64 (ms.length:Int))::(.int .i64 (i:Int))::zz z 9 10 []):T)/\(True)) ?_ ms.length ?_ om
  ·rintro m ts D Q ⟨rfl,rfl,i,rfl,hi,⟨z,rfl, -⟩⟩;by_cases bw:i<ms.length
   ·have d1:decide (((i:Nat):Int)<((ms.length:Nat):Int))=true:=dt;obtain⟨s,hs⟩:∃s,ms[i]? =some s:=⟨_,List.getElem?_eq_getElem bw⟩;obtain⟨b,o,j1,_,j2,_⟩:=hv.at_ (yn hs);obtain⟨bo,aH⟩:=abF (lf:=lf) (n:=n) (m:=s) h6 h3 h5 hl qY (p8 s (List.mem_of_getElem? hs)) om aC;refine af @d1 ?_;refine ar ae ?_;refine af (An @j1 @j2) ?_;refine QR (by exact aZ @trivial) (by exact aZ (An @List.nil_append.{0} @List.cons_append.{0})) aH (by simp only[List.set_cons_zero,List.set_cons_succ];with_reducible rfl) ?_
    refine af ae ?_;cases bo with
    |true=>
     refine ar ae ?_;refine af ae ?_;refine aO ae ?_;exact(⟨_,rfl,rfl⟩)
    |false=>
     refine ah ae ?_;refine af (c8 (k:=i) om) ?_;refine aT (ms.length-(i+1)) om ⟨rfl,rfl,i+1,rfl,by omega,aw⟩
   ·obtain rfl:i=ms.length:=om;have d1:decide (((ms.length:Nat):Int)<((ms.length:Nat):Int))=false:=by simp
    refine af @d1 ?_;refine ah ae ?_;refine af ae ?_;refine aO ae ?_;exact(⟨_,rfl,rfl⟩)
  ·exact⟨rfl,rfl,0,rfl,Nat.zero_le _,aw⟩
 obtain⟨w,H',hc,r,rfl,rfl⟩:=h59;have key:∃w Q,aj ak lf (n+1+1) 31 [mv,.func 32 [] [.ptr b6 0,.ptr b3 0,.ptr b5 0]] H'=some (w,Q)/\∃bo,w=.bool bo/\Q=H':=by
  refine cx P4.1 ?_;refine af ae ?_;refine ai ae hc ?_;refine af ae ?_;refine aO ae ?_;exact(⟨_,rfl,rfl⟩)
 obtain⟨w,Q,h,bo,rfl,rfl⟩:=key;exact⟨bo,h⟩
end
end
section
structure QL (own:Nat->Nat) (H:ag) (b5:Nat) (gl:List (List Nat)):Prop where
 fr:∀b,H.next<=b->own b=0
 op:own b5=4
 lt:b5<H.next
 ex:∃lv,H.get b5=some (.row [lv] 36 true false 0)/\MW own 1 9 H lv 1 (bZ gl)
theorem QL.ext {own:Nat->Nat} {H H':ag} {b5:Nat} {gl:List (List Nat)} (h:QL own H b5 gl) (hE:Ext H H'):QL own H' b5 gl:=by
 obtain⟨lv,h1,h2⟩:=h.ex;exact⟨fun b hb=>h.fr b (Nat.le_trans hE.1 hb),h.op,Nat.lt_of_lt_of_le h.lt hE.1,⟨lv,(hE.2 _ h.lt).trans h1,h2.ax hE.1 fun b hb hn=>⟨hb,hE.2 b hn⟩⟩⟩
theorem QL.add {own:Nat->Nat} {H:ag} {b5:Nat} {gl:List (List Nat)} (h:QL own H b5 gl) (nm:List Nat) (hl:gl.length<900):
 ∃lv v2 H1 H2 H3 au,aq (H.get b5) 0 1=some [lv]/\H.push (.row [.str nm] 9 true false 0)=H1/\aq (H1.get b5) 0 1=some [lv]/\fu H1 false 9 1 16 lv (.slice H.next 0 1 (some 1) 1)=some (v2,H2)/\v2.cells=[v2]/\c7 1 (.ptr b5 0) [v2] H2=some H3/\QL au H3 b5 (gl++[nm])/\bM own H au H3/\bD lv lv=true:=by
 obtain⟨lv,h1,h2⟩:=h.ex;obtain⟨v2,H2,H3,au,a1,a2,a3,a4,a5,a6,a7,a8,a9,Jl⟩:=Eg (j:=0) (bytes:=16) (x:=[.str nm]) h.fr h.op h.lt h1 (by simp) h2 (by decide) (by decide) rfl rfl (by rw[kt];omega) (by decide);refine⟨lv,v2,_,H2,H3,au,by rw[h1];rfl,rfl,by rw[cU h.lt,h1];rfl,a1,a2,a3,⟨a9,a8,Nat.lt_of_lt_of_le h.lt a6,⟨v2,a4,?_⟩⟩,⟨a6,fun b hb hn=>?_⟩,h2.rg.bq⟩
 ·have:bZ (gl++[nm])=bZ gl++[[.str nm]]:=by simp[bZ]
  rw[this];exact a5
 ·have:=a7 b hn om (fun e=>by rw[e,h.op]at hb;omega);exact⟨this.1.trans hb,this.2⟩
def kA (gl L:List (List Nat)):Nat:=(L.filter fun s=>!decide (s∈gl)).length
theorem Sc (gl:List (List Nat)) (nm:List Nat):∀L:List (List Nat),kA (gl++[nm]) L<=kA gl L
 |[]=>Nat.le_refl _
 |x::L=>by
  have ih:=Sc gl nm L;unfold kA at ih ⊢;simp only[List.filter_cons];by_cases h1:x∈gl
  ·have h4:x∈gl++[nm]:=by simp[h1]
   simp only[h1,h4,decide_true,Bool.not_true,Bool.false_eq_true,if_false];exact ih
  ·by_cases h2:x=nm
   ·have h4:x∈gl++[nm]:=by simp[h2]
    simp only[h1,h4,decide_true,decide_false,Bool.not_true,Bool.not_false,Bool.false_eq_true,if_true,if_false,List.length_cons];exact Nat.le_succ_of_le ih
   ·have h4:¬x∈gl++[nm]:=by simp[h1,h2]
    simp only[h1,h4,decide_false,Bool.not_false,if_true,List.length_cons];exact Nat.succ_le_succ ih
theorem Sd {gl:List (List Nat)} {nm:List Nat} (h0:nm∉gl):∀{L:List (List Nat)},nm∈L->kA (gl++[nm]) L<kA gl L
 |x::L,hm=>by
  have hle:=Sc gl nm L;by_cases hx:x=nm
  ·have h4:x∈gl++[nm]:=by simp[hx]
   have h5:¬x∈gl:=by rw[hx];exact h0
   unfold kA at hle ⊢;simp only[List.filter_cons,h4,h5,decide_true,decide_false,Bool.not_true,Bool.not_false,Bool.false_eq_true,if_true,if_false,List.length_cons];exact Nat.lt_succ_of_le hle
  ·have zC:nm∈L:=by
    rcases List.mem_cons.1 hm with h|h
    ·exact absurd h.symm hx
    ·exact h
   have ih:=Sd h0 zC;unfold kA at ih ⊢;simp only[List.filter_cons];by_cases h1:x∈gl
   ·have h4:x∈gl++[nm]:=by simp[h1]
    simp only[h1,h4,decide_true,Bool.not_true,Bool.false_eq_true,if_false];exact ih
   ·have h4:¬x∈gl++[nm]:=by simp[h1,hx]
    simp only[h1,h4,decide_false,Bool.not_false,if_true,List.length_cons];exact Nat.succ_lt_succ ih
theorem Sb (gl L:List (List Nat)):kA gl L<=L.length:=List.length_filter_le _ _
section
variable {lf n:Nat} {H:ag}
theorem al1 {u:List Nat} (hu:u∈AO) (hn:1<=n):∃nb,aj ak lf n 29 [.str u] H=some (.bool nb,H):=by
 simp only[AO,List.mem_cons,List.not_mem_nil,or_false]at hu;rcases hu with rfl|rfl|rfl|rfl
 ·exact⟨true,oB Dr rfl (fe Gq (by decide)) hn H⟩
 ·exact⟨true,oB Dr rfl (fe Gq (by decide)) hn H⟩
 ·exact⟨false,oB Dr rfl agn hn H⟩
 ·exact⟨true,oB Dr rfl (fe Gq (by decide)) hn H⟩
@[reducible] def Z0 (de:Nat->Nat) (H7:ag) (b2 b3 b5 b6:Nat) (N:List (List Nat)) (m:Nat) (ts:T) (D:DS) (Q:ag):Prop:=
  D=[]/\∃(au:Nat->Nat) (gl:List (List Nat)) (fl:Bool),m=kA gl N+(if fl then 1 else 0)/\QL au Q b5 gl/\bM de H7 au Q/\gl.length+kA gl N<=5/\gl≠[]/\∃z:Nat->SV,ts=(z 0::z 1::(.ptr b2 0)::(.ptr b3 0)::z 4::(.ptr b5 0)::(.ptr b6 0)::(.bool fl)::zz z 8 34 []:T)/\(True)
@[reducible] def ZZ (de:Nat->Nat) (H7:ag) (b2 b3 b5 b6:Nat) (N Tg:List (List Nat)) (gv:SV) (k:Nat) (m:Nat) (ts:T) (D:DS) (Q:ag):Prop:=
  D=[]/\∃(j:Nat) (au:Nat->Nat) (gl:List (List Nat)) (fl:Bool),m=k-j/\j<=k/\QL au Q b5 gl/\bM de H7 au Q/\gl.length+kA gl N<=5/\gl≠[]/\kA gl N<=kA Tg N/\(fl=true->kA gl N<kA Tg N)/\∃z:Nat->SV,ts=(z 0::z 1::(.ptr b2 0)::(.ptr b3 0)::z 4::(.ptr b5 0)::(.ptr b6 0)::(.bool fl)::zz z 8 11 ((gv)::(.int .i64 (k:Int))::(.int .i64 (j:Int))::zz z 22 20 []):T)/\(True)
theorem adk {k:Nat} {gv rv dv:SV} {G:List Gr} {R:List Rl} {E:List Gd} {u:List Nat} (hp:g' (br H) k gv rv dv G R E) (hu:u∈AO) (hn:7<=n) (aC:600000<lf):
 ∃v H' gl,aj ak lf n 8 [.agg [gv,rv,dv],.str u] H=some (v,H')/\Ext H H'/\br H' v 1 (bZ gl)/\gl.length<1000:=by
 obtain⟨n,rfl⟩:=aN (n:=n);have fo:=hp.n3;have TB:G.length=k:=by
  have:=congrArg List.length hp.pO;rw[List.length_map,List.length_take]at this;simp only[fY,List.length_cons,List.length_nil]at this;omega
 obtain⟨N,hN⟩:∃N,G.map (·.1)=N:=⟨_,rfl⟩;have hNl:N.length=k:=by rw[<-hN,List.length_map,TB]
 obtain⟨b2,eo⟩:∃b,H.next=b:=⟨_,rfl⟩;obtain⟨H1,ay⟩:∃H1,H.push (.row [gv,rv,dv] 29 true false 0)=H1:=⟨_,rfl⟩;obtain⟨H2,aY⟩:∃H2,H1.push (.row [.str u] 9 true false 0)=H2:=⟨_,rfl⟩;obtain⟨H3,ch⟩:∃H3,H2.push (.row [.str [97,108,108]] 9 true false 0)=H3:=⟨_,rfl⟩;have ca:H1.next=b2+1:=by rw[<-ay,<-eo];rfl
 have dc:H2.next=b2+2:=by rw[<-aY,dZ,ca]
 have Mi:H3.next=b2+3:=by rw[<-ch,dZ,dc]
 have bP:H1.get b2=some (.row [gv,rv,dv] 29 true false 0):=by rw[<-ay,<-eo];exact bd _
 have bB:H2.get (b2+1)=some (.row [.str u] 9 true false 0):=by rw[<-aY,<-ca];exact bd _
 have dA:H3.get (b2+2)=some (.row [.str [97,108,108]] 9 true false 0):=by rw[<-ch,<-dc];exact bd _
 have aB:Ext H H1:=by rw[<-ay];exact(Ext.refl H).push _
 have aF:Ext H1 H2:=by rw[<-aY];exact(Ext.refl H1).push _
 have aS:Ext H2 H3:=by rw[<-ch];exact(Ext.refl H2).push _
 obtain⟨H5,iH,bm,iG,dw⟩:=iw (H:=H3) (zs:=[.ao]) (ty:=36) (z:=1) rfl (cs:=[.slice (b2+2) 0 1 (some 1) 1]) rfl rfl;rw[Mi]at iH iG dw;have nP:=aF.trans aS;have Tm:=nP.trans bm;have g2:H5.get b2=some (.row [gv,rv,dv] 29 true false 0):=(Tm.2 _ om).trans bP;have g3:H5.get (b2+1)=some (.row [.str u] 9 true false 0):=((aS.trans bm).2 _ om).trans bB;have g4:H5.get (b2+2)=some (.row [.str [97,108,108]] 9 true false 0):=(bm.2 _ om).trans dA;obtain⟨de,pf⟩:∃de:Nat->Nat,∀b,de b=if b=b2+3 then 4 else if b=b2+2 then 1 else 0:=⟨_,fun _=>rfl⟩
 have o4:de (b2+3)=4:=by rw[pf,if_pos rfl]
 have o1:de (b2+2)=1:=by rw[pf,if_neg om,if_pos rfl]
 have oz:∀b,b<b2+2\/b2+4<=b->de b=0:=fun b hb=>by rw[pf,if_neg om,if_neg om]
 obtain⟨nb,aea⟩:=al1 (lf:=lf) (n:=n) (H:=H5) hu om;obtain⟨H7,sK,dV,FT,gU⟩:=iw (H:=H5) (zs:=[.bool false]) (ty:=4) (z:=1) rfl (cs:=[.bool nb]) rfl rfl;rw[iG]at sK FT gU;have BJ:QL de H7 (b2+3) [[97,108,108]]:=⟨fun b hb=>oz b om,o4,by omega,⟨_,(dV.2 _ om).trans dw,⟨sZ _,.inr ⟨b2+2,some 1,true,rfl,(fun q h=>by cases h;rfl),(fun h=>by cases h),o1,by omega,(dV.2 _ om).trans g4⟩⟩⟩⟩;have f2:=(dV.2 b2 om).trans g2;have f3:=(dV.2 (b2+1) om).trans g3;have E9:Ext H H7:=aB.trans (Tm.trans dV);have r3:aq (H5.get (b2+1)) 0 1=some [.str u]:=by rw[g3];rfl
 have r6:aq (H7.get (b2+4)) 0 1=some [.bool nb]:=by rw[gU];rfl
 have UC:=hp.gs.cA;rw[List.length_map,TB]at UC;have key:∃w H',aj ak lf (n+1) 8 [.agg [gv,rv,dv],.str u] H=some (w,H')/\∃gl,Ext H H'/\br H' w 1 (bZ gl)/\gl.length<1000:=by
  have cN:∀gl:List (List Nat),kA gl N<100:=fun gl=>by have:=Sb gl N;omega
  have step:∀(au:Nat->Nat) (Q:ag) (gl:List (List Nat)),QL au Q (b2+3) gl->bM de H7 au Q->Ext H Q/\aq (Q.get b2) 0 1=some [gv]/\aq (Q.get (b2+1)) 0 1=some [.str u]/\aq (Q.get (b2+4)) 0 1=some [.bool nb]:=fun au Q gl h1 h2=>by
   refine⟨⟨Nat.le_trans E9.1 h2.1,fun b hb=>(h2.2 b (oz b om) (by have:=E9.1;omega)).2.trans (E9.2 b hb)⟩,?_,?_,?_⟩
   ·rw[(h2.2 b2 (oz _ om) om).2,f2];rfl
   ·rw[(h2.2 (b2+1) (oz _ om) om).2,f3];rfl
   ·rw[(h2.2 (b2+4) (oz _ om) om).2,gU];rfl
  refine cx x8.1 ?_;refine af (An @eo (An @ay (An @ca (An @aY (An @dc (An @ch (An @Mi (An @iH @r3)))))))) ?_;refine ai ae aea ?_;refine af (An @iG (An @sK @r6)) ?_;refine nJ (fun ts Q=>∃(au:Nat->Nat) (gl:List (List Nat)),QL au Q (b2+3) gl/\bM de H7 au Q/\gl.length<=2/\gl≠[]/\∃z:Nat->SV,ts=(z 0::z 1::(.ptr b2 0)::(.ptr (b2+1) 0)::z 4::(.ptr (b2+3) 0)::(.ptr (b2+4) 0)::zz z 7 35 []:T)/\(True)) ?_ (fun aA Q hP=>?_)
  ·cases nb with
   |false=>
    refine ah ae ?_;refine af ae ?_;exact⟨rfl,rfl,de,_,BJ,bM.refl _ _,by simp,by simp,aw⟩
   |true=>
    obtain⟨lv,v2,Qa,Qb,Qc,C6,a1,a2,a3,a4,a5,a6,a7,a8,_⟩:=BJ.add [117,115,101,114,115] (by simp);refine ar ae ?_;refine af (An @a1 (An @a2 (An @a4 (An @a5 @a6)))) ?_;exact⟨rfl,rfl,C6,_,a7,a8,by simp,by simp,aw⟩
  ·obtain⟨C6,E3,su,ga,lF,aeT,⟨z,rfl, -⟩⟩:=hP;refine af ae ?_;refine bH (I:=Z0 de H7 b2 (b2+1) (b2+3) (b2+4) N) ?_ (kA E3 N+1) ⟨rfl,C6,E3,true,rfl,su,ga,by have:=Sb E3 N;omega,aeT,aw⟩ (by have:=cN E3;omega);rintro m ts D Q ⟨rfl,au,gl,fl,rfl,hQ,hP,bO,aP,⟨z,rfl, -⟩⟩;cases fl with
   |false=>
    obtain⟨s1,s2,s3,s4⟩:=step au Q gl hQ hP;obtain⟨lv,h1,h2⟩:=hQ.ex;rcases h2.2 with⟨h3,_⟩|⟨b,c,ex,hv,T9,_,mC,bU,tZ⟩
    ·cases gl with
     |nil=>exact absurd rfl aP
     |cons x gl=>cases h3
    ·rw[kt]at hv T9;rw[vU]at tZ;obtain⟨Q2,L',hc,w1,w2,w3,w4⟩:=aky (lf:=lf) (n:=n) (H:=Q) (v:=lv) (b:=b) (L:=gl) ⟨c,ex,hv,tZ⟩ om om om;have dz:b2+3≠b:=fun e=>by rw[<-e,hQ.op]at mC;omega
     have r5:aq (Q.get (b2+3)) 0 1=some [lv]:=by rw[h1];rfl
     have r5':aq (Q2.get (b2+3)) 0 1=some [lv]:=by rw[w4 _ dz];exact r5
     have hbH:H.next<=b:=by
      by_cases hh:H.next<=b
      ·exact hh
      ·have:=(hP.2 b (oz b om) (by have:=E9.1;omega)).1;omega
     have qP:Ext H Q2:=⟨by rw[w3];exact s1.1,fun q hq=>(w4 q om).trans (s1.2 q hq)⟩;have hRf:br Q2 lv 1 (bZ L'):=by
      obtain⟨c',l8,e1,e2⟩:=w1;refine⟨sZ _,.inr ⟨b,c',9,l8,false,0,by rw[kt];exact e1,fun q hq=>?_,by omega,by rw[vU];exact e2⟩⟩;rw[hv]at e1;obtain⟨_,_,_,e3,_⟩:=SV.slice.inj e1;rw[kt,w2];exact T9 q (e3.trans hq)
     refine af ae ?_;refine ah ae ?_;refine af @r5 ?_;refine ai ae hc ?_;refine af @r5' ?_;refine aO ae ?_;exact(⟨L',qP,hRf,by omega⟩)
   |true=>
    obtain⟨s1,s2,s3,s4⟩:=step au Q gl hQ hP;refine af ae ?_;refine ar ae ?_;refine af (An @s2 @UC) ?_;refine bH (I:=ZZ de H7 b2 (b2+1) (b2+3) (b2+4) N gl gv k) ?_ k ⟨rfl,0,au,gl,false,rfl,Nat.zero_le _,hQ,hP,bO,aP,Nat.le_refl _,(fun h=>by cases h),aw⟩ om;rintro m ts D P ⟨rfl,j,c5,tB,fl,rfl,hj,gH,bK,Fy,FV,FN,Cg,⟨z,rfl, -⟩⟩;obtain⟨t1,t2,t3,t4⟩:=step c5 P tB gH bK;by_cases zq:j<k
    ·have d1:decide (((j:Nat):Int)<((k:Nat):Int))=true:=dt;obtain⟨g,hg⟩:∃g,G[j]? =some g:=⟨_,List.getElem?_eq_getElem om⟩;have kE:=List.mem_of_getElem? hg;have sF:(G.map iQ)[j]? =some (iQ g):=by simp[hg]
     have fR:g.1∈N:=by rw[<-hN];exact List.mem_map_of_mem kE
     have nr:=hp.zd g kE;have p8:=hp.tD g kE;have jP:=hp.tE g kE;obtain⟨nm,mv,ms⟩:=g;obtain⟨b,o,j1,jb,j2,_⟩:=(hp.gs.ax t1).at_ sF;have zp:iQ (nm,mv,ms)=[.str nm,mv]:=rfl;rw[zp]at j2;have bV:SV.one mv=true:=nr.one;obtain⟨P1,ey,jc,UJ,pX⟩:=iw (H:=P) (zs:=[.str [],.ao]) (ty:=51) (z:=2) rfl (cs:=[.str nm,mv]) rfl (by simp only[List.all_cons,bV,List.all_nil];rfl);have nz:aq ((P.push (.row [.str [],.ao] 51 true false 0)).get b) o 2=some [.str nm,mv]:=by rw[cU jb];exact j2
     have Fm:=gH.ext jc;obtain⟨lv,h1,h2⟩:=Fm.ex;have UE:=h2.aQ.aQ;have r5:aq (P1.get (b2+3)) 0 1=some [lv]:=by rw[h1];rfl
     have n0:aq (P1.get P.next) 0 1=some [.str nm]:=by rw[pX];rfl
     have n1:aq (P1.get P.next) 1 1=some [mv]:=by rw[pX];rfl
     have hPn:b2+5<=P.next:=by have:=bK.1;omega
     have bn:=Dg (lf:=lf) (n:=n) (H:=P1) (s:=nm) UE om om aC;by_cases vl:nm∈tB
     ·rw[decide_eq_true vl]at bn;refine af @d1 ?_;refine ar ae ?_;refine af (An @j1 (An @j2 (An @nz (An @ey (An @r5 @n0))))) ?_;refine ai ae bn ?_;refine af ae ?_;refine ar ae ?_;refine af (c8 (k:=j) om) ?_;refine aT (k-(j+1)) om ⟨rfl,j+1,c5,tB,fl,rfl,by omega,Fm,bK.trans (jc.bY c5),Fy,FV,FN,Cg,aw⟩
     ·rw[decide_eq_false vl]at bn;obtain⟨bo,jZ⟩:=abZ (lf:=lf) (n:=n) (H:=P1) (mv:=mv) (ms:=ms) (b6:=b2+4) (b3:=b2+1) (b5:=b2+3) (nb:=nb) (u:=u) (nr.ax (t1.trans jc)) (fun m hm=>by have:=(NM k (mH fo) m (jP m hm)).1;omega) (by have p8:ms.length<=3:=p8;omega) (by rw[jc.2 _ om];exact t4) (by rw[jc.2 _ om];exact t3) r5 UE om om aC;cases bo with
      |false=>
       refine af @d1 ?_;refine ar ae ?_;refine af (An @j1 (An @j2 (An @nz (An @ey (An @r5 @n0))))) ?_;refine ai ae bn ?_;refine af ae ?_;refine ah ae ?_;refine af @n1 ?_;refine ai ae jZ ?_;refine af ae ?_;refine ah ae ?_;refine af (c8 (k:=j) om) ?_;refine aT (k-(j+1)) om ⟨rfl,j+1,c5,tB,fl,rfl,by omega,Fm,bK.trans (jc.bY c5),Fy,FV,FN,Cg,aw⟩
      |true=>
       obtain⟨pn,v2,Pa,Pb,Pc,eC,a1,a2,a3,a4,a5,a6,a7,a8,_⟩:=Fm.add nm om;have anY:=Sd vl fR;refine af @d1 ?_;refine ar ae ?_;refine af (An @j1 (An @j2 (An @nz (An @ey (An @r5 @n0))))) ?_;refine ai ae bn ?_;refine af ae ?_;refine ah ae ?_;refine af @n1 ?_;refine ai ae jZ ?_;refine af ae ?_;refine ar ae ?_;refine af (An @a1 (An @n0 (An @a2 (An @a4 (An @a5 @a6))))) ?_;refine af (c8 (k:=j) om) ?_;refine aT (k-(j+1)) om ⟨rfl,j+1,eC,tB++[nm],true,rfl,by omega,a7,bK.trans ((jc.bY c5).trans a8),by rw[List.length_append,List.length_singleton];omega,by simp,by omega,fun _=>by omega,aw⟩
    ·obtain rfl:j=k:=om;have d1:decide (((j:Nat):Int)<((j:Nat):Int))=false:=by simp
     refine af @d1 ?_;refine ah ae ?_;refine af ae ?_;cases fl with
     |true=>
      have:=Cg rfl;refine aT (kA tB N+1) (by simp only[if_true];omega) ⟨rfl,c5,tB,true,rfl,gH,bK,Fy,FV,aw⟩
     |false=>
      refine aT (kA tB N) (by simp only[if_true];omega) ⟨rfl,c5,tB,false,rfl,gH,bK,Fy,FV,aw⟩
 obtain⟨w,H',h,gl,h1,h2,h3⟩:=key;exact⟨w,H',gl,h,h1,h2,h3⟩
end
end
end Go.Sh
