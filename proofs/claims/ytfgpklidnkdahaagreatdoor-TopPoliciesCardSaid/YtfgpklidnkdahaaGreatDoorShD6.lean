/-
  The program finds every drawn policy valid. No conditions beyond those that stand in the theorems.
-/
import Derived.Test.YtfgpklidnkdahaaGreatDoorShD4
import Derived.Test.YtfgpklidnkdahaaGreatDoorShD3
set_option linter.all false
set_option maxHeartbeats 20000000
set_option maxRecDepth 10000
namespace Go.Sh
section
def wj (H:ag) (v:SV) (z:Nat) (L:List (List SV)):Prop:=
 kn v=some (.int .i64 (L.length:Int))/\∀(i:Nat) (x:List SV),L[i]? =some x->∃b o,kN z v (.int .i64 (i:Int))=some (.ptr b o)/\b<H.next/\aq (H.get b) o z=some x
theorem br.w {H:ag} {v:SV} {z:Nat} {L:List (List SV)} (h:br H v z L):wj H v z L:=
 ⟨h.cA,fun i x hx=>by
  obtain⟨b,o,h1,h2,h3,_⟩:=h.at_ hx;exact⟨b,o,h1,h2,h3⟩⟩
theorem wj.ax {H H':ag} {v:SV} {z:Nat} {L:List (List SV)} (h:wj H v z L) (hE:Ext H H'):wj H' v z L:=
 ⟨h.1,fun i x hx=>by
  obtain⟨b,o,h1,h2,h3⟩:=h.2 i x hx;exact⟨b,o,h1,Nat.lt_of_lt_of_le h2 hE.1,by rw[hE.2 b h2];exact h3⟩⟩
theorem br.hiw {H:ag} {v:SV} {z:Nat} {L:List (List SV)} (h:br H v z L) {k:Nat} (hk:k<=L.length):∃w,kq z none (some (.int .i64 (k:Int))) v=some w/\wj H w z (L.take k):=by
 have hlen:(L.take k).length=k:=by rw[List.length_take];omega
 rcases h.2 with⟨rfl,rfl⟩|⟨b,c,e,ex,ro,frz,rfl,hc,h2,h3⟩
 ·have:k=0:=by simpa using hk
  subst this;exact⟨.ao,rfl,rfl,fun i x hx=>by simp at hx⟩
 ·have nW:ln c L.length=L.length:=by
   cases c with
   |none=>rfl
   |some q=>exact hc q rfl
  refine⟨_,Dj om (by rw[nW];omega),?_⟩;have sJ:∃c',iX b 0 z 0 ((k:Int)).toNat c=.slice b 0 k c' z:=by
   unfold iX;cases c with
   |none=>exact⟨none,by simp⟩
   |some q=>
    cases hq:Nat.beq q 0 with
    |true=>exact⟨some 0,by simp[hq]⟩
    |false=>exact⟨some (q-0),by simp[hq]⟩
  obtain⟨c',hr⟩:=sJ;rw[hr];refine⟨by rw[hlen];rfl,fun i x hx=>?_⟩;have hi:i<k:=by have:=(List.getElem?_eq_some_iff.1 hx).1;omega
  have eX:L[i]? =some x:=by rw[List.getElem?_take]at hx;simpa[hi]using hx
  refine⟨b,0+((i:Int).toNat)*z,qh om om,h2,?_⟩;rw[h3,Nat.zero_add,show((i:Int)).toNat=i from rfl];exact Oq h.1 eX
section
variable {lf n:Nat} {H:ag}
theorem acG {b:Nat} {nm g:List Nat} {mv:SV} (hb:aq (H.get b) 0 1=some [.str nm]) (bU:b<H.next) (hn:1<=n):∃H',aj ak lf n 154 [.agg [.str g,mv],.ptr b 0] H=some (.bool (decide (g=nm)),H')/\Ext H H':=by
 obtain⟨n,rfl⟩:=aN (n:=n);have key:∃w H',aj ak lf (n+1) 154 [.agg [.str g,mv],.ptr b 0] H=some (w,H')/\w=.bool (decide (g=nm))/\Ext H H':=by
  obtain⟨H1,ay⟩:∃H1,H.push (.row [.str g,mv] 51 true false 0)=H1:=⟨_,rfl⟩;have aB:Ext H H1:=by rw[<-ay];exact(Ext.refl H).push _
  have jQ:H1.get H.next=some (.row [.str g,mv] 51 true false 0):=by rw[<-ay];exact bd _
  have dn:aq (H1.get b) 0 1=some [.str nm]:=by rw[aB.2 b bU];exact hb
  refine cx Pz.1 ?_;refine af (An @ay (An @jQ @dn)) ?_;refine aO ae ?_;exact(⟨rfl,aB⟩)
 obtain⟨w,H',h,rfl,hE⟩:=key;exact⟨H',h,hE⟩
theorem ach {b:Nat} {nm g:List Nat} {mv:SV} (hb:aq (H.get b) 0 1=some [.str nm]) (bU:b<H.next) (hn:1<=n):∃H',aj ak lf n 83 [.agg [.str g,mv],.ptr b 0] H=some (.bool (decide (g=nm)),H')/\Ext H H':=by
 obtain⟨n,rfl⟩:=aN (n:=n);have key:∃w H',aj ak lf (n+1) 83 [.agg [.str g,mv],.ptr b 0] H=some (w,H')/\w=.bool (decide (g=nm))/\Ext H H':=by
  obtain⟨H1,ay⟩:∃H1,H.push (.row [.str g,mv] 51 true false 0)=H1:=⟨_,rfl⟩;have aB:Ext H H1:=by rw[<-ay];exact(Ext.refl H).push _
  have jQ:H1.get H.next=some (.row [.str g,mv] 51 true false 0):=by rw[<-ay];exact bd _
  have dn:aq (H1.get b) 0 1=some [.str nm]:=by rw[aB.2 b bU];exact hb
  refine cx Qz.1 ?_;refine af (An @ay (An @jQ @dn)) ?_;refine aO ae ?_;exact(⟨rfl,aB⟩)
 obtain⟨w,H',h,rfl,hE⟩:=key;exact⟨H',h,hE⟩
@[reducible] def ZN (H0:ag) (f b:Nat) (v:SV) (G:List Gr) (nm:List Nat) (m:Nat) (ts:T) (D:DS) (H':ag):Prop:=
  D=[]/\Ext H0 H'/\∃k:Nat,m=G.length-k/\k<=G.length/\(∀i g,i<k->G[i]? =some g->g.1≠nm)/\∃z:Nat->SV,ts=((v)::(.func f [] [.ptr b 0])::zz z 2 4 ((v)::(.int .i64 (G.length:Int))::(.int .i64 (k:Int))::zz z 9 10 []):T)/\(True)
theorem afN {f b:Nat} {nm:List Nat} {v:SV} {G:List Gr} (hf:f=154\/f=83) (hv:wj H v 2 (G.map iQ)) (hl:G.length<1000) (hb:aq (H.get b) 0 1=some [.str nm]) (bU:b<H.next) (hn:2<=n) (aC:1000<lf):
 ∃r H',aj ak lf n 152 [v,.func f [] [.ptr b 0]] H=some (.int .i64 r,H')/\Ext H H'/\(0<=r↔∃g∈G,g.1=nm):=by
 obtain⟨n,rfl⟩:=aN (n:=n);have key:∃w H',aj ak lf (n+1) 152 [v,.func f [] [.ptr b 0]] H=some (w,H')/\∃r,w=.int .i64 r/\Ext H H'/\(0<=r↔∃g∈G,g.1=nm):=by
  have hlen:=hv.1;rw[List.length_map]at hlen;refine cx Py.1 ?_;refine af @hlen ?_;refine bH (I:=ZN H f b v G nm) ?_ G.length ?_ om
  ·rintro m ts D H1 ⟨rfl,hE,k,rfl,hk,lH,⟨z,rfl, -⟩⟩;refine af ae ?_;refine cst ae (fun hc=>?_) (fun hc=>?_)<;>try simp only[decide_eq_true_eq,decide_eq_false_iff_not,not_true_eq_false,not_false_eq_true,Int.not_lt,Int.not_le,ge_iff_le,gt_iff_lt]at hc
   ·have Ut:k<G.length:=om;have hx:(G.map iQ)[k]? =some (iQ G[k]):=by simp[Ut]
    have xv:G[k]? =some G[k]:=List.getElem?_eq_getElem Ut;obtain⟨bb,o,hi,dz,bj⟩:=(hv.ax hE).2 _ _ hx;generalize G[k]=g at bj xv;have bj:aq (H1.get bb) o 2=some [.str g.1,g.2.1]:=bj;have dn:aq (H1.get b) 0 1=some [.str nm]:=by rw[hE.2 b bU];exact hb
    obtain⟨H2,aH,aF⟩:∃H2,aj ak lf n f [.agg [.str g.1,g.2.1],.ptr b 0] H1=some (.bool (decide (g.1=nm)),H2)/\Ext H1 H2:=by
     rcases hf with rfl|rfl
     ·exact acG dn (Nat.lt_of_lt_of_le bU hE.1) om
     ·exact ach dn (Nat.lt_of_lt_of_le bU hE.1) om
    refine af (An @hi @bj) ?_;refine QR (by exact aZ @trivial) (by exact aZ (An @List.nil_append.{0} @List.cons_append.{0})) aH (by simp only[List.set_cons_zero,List.set_cons_succ];with_reducible rfl) ?_
    refine af ae ?_;by_cases h1:g.1=nm
    ·have d1:decide (g.1=nm)=true:=decide_eq_true h1;refine ar @d1 ?_;refine af ae ?_;refine aO ae ?_;exact(⟨_,rfl,hE.trans aF,⟨fun _=>⟨g,List.mem_of_getElem? xv,h1⟩,fun _=>by omega⟩⟩)
    ·have d1:decide (g.1=nm)=false:=decide_eq_false h1;refine ah @d1 ?_;refine af (c8 (k:=k) om) ?_;refine aT (G.length-(k+1)) om ⟨rfl,hE.trans aF,k+1,rfl,by omega,fun i y cu hy=>?_,aw⟩;rcases Nat.lt_succ_iff_lt_or_eq.1 cu with h|rfl
     ·exact lH i y h hy
     ·rw[xv]at hy;cases hy;exact h1
   ·refine af ae ?_;refine aO ae ?_;refine(⟨.negSucc 0,rfl,hE,⟨fun h=>absurd h (by decide),fun⟨g,hg,o8⟩=>?_⟩⟩);obtain⟨i,hi,rfl⟩:=List.mem_iff_getElem.1 hg;exact absurd o8 (lH i _ om (List.getElem?_eq_getElem hi))
  ·exact⟨rfl,Ext.refl _,0,by omega,by omega,(fun i g hi=>absurd hi (Nat.not_lt_zero _)),aw⟩
 obtain⟨w,H',h,r,rfl,hE,hr⟩:=key;exact⟨r,H',h,hE,hr⟩
theorem Sm {f b:Nat} {nm:List Nat} {v:SV} {G:List Gr} (hf:f=154\/f=83) (hv:wj H v 2 (G.map iQ)) (hl:G.length<1000) (hb:aq (H.get b) 0 1=some [.str nm]) (bU:b<H.next) (hn:3<=n) (aC:1000<lf):
 ∃r H',aj ak lf n 82 [v,.func f [] [.ptr b 0]] H=some (.bool r,H')/\Ext H H'/\(r=true↔∃g∈G,g.1=nm):=by
 obtain⟨n,rfl⟩:=aN (n:=n);have key:∃w H',aj ak lf (n+1) 82 [v,.func f [] [.ptr b 0]] H=some (w,H')/\∃r,w=.bool r/\Ext H H'/\(r=true↔∃g∈G,g.1=nm):=by
  obtain⟨r,H1,aV,aB,hr⟩:=afN (lf:=lf) (n:=n) hf hv hl hb bU om aC;refine cx Qy.1 ?_;refine af ae ?_;refine ai ae aV ?_;refine af ae ?_;refine aO ae ?_;exact(⟨_,rfl,aB,by rw[decide_eq_true_eq];exact hr⟩)
 obtain⟨w,H',h,r,rfl,hE,hr⟩:=key;exact⟨r,H',h,hE,hr⟩
theorem RI {nm:List Nat} (h:nm∈zY) (hn:1<=n):aj ak lf n 81 [.str nm] H=some (.bool (decide (nm=sW\/nm=rO)),H):=
 oB alc rfl (fe af3 h) hn H
theorem agZ:∀n∈[0,1,2,3],∀s∈lN n,s∈zY:=by decide+kernel
theorem mH {k:Nat} (h:k<=3):k∈[0,1,2,3]:=by
 have:k=0\/k=1\/k=2\/k=3:=om;simpa using this
theorem KB {k:Nat} {gv rv dv:SV} {G:List Gr} {R:List Rl} {E:List Gd} {nm:List Nat} (hp:g' (br H) k gv rv dv G R E) (fR:nm∈lN k) (hn:4<=n) (aC:1000<lf):
 ∃H',aj ak lf n 85 [.agg [gv,rv,dv],.str nm] H=some (.bool true,H')/\Ext H H':=by
 obtain⟨n,rfl⟩:=aN (n:=n);have key:∃w H',aj ak lf (n+1) 85 [.agg [gv,rv,dv],.str nm] H=some (w,H')/\w=.bool true/\Ext H H':=by
  obtain⟨H1,ay⟩:∃H1,H.push (.row [gv,rv,dv] 29 true false 0)=H1:=⟨_,rfl⟩;obtain⟨H2,aY⟩:∃H2,H1.push (.row [.str nm] 9 true false 0)=H2:=⟨_,rfl⟩;have ca:H1.next=H.next+1:=by rw[<-ay];rfl
  have dc:H2.next=H1.next+1:=by rw[<-aY];rfl
  have aF:Ext H H2:=by rw[<-aY,<-ay];exact((Ext.refl H).push _).push _
  have jQ:H2.get H.next=some (.row [gv,rv,dv] 29 true false 0):=by rw[<-aY,cU om,<-ay];exact bd _
  have ij:H2.get (H.next+1)=some (.row [.str nm] 9 true false 0):=by rw[<-ca,<-aY];exact bd _
  have kc:=agZ k (mH hp.n3) nm fR;have hb:=RI (lf:=lf) (n:=n) (H:=H2) kc om;have qY:=hp.Bu.len;refine cx QA.1 ?_;refine af (An @ay (An @ca (An @aY @ij))) ?_;refine ai ae hb ?_;cases hd:decide (nm=sW\/nm=rO)with
  |true=>
   refine af @hd ?_;refine aO ae ?_;exact(⟨rfl,aF⟩)
  |false=>
   have T':=of_decide_eq_false hd;obtain⟨r,H3,bf,aS,hr⟩:=Sm (lf:=lf) (n:=n) (nm:=nm) (.inl rfl) (hp.gs.ax aF).w om (show aq (H2.get (H.next+1)) 0 1=some [.str nm]by rw[ij];rfl) om om aC;have Vb:r=true:=hr.2 (by
    have:nm∈fY.take k:=by
     simp only[lN,List.mem_cons]at fR;rcases fR with h|h|h
     ·exact absurd (.inl h) T'
     ·exact absurd (.inr h) T'
     ·exact h
    rw[<-hp.pO]at this;obtain⟨g,hg,e⟩:=List.mem_map.1 this;exact⟨g,hg,e⟩)
   subst Vb;refine af (An @hd @jQ) ?_;refine ai ae bf ?_;refine af ae ?_;refine aO ae ?_;exact(⟨rfl,aF.trans aS⟩)
 obtain⟨w,H',h,rfl,hE⟩:=key;exact⟨H',h,hE⟩
end
end
section
attribute [go_sem] Bool.not_true Bool.not_false
section
variable {lf n:Nat} {H:ag}
theorem O' {t:Tt} (h:t∈gn) (hn:1<=n):aj ak lf n 35 [tC t] H=some (.bool true,H):=oB ak4 rfl (fe agz h) hn H
theorem aaF {s:List Nat} (h:s∈pz) (hn:1<=n):aj ak lf n 86 [.str s,.str [10,124]] H=some (.bool false,H):=oB ale rfl (fe af2 h) hn H
theorem XV:∀s∈pz,(b9 isSp s).dropWhile isSp=s/\(∀x∈s,x<256)/\s.length<=3:=by decide+kernel
theorem alQ {s:List Nat} (h:s∈pz) (hn:3<=n) (aC:1000<lf):∃H',aj ak lf n 87 [.str s,.str [32,9]] H=some (.str s,H')/\Ext H H':=by
 obtain⟨h1,h2,h3⟩:=XV s h;have:=yu (lf:=lf) (n:=n) (H:=H) (s:=s) h2 om hn om om;rw[h1]at this;exact this
theorem aki:∀s∈pz,s.length<=3:=by decide+kernel
theorem ads {k:Nat} {gv rv dv:SV} {G:List Gr} {R:List Rl} {E:List Gd} {x:Gd} (hp:g' (br H) k gv rv dv G R E) (hx:qy k x) (hn:5<=n) (aC:1000<lf):
 ∃H',aj ak lf n 49 [.agg [gv,rv,dv],.agg (iA x)] H=some (.int .i64 ((0:Nat):Int),H')/\Ext H H':=by
 obtain⟨n,rfl⟩:=aN (n:=n);have key:∃w H',aj ak lf (n+1) 49 [.agg [gv,rv,dv],.agg (iA x)] H=some (w,H')/\w=.int .i64 ((0:Nat):Int)/\Ext H H':=by
  obtain⟨hg,ht,hs⟩:=hx;obtain⟨st,g,⟨t1,t2⟩,s⟩:=x;have hg:g∈lN k:=hg;have ht:(t1,t2)∈gn:=ht;have hs:s∈pz:=hs;obtain⟨H1,ay⟩:∃H1,H.push (.row [gv,rv,dv] 29 true false 0)=H1:=⟨_,rfl⟩;obtain⟨H2,aY⟩:∃H2,H1.push (.row [.bool st,.str g,.int .i64 (t1:Int),.str t2,.str s] 58 true false 0)=H2:=⟨_,rfl⟩;have ca:H1.next=H.next+1:=by rw[<-ay];rfl
  have dc:H2.next=H1.next+1:=by rw[<-aY];rfl
  have aF:Ext H H2:=by rw[<-aY,<-ay];exact((Ext.refl H).push _).push _
  have jQ:H2.get H.next=some (.row [gv,rv,dv] 29 true false 0):=by rw[<-aY,cU om,<-ay];exact bd _
  have ij:H2.get (H.next+1)=some (.row [.bool st,.str g,.int .i64 (t1:Int),.str t2,.str s] 58 true false 0):=by rw[<-ca,<-aY];exact bd _
  obtain⟨H3,bf,aS⟩:=KB (lf:=lf) (n:=n) (hp.imp fun v z L h=>h.ax aF) hg om aC;have ik:=(aS.2 _ om).trans ij;have mz:iA ⟨st,g,(t1,t2),s⟩=[.bool st,.str g,.int .i64 (t1:Int),.str t2,.str s]:=rfl;have hv:aj ak lf n 35 [.agg [.int .i64 (t1:Int),.str t2]] H3=some (.bool true,H3):=O' (t:=(t1,t2)) ht om;have ha:=aaF (lf:=lf) (n:=n) (H:=H3) hs om;obtain⟨H4,htr,bz⟩:=alQ (lf:=lf) (n:=n) (H:=H3) hs om aC;have uf:=(bz.2 _ (by have:=aS.1;omega)).trans ik;have bE:=aki s hs;have tb:bD (.agg [.int .i64 (t1:Int),.str t2]) (.agg [.int .i64 (t1:Int),.str t2])=true:=abe (t1,t2);rw[mz];refine cx Qs.1 ?_;refine af (An @ay (An @ca (An @aY (An @jQ @ij)))) ?_;refine ai ae bf ?_;refine af ae ?_;refine ah ae ?_;refine s8 (ly (mN ?_));refine mN ?_;refine dG rfl ?_;refine af @ik ?_;refine dH (by exact aZ trivial) hv bW ?_;have d1:decide ((s.length:Int)>((100:Nat):Int))=false:=by rw[decide_eq_false_iff_not];omega
  have d2:decide (s≠s)=false:=by simp
  refine af (An @ik @d1) ?_;refine dH (by exact aZ trivial) ha bW ?_;refine af @ik ?_;refine dH (by exact aZ trivial) htr bW ?_;refine af (An @uf @d2) ?_;refine dB ?_ ?_
  ·exact dh (An @ik (An @uf (An @d1 (An @d2 @tb))))
  ·refine af ae ?_;refine ah ae ?_;refine af ae ?_;refine aO ae ?_;exact(⟨rfl,(aF.trans aS).trans bz⟩)
 obtain⟨w,H',h,rfl,hE⟩:=key;exact⟨H',h,hE⟩
theorem ajX {k:Nat} {gv rv dv:SV} {G:List Gr} {R:List Rl} {E:List Gd} {x:Rl} (hp:g' (br H) k gv rv dv G R E) (hx:pE k x) (hn:5<=n) (aC:1000<lf):
 ∃H',aj ak lf n 48 [.agg [gv,rv,dv],.agg (gD x)] H=some (.int .i64 ((0:Nat):Int),H')/\Ext H H':=by
 obtain⟨n,rfl⟩:=aN (n:=n);have key:∃w H',aj ak lf (n+1) 48 [.agg [gv,rv,dv],.agg (gD x)] H=some (w,H')/\w=.int .i64 ((0:Nat):Int)/\Ext H H':=by
  obtain⟨h1,h5,hg,pg⟩:=hx;obtain⟨al,r,g,sk,⟨t1,t2⟩⟩:=x;have h1:1<=r:=h1;have h5:r<=5:=h5;have hg:g∈lN k:=hg;have pg:(sk=1/\(t1,t2)=((0,[]):Tt))\/(sk=2/\t1<6/\t2=[])\/(sk=3/\(t1,t2)∈gn):=pg;obtain⟨H1,ay⟩:∃H1,H.push (.row [gv,rv,dv] 29 true false 0)=H1:=⟨_,rfl⟩;obtain⟨H2,aY⟩:∃H2,H1.push (.row [.bool al,.int .i64 (r:Int),.str g,.int .i64 (sk:Int),.int .i64 (t1:Int),.str t2] 55 true false 0)=H2:=⟨_,rfl⟩;have ca:H1.next=H.next+1:=by rw[<-ay];rfl
  have dc:H2.next=H1.next+1:=by rw[<-aY];rfl
  have aF:Ext H H2:=by rw[<-aY,<-ay];exact((Ext.refl H).push _).push _
  have jQ:H2.get H.next=some (.row [gv,rv,dv] 29 true false 0):=by rw[<-aY,cU om,<-ay];exact bd _
  have ij:H2.get (H.next+1)=some (.row [.bool al,.int .i64 (r:Int),.str g,.int .i64 (sk:Int),.int .i64 (t1:Int),.str t2] 55 true false 0):=by rw[<-ca,<-aY];exact bd _
  obtain⟨H3,bf,aS⟩:=KB (lf:=lf) (n:=n) (hp.imp fun v z L h=>h.ax aF) hg om aC;have ik:=(aS.2 _ om).trans ij;have mz:gD ⟨al,r,g,sk,(t1,t2)⟩=[.bool al,.int .i64 (r:Int),.str g,.int .i64 (sk:Int),.int .i64 (t1:Int),.str t2]:=rfl;obtain⟨H4,kZ⟩:∃H4,(H3.push (.row [.int .i64 ((0:Nat):Int),.str []] 40 true false 0)).put H3.next (.row [.int .i64 (t1:Int),.str t2] 40 true false 0)=H4:=⟨_,rfl⟩;have bz:Ext H3 H4:=by rw[<-kZ];exact((Ext.refl H3).push _).put (Nat.le_refl _) _
  have fS:H4.get H3.next=some (.row [.int .i64 (t1:Int),.str t2] 40 true false 0):=by rw[<-kZ];exact bT _ _
  have uf:=(bz.2 _ (by have:=aS.1;omega)).trans ik;have d1:decide ((r:Int)<((1:Nat):Int))=false:=by rw[decide_eq_false_iff_not];omega
  have d2:decide ((r:Int)>((5:Nat):Int))=false:=by rw[decide_eq_false_iff_not];omega
  rw[mz];refine cx Qr.1 ?_;refine af (An @ay (An @ca (An @aY (An @ij (An @d1 @d2))))) ?_;refine ah ae ?_;refine af (An @ay (An @ca (An @aY (An @jQ @ij)))) ?_;refine ai ae bf ?_;refine af ae ?_;refine ah ae ?_;refine af (An @ik (An @kZ @uf)) ?_;have Vb:aq (some (.row [.int .i64 (t1:Int),.str t2] 40 true false 0)) 0 2=some [.int .i64 (t1:Int),.str t2]:=rfl;refine nJ (fun ts H5=>H5=H4/\∃z:Nat->SV,ts=(zz z 0 4 ((.int .i64 ((0:Nat):Int))::z 5::(.bool true)::zz z 7 45 []):T)/\(True)) ?_ ?_
  ·rcases pg with⟨rfl,e⟩|⟨rfl,h6,rfl⟩|⟨rfl,ht⟩
   ·cases e;have heq:=EL (0,[]) (0,[]);rw[decide_eq_true rfl]at heq;have heq:hY true [(0,1),(1,2)] (.agg [.int .i64 ((0:Nat):Int),.str []]) (.agg [.int .i64 ((0:Nat):Int),.str []])=some true:=heq;refine ar ae ?_;refine af (An @fS @heq) ?_;exact⟨rfl,rfl,rfl,aw⟩
   ·have c1:decide (((2:Nat):Int)=((1:Nat):Int))=false:=by decide
    have c3:decide ((t1:Int)>=((0:Nat):Int))=true:=by rw[decide_eq_true_eq];omega
    have c4:decide ((t1:Int)<((6:Nat):Int))=true:=by rw[decide_eq_true_eq];omega
    refine ah @c1 ?_;refine af ae ?_;refine ar ae ?_;refine af (An @fS (An @c3 @c4)) ?_;exact⟨rfl,rfl,rfl,aw⟩
   ·have c1:decide (((3:Nat):Int)=((1:Nat):Int))=false:=by decide
    have c2:decide (((3:Nat):Int)=((2:Nat):Int))=false:=by decide
    have hv:aj ak lf n 35 [.agg [.int .i64 (t1:Int),.str t2]] H4=some (.bool true,H4):=O' (t:=(t1,t2)) ht om;refine ah @c1 ?_;refine af ae ?_;refine ah @c2 ?_;refine af ae ?_;refine ar ae ?_;refine af @fS ?_;refine ai ae hv ?_;refine af ae ?_;exact⟨rfl,rfl,rfl,aw⟩
  ·rintro aA H5 ⟨rfl,⟨z,rfl, -⟩⟩;refine af ae ?_;refine ah ae ?_;refine af ae ?_;refine aO ae ?_;exact(⟨rfl,aF.trans (aS.trans bz)⟩)
 obtain⟨w,H',h,rfl,hE⟩:=key;exact⟨H',h,hE⟩
end
end
section
def zU:List (List Nat):=zY++[[97,110,110],[98,111,98],[122,111,101]]
def WJ (n:Nat) (m:List Nat):Bool:=match m with
 |64::r=>(lN n).contains r&&zU.contains r
 |s=>zU.contains s
theorem agT:∀n∈[0,1,2,3],∀m∈rI n,WJ n m=true:=by decide+kernel
theorem agU {n:Nat} (hn:n<=3) {m:List Nat} (hm:m∈rI n):(∃r,Bi m=.aJ [.str r,.bool true]/\r∈lN n/\r∈zU)\/(Bi m=.aJ [.str m,.bool false]/\m∈zU):=by
 have h:=agT n (mH hn) m hm;unfold WJ at h;split at h
 ·rename_i r;rw[Bool.and_eq_true,List.contains_iff_mem,List.contains_iff_mem]at h;exact .inl ⟨r,rfl,h.1,h.2⟩
 ·rename_i hx;rw[List.contains_iff_mem]at h;refine .inr ⟨?_,h⟩;unfold Bi;split
  ·rename_i r;exact absurd rfl (hx r)
  ·rfl
section
variable {lf n:Nat} {H:ag}
theorem NT {s:List Nat} (h:s∈zU) (hn:1<=n):aj ak lf n 29 [.str s] H=some (.bool true,H):=oB Dr rfl (fe Gq h) hn H
theorem ab5 {s:List Nat} (h:s∈dC) (hn:1<=n):aj ak lf n 84 [.str s,.str [64]] H=some (Bi s,H):=oB ald rfl (fe af4 h) hn H
theorem adm:∀s∈fY,s∈zU:=by decide+kernel
theorem adp:∀s∈fY,decide (s=sW\/s=rO)=false:=by decide+kernel
theorem ado:∀n∈[0,1,2,3],(fY.take n).Nodup:=by decide+kernel
@[reducible] def ZC (H0:ag) (p2:Nat) (mv:SV) (ms:List (List Nat)) (gv rv dv:SV) (m:Nat) (ts:T) (D:DS) (H':ag):Prop:=
  D=[]/\Ext H0 H'/\∃k:Nat,m=ms.length-k/\k<=ms.length/\∃z:Nat->SV,ts=(z 0::z 1::(.ptr p2 0)::z 3::(.int .i64 ((0:Nat):Int))::zz z 5 30 ((mv)::(.int .i64 (ms.length:Int))::(.int .i64 (k:Int))::zz z 38 19 []):T)/\(True)
theorem adi {k i:Nat} {gv rv dv:SV} {G:List Gr} {R:List Rl} {E:List Gd} (hp:g' (br H) k gv rv dv G R E) (hi:i<G.length) (hn:6<=n) (aC:1000<lf):
 ∃H',aj ak lf n 47 [.agg [gv,rv,dv],.int .i64 (i:Int)] H=some (.int .i64 ((0:Nat):Int),H')/\Ext H H':=by
 obtain⟨n,rfl⟩:=aN (n:=n);have key:∃w H',aj ak lf (n+1) 47 [.agg [gv,rv,dv],.int .i64 (i:Int)] H=some (w,H')/\w=.int .i64 ((0:Nat):Int)/\Ext H H':=by
  have qY:=hp.Bu.len;have fo:=hp.n3;obtain⟨H1,ay⟩:∃H1,H.push (.row [gv,rv,dv] 29 true false 0)=H1:=⟨_,rfl⟩;have aB:Ext H H1:=by rw[<-ay];exact(Ext.refl H).push _
  have ca:H1.next=H.next+1:=by rw[<-ay];rfl
  have jQ:H1.get H.next=some (.row [gv,rv,dv] 29 true false 0):=by rw[<-ay];exact bd _
  have hgi:G[i]? =some G[i]:=List.getElem?_eq_getElem hi;have hx:(G.map iQ)[i]? =some (iQ G[i]):=by simp[hi]
  obtain⟨b,o,Ca,hb,bj,_⟩:=(hp.gs.ax aB).at_ hx;have kE:G[i]∈G:=List.getElem_mem hi;have fR:G[i].1∈fY:=(hp.Bu.at_ _ kE).nm;have nr:=hp.zd _ kE;have p8:=hp.tD _ kE;have jP:=hp.tE _ kE;have lH:¬∃g∈G.take i,g.1=G[i].1:=by
   rintro⟨g,hg,e⟩;obtain⟨j,hj,rfl⟩:=List.mem_iff_getElem.1 hg;have Cc:j<i:=by rw[List.length_take]at hj;omega
   have jj:(G.map (·.1)).Nodup:=by rw[hp.pO];exact ado k (mH fo)
   rw[List.getElem_take]at e;have:=(List.pairwise_iff_getElem.1 jj) j i (by rw[List.length_map];omega) (by rw[List.length_map];exact hi) Cc;rw[List.getElem_map,List.getElem_map]at this;exact this e
  generalize pY:G[i]=g at bj fR nr p8 jP lH hgi;obtain⟨nm,mv,ms⟩:=g;have bj:aq (H1.get b) o 2=some [.str nm,mv]:=bj;have fR:nm∈fY:=fR;have p8:ms.length<=3:=p8;have jP:∀m∈ms,m∈rI k:=jP;have nr:br H mv 1 (bZ ms):=nr;have mo:=nr.one;obtain⟨H2,aY⟩:∃H2,(H1.push (.row [.str [],.ao] 51 true false 0)).put H1.next (.row [.str nm,mv] 51 true false 0)=H2:=⟨_,rfl⟩;have aF:Ext H1 H2:=by rw[<-aY];exact((Ext.refl _).push _).put (Nat.le_refl _) _
  have fS:H2.get (H.next+1)=some (.row [.str nm,mv] 51 true false 0):=by rw[<-ca,<-aY];exact bT _ _
  have ij:=(aF.2 _ om).trans jQ;have dc:H2.next=H.next+2:=by rw[<-aY];show H1.next+1=_;omega
  have aD:c7 2 (.ptr (H.next+1) 0) [.str nm,mv] (H1.push (.row [.str [],.ao] 51 true false 0))=some H2:=by
   rw[iL (n:=2) rfl,iq,<-ca,bd,im (by simp) om (by rw[List.all_cons,List.all_cons,mo];rfl)];exact congrArg some aY
  have E8:=aB.trans aF;have zE:=NT (lf:=lf) (n:=n) (H:=H2) (adm nm fR) om;have T2:=RI (lf:=lf) (n:=n) (H:=H2) (adn nm fR) om;rw[adp nm fR]at T2;obtain⟨w,hw,Vx⟩:=(hp.gs.ax E8).hiw (k:=i) (by rw[List.length_map];omega);rw[<-List.map_take]at Vx;obtain⟨r,H3,bf,aS,hr⟩:=Sm (lf:=lf) (n:=n) (nm:=nm) (.inr rfl) Vx (by rw[List.length_take];omega) (show aq (H2.get (H.next+1)) 0 1=some [.str nm]by rw[fS];rfl) om om aC;have hrf:r=false:=by
   cases r with
   |false=>rfl
   |true=>exact absurd (hr.1 rfl) lH
  subst hrf;have UX:=(aS.2 _ om).trans fS;have ae6:=(aS.2 _ om).trans ij;have UG:=(nr.ax E8).ax aS;have hlen:=UG.cA;rw[kt]at hlen;have d24:decide ((ms.length:Int)>((24:Nat):Int))=false:=by rw[decide_eq_false_iff_not];omega
  refine cx Qq.1 ?_;refine af (An @ay (An @ca (An @jQ (An @Ca @bj)))) ?_;refine Ea (v:=.undef) (H':=H2) (by simp only[go_sem,SV.cells,aD]) ?_;refine af @fS ?_;refine ai ae zE ?_;refine af ae ?_;refine ah ae ?_;refine af @fS ?_;refine ai ae T2 ?_;refine af (An @ij @hw) ?_;refine ai ae bf ?_;refine af ae ?_;refine ah ae ?_;refine af (An @UX (An @hlen @d24)) ?_;refine ah ae ?_;refine af (An @UX @hlen) ?_;refine bH (I:=ZC H3 H.next mv ms gv rv dv) ?_ ms.length ?_ om
  ·rintro m ts D H4 ⟨rfl,bz,j,rfl,hj,⟨z,rfl, -⟩⟩;have UA:=aS.1;refine af ae ?_;refine cst ae (fun hc=>?_) (fun hc=>?_)<;>try simp only[decide_eq_true_eq,decide_eq_false_iff_not,not_true_eq_false,not_false_eq_true,Int.not_lt,Int.not_le,ge_iff_le,gt_iff_lt]at hc
   ·have Cd:j<ms.length:=om;obtain⟨b',o',cu,_,Cs,_⟩:=(UG.ax bz).at_ (yn (List.getElem?_eq_getElem Cd));have hm:=jP _ (List.getElem_mem Cd);generalize ms[j]=m at Cs hm;have Fz:=ab5 (lf:=lf) (n:=n) (H:=H4) (NJ k (mH fo) m hm) om;have ae7:=(bz.2 _ om).trans ae6;rcases agU fo hm with⟨s,hs,Ve,uo⟩|⟨hs,uo⟩
    ·rw[hs]at Fz;have Mk:=NT (lf:=lf) (n:=n) (H:=H4) uo om;obtain⟨H5,eP,bm⟩:=KB (lf:=lf) (n:=n) (hp.imp fun v z L h=>((h.ax E8).ax aS).ax bz) Ve om aC;refine af (An @cu @Cs) ?_;refine ai ae Fz ?_;refine af ae ?_;refine ai ae Mk ?_;refine af ae ?_;refine ah ae ?_;refine af @ae7 ?_;refine ai ae eP ?_;refine af ae ?_;refine ah ae ?_;refine af (c8 (k:=j) om) ?_;exact aT (ms.length-(j+1)) om ⟨rfl,bz.trans bm,j+1,rfl,by omega,aw⟩
    ·rw[hs]at Fz;have Mk:=NT (lf:=lf) (n:=n) (H:=H4) uo om;refine af (An @cu @Cs) ?_;refine ai ae Fz ?_;refine af ae ?_;refine ai ae Mk ?_;refine af ae ?_;refine ah ae ?_;refine af ae ?_;refine ah ae ?_;refine af (c8 (k:=j) om) ?_;exact aT (ms.length-(j+1)) om ⟨rfl,bz,j+1,rfl,by omega,aw⟩
   ·refine af ae ?_;refine aO ae ?_;exact(⟨rfl,E8.trans (aS.trans bz)⟩)
  ·exact⟨rfl,Ext.refl _,0,by omega,by omega,aw⟩
 obtain⟨w,H',h,rfl,hE⟩:=key;exact⟨H',h,hE⟩
end
end
section
theorem vK:decide (((0:Nat):Int)≠((0:Nat):Int))=false:=by decide
section
variable {lf n:Nat} {H:ag}
@[reducible] def Z1 (H0 H1:ag) (G:List Gr) (m:Nat) (ts:T) (D:DS) (H':ag):Prop:=
  D=[]/\Ext H1 H'/\∃k:Nat,m=G.length-k/\k<=G.length/\∃z:Nat->SV,ts=(z 0::(.ptr H0.next 0)::zz z 2 27 ((.int .i64 (G.length:Int))::(.int .i64 (k:Int))::zz z 31 37 []):T)/\(True)
@[reducible] def Z2 (H0 H1:ag) (rv:SV) (R:List Rl) (m:Nat) (ts:T) (D:DS) (H':ag):Prop:=
  D=[]/\Ext H1 H'/\∃k:Nat,m=R.length-k/\k<=R.length/\∃z:Nat->SV,ts=(z 0::(.ptr H0.next 0)::zz z 2 39 ((rv)::(.int .i64 (R.length:Int))::(.int .i64 (k:Int))::zz z 44 24 []):T)/\(True)
@[reducible] def Z3 (H0 H1:ag) (dv:SV) (E:List Gd) (m:Nat) (ts:T) (D:DS) (H':ag):Prop:=
  D=[]/\Ext H1 H'/\∃k:Nat,m=E.length-k/\k<=E.length/\∃z:Nat->SV,ts=(z 0::(.ptr H0.next 0)::zz z 2 53 ((dv)::(.int .i64 (E.length:Int))::(.int .i64 (k:Int))::zz z 58 10 []):T)/\(True)
theorem W4 {k:Nat} {gv rv dv:SV} {G:List Gr} {R:List Rl} {E:List Gd} (hp:g' (br H) k gv rv dv G R E) (hn:7<=n) (aC:1000<lf):
 ∃H',aj ak lf n 20 [.agg [gv,rv,dv]] H=some (.int .i64 ((0:Nat):Int),H')/\Ext H H':=by
 obtain⟨n,rfl⟩:=aN (n:=n);have key:∃w H',aj ak lf (n+1) 20 [.agg [gv,rv,dv]] H=some (w,H')/\w=.int .i64 ((0:Nat):Int)/\Ext H H':=by
  have qY:=hp.Bu.len;have MH:=hp.sU;have sE:=hp.se;have l1:=hp.gs.cA;have l2:=hp.rs.cA;have l3:=hp.ds.cA;rw[List.length_map]at l1 l2 l3;obtain⟨H1,ay⟩:∃H1,H.push (.row [gv,rv,dv] 29 true false 0)=H1:=⟨_,rfl⟩;have aB:Ext H H1:=by rw[<-ay];exact(Ext.refl H).push _
  have ca:H1.next=H.next+1:=by rw[<-ay];rfl
  have jQ:H1.get H.next=some (.row [gv,rv,dv] 29 true false 0):=by rw[<-ay];exact bd _
  have d1:decide ((G.length:Int)>((24:Nat):Int))=false:=by rw[decide_eq_false_iff_not];omega
  have d2:decide ((R.length:Int)>((64:Nat):Int))=false:=by rw[decide_eq_false_iff_not];omega
  have d3:decide ((E.length:Int)>((64:Nat):Int))=false:=by rw[decide_eq_false_iff_not];omega
  refine cx Iy.1 ?_;refine af (An @ay (An @jQ (An @l1 (An @l2 (An @l3 (An @d1 (An @d2 @d3))))))) ?_;refine ah ae ?_;refine af (An @jQ @l1) ?_;refine bH (I:=Z1 H H1 G) ?_ G.length ?_ om
  ·rintro m ts D H2 ⟨rfl,aF,i,rfl,hi,⟨z,rfl, -⟩⟩;have ij:=(aF.2 _ om).trans jQ;refine af ae ?_;refine cst ae (fun hc=>?_) (fun hc=>?_)<;>try simp only[decide_eq_true_eq,decide_eq_false_iff_not,not_true_eq_false,not_false_eq_true,Int.not_lt,Int.not_le,ge_iff_le,gt_iff_lt]at hc
   ·obtain⟨H3,bf,aS⟩:=adi (lf:=lf) (n:=n) (i:=i) (hp.imp fun v z L h=>(h.ax aB).ax aF) om om aC;refine af @ij ?_;refine ai ae bf ?_;refine af ae ?_;refine ah @vK ?_;refine af (c8 (k:=i) om) ?_;exact aT (G.length-(i+1)) om ⟨rfl,aF.trans aS,i+1,rfl,by omega,aw⟩
   ·refine af (An @ij @l2) ?_;have FN:=aF.1;refine bH (I:=Z2 H H2 rv R) ?_ R.length ?_ om
    ·rintro m ts D H3 ⟨rfl,aS,i,rfl,hi,⟨z,rfl, -⟩⟩;have ik:=(aS.2 _ om).trans ij;have UA:=aS.1;refine af ae ?_;refine cst ae (fun hc=>?_) (fun hc=>?_)<;>try simp only[decide_eq_true_eq,decide_eq_false_iff_not,not_true_eq_false,not_false_eq_true,Int.not_lt,Int.not_le,ge_iff_le,gt_iff_lt]at hc
     ·have B8:i<R.length:=om;have hx:(R.map gD)[i]? =some (gD R[i]):=by simp[B8]
      obtain⟨b,o,Ca,hb,bj,_⟩:=(((hp.rs.ax aB).ax aF).ax aS).at_ hx;have cZ:=hp.uy _ (List.getElem_mem B8);generalize R[i]=x at bj cZ;obtain⟨al,r,g,sk,⟨t1,t2⟩⟩:=x;have bj:aq (H3.get b) o 6=some [.bool al,.int .i64 (r:Int),.str g,.int .i64 (sk:Int),.int .i64 (t1:Int),.str t2]:=bj;obtain⟨H4,kZ⟩:∃H4,(H3.push (.row [.bool false,.int .i64 ((0:Nat):Int),.str [],.int .i64 ((0:Nat):Int),.int .i64 ((0:Nat):Int),.str []] 55 true false 0)).put H3.next (.row [.bool al,.int .i64 (r:Int),.str g,.int .i64 (sk:Int),.int .i64 (t1:Int),.str t2] 55 true false 0)=H4:=⟨_,rfl⟩;have bz:Ext H3 H4:=by rw[<-kZ];exact((Ext.refl _).push _).put (Nat.le_refl _) _
      have ug:H4.get H3.next=some (.row [.bool al,.int .i64 (r:Int),.str g,.int .i64 (sk:Int),.int .i64 (t1:Int),.str t2] 55 true false 0):=by rw[<-kZ];exact bT _ _
      have uf:=(bz.2 _ om).trans ik;obtain⟨H5,eP,bm⟩:=ajX (lf:=lf) (n:=n) (hp.imp fun v z L h=>(((h.ax aB).ax aF).ax aS).ax bz) cZ om aC;simp only[gD]at eP;refine af (An @Ca (An @bj (An @kZ (An @uf @ug)))) ?_;refine ai ae eP ?_;refine af ae ?_;refine ah @vK ?_;refine af (c8 (k:=i) om) ?_;exact aT (R.length-(i+1)) om ⟨rfl,aS.trans (bz.trans bm),i+1,rfl,by omega,aw⟩
     ·refine af (An @ik @l3) ?_;refine bH (I:=Z3 H H3 dv E) ?_ E.length ?_ om
      ·rintro m ts D H4 ⟨rfl,bz,i,rfl,hi,⟨z,rfl, -⟩⟩;have uf:=(bz.2 _ om).trans ik;have UB:=bz.1;refine af ae ?_;refine cst ae (fun hc=>?_) (fun hc=>?_)<;>try simp only[decide_eq_true_eq,decide_eq_false_iff_not,not_true_eq_false,not_false_eq_true,Int.not_lt,Int.not_le,ge_iff_le,gt_iff_lt]at hc
       ·have B8:i<E.length:=om;have hx:(E.map iA)[i]? =some (iA E[i]):=by simp[B8]
        obtain⟨b,o,Ca,hb,bj,_⟩:=((((hp.ds.ax aB).ax aF).ax aS).ax bz).at_ hx;have cZ:=hp.qG _ (List.getElem_mem B8);generalize E[i]=x at bj cZ;obtain⟨st,g,⟨t1,t2⟩,s⟩:=x;have bj:aq (H4.get b) o 5=some [.bool st,.str g,.int .i64 (t1:Int),.str t2,.str s]:=bj;obtain⟨H5,bg⟩:∃H5,(H4.push (.row [.bool false,.str [],.int .i64 ((0:Nat):Int),.str [],.str []] 58 true false 0)).put H4.next (.row [.bool st,.str g,.int .i64 (t1:Int),.str t2,.str s] 58 true false 0)=H5:=⟨_,rfl⟩;have bm:Ext H4 H5:=by rw[<-bg];exact((Ext.refl _).push _).put (Nat.le_refl _) _
        have ug:H5.get H4.next=some (.row [.bool st,.str g,.int .i64 (t1:Int),.str t2,.str s] 58 true false 0):=by rw[<-bg];exact bT _ _
        have fS:=(bm.2 _ om).trans uf;obtain⟨H6,cP,cL⟩:=ads (lf:=lf) (n:=n) (hp.imp fun v z L h=>((((h.ax aB).ax aF).ax aS).ax bz).ax bm) cZ om aC;simp only[iA]at cP;refine af (An @Ca (An @bj (An @bg (An @fS @ug)))) ?_;refine ai ae cP ?_;refine af ae ?_;refine ah @vK ?_;refine af (c8 (k:=i) om) ?_;exact aT (E.length-(i+1)) om ⟨rfl,bz.trans (bm.trans cL),i+1,rfl,by omega,aw⟩
       ·refine af ae ?_;refine aO ae ?_;exact(⟨rfl,aB.trans (aF.trans (aS.trans bz))⟩)
      ·exact⟨rfl,Ext.refl _,0,by omega,by omega,aw⟩
    ·exact⟨rfl,Ext.refl _,0,by omega,by omega,aw⟩
  ·exact⟨rfl,Ext.refl _,0,by omega,by omega,aw⟩
 obtain⟨w,H',h,rfl,hE⟩:=key;exact⟨H',h,hE⟩
end
end
end Go.Sh
