/-
  The generator of texts answers some text of bounded length. No conditions beyond those that stand in the theorems.
-/
import Derived.Test.YtfgpklidnkdahaaGreatDoorShC0
import Derived.KernelRfl
set_option linter.all false
set_option maxHeartbeats 20000000
set_option maxRecDepth 10000
namespace Go.Sh
section
section
variable {lf n:Nat} {H:ag}
def cY (M:Nat) (H:ag) (kb:Nat):Prop:=kb<M/\M<=H.next/\∃(lv:SV) (at_:Int),H.get kb=some (.row [lv,.int .i64 at_] 48 true false 0)/\0<=at_/\
 ((lv=.ao)\/∃(lb lo len:Nat) (cap:Option Nat) (cs:List SV) (e:TypeId) (ex ro:Bool) (frz:Nat),lv=.slice lb lo len cap 1/\lb≠kb/\lb<M/\H.get lb=some (.row cs e ex ro frz)/\len<140737488355328/\
   (∀i,i<len->∃x:Int,cs[lo+i]? =some (.int .i64 x)))
def ta (M:Nat) (H H':ag) (kb:Nat):Prop:=H'.next=H.next/\(∀b,b≠kb->H'.get b=H.get b)/\cY M H' kb
theorem aaC (x:Int):∃r:Int,0<=r/\r<16777216/\IntKind.wrap .i64 ((BitVec.ofInt 64 x &&& BitVec.ofInt 64 ((16777215:Nat):Int)).toNat:Int)=r:=by
 have h1:(BitVec.ofInt 64 x &&& BitVec.ofInt 64 ((16777215:Nat):Int)).toNat<=16777215:=by
  rw[BitVec.toNat_and];exact Nat.le_trans Nat.and_le_right (by decide)
 exact⟨_,by omega,by omega,wrap_i64 om om⟩
theorem kO {M kb:Nat} (hT:cY M H kb) {m:Int} (hm:0<m) (nX:m<1000000) (hn:1<=n):
 ∃(r:Int) (H':ag),aj ak lf n 17 [.ptr kb 0,.int .i64 m] H=some (.int .i64 r,H')/\0<=r/\r<m/\ta M H H' kb:=by
 obtain⟨n,rfl⟩:=aN (n:=n);have key:∃v H',aj ak lf (n+1) 17 [.ptr kb 0,.int .i64 m] H=some (v,H')/\∃r:Int,v=.int .i64 r/\0<=r/\r<m/\ta M H H' kb:=by
  obtain⟨zr,BI,lv,at_,hk,fQ,hl⟩:=hT;refine cx PA.1 ?_;rcases hl with rfl|⟨lb,lo,len,cap,cs,e,ex,ro,frz,rfl,aP,bU,jO,hlen,hcs⟩
  ·refine af @hk ?_;refine cst ae (fun hc=>?_) (fun hc=>?_)<;>try simp only[decide_eq_true_eq,decide_eq_false_iff_not,not_true_eq_false,not_false_eq_true,Int.not_lt,Int.not_le,ge_iff_le,gt_iff_lt]at hc
   ·refine af ae ?_;refine aO ae ?_;exact(⟨0,rfl,by omega,by omega,rfl,fun _ _=>rfl,zr,BI,.ao,at_,hk,fQ,.inl rfl⟩)
   ·omega
  ·refine af @hk ?_;refine cst ae (fun hc=>?_) (fun hc=>?_)<;>try simp only[decide_eq_true_eq,decide_eq_false_iff_not,not_true_eq_false,not_false_eq_true,Int.not_lt,Int.not_le,ge_iff_le,gt_iff_lt]at hc
   ·refine af ae ?_;refine aO ae ?_;exact(⟨0,rfl,by omega,by omega,rfl,fun _ _=>rfl,zr,BI,_,at_,hk,fQ,.inr ⟨lb,lo,len,cap,cs,e,ex,ro,frz,rfl,aP,bU,jO,hlen,hcs⟩⟩)
   ·obtain⟨x,hx⟩:=hcs at_.toNat om;have hx1:aq (some (.row cs e ex ro frz)) (lo+at_.toNat) 1=some [.int .i64 x]:=nE hx;obtain⟨r,vo,fc,hr⟩:=aaC x;refine af (An @hk (An @jO (An @hx1 @hr))) ?_;have dn:IntKind.bits .i64=64:=rfl;refine aO (An @dn @hr) ?_;exact(⟨r.tmod m,congrArg (fun y=>SV.int .i64 (Int.tmod y m)) hr,Int.tmod_nonneg _ vo,Int.tmod_lt_of_pos _ hm,rfl,fun b hb=>cI hb,zr,BI,_,_,bT _ _,(by omega:(0:Int)<=at_+1),.inr ⟨lb,lo,len,cap,cs,e,ex,ro,frz,rfl,aP,bU,by rw[cI aP];exact jO,hlen,hcs⟩⟩)
 obtain⟨v,H',h,r,rfl,h1,h2,h3⟩:=key;exact⟨r,H',h,h1,h2,h3⟩
theorem NW {M kb:Nat} (hT:cY M H kb) {b:Nat} {L:List (List Nat)} {c:Option Nat} {e:TypeId} {ex ro:Bool} {frz:Nat} (hb:H.get b=some (.row (L.map SV.str) e ex ro frz)) (vg:b≠kb) (h0:0<L.length) (hL:L.length<1000) (hn:2<=n):
 ∃(s:List Nat) (H':ag),aj ak lf n 19 [.ptr kb 0,.slice b 0 L.length c 1] H=some (.str s,H')/\s∈L/\ta M H H' kb:=by
 obtain⟨n,rfl⟩:=aN (n:=n);have key:∃v H',aj ak lf (n+1) 19 [.ptr kb 0,.slice b 0 L.length c 1] H=some (v,H')/\∃s,v=.str s/\s∈L/\ta M H H' kb:=by
  refine cx PM.1 ?_;refine af ae ?_;obtain⟨r,H1,cK,vo,fc,aD⟩:=kO (lf:=lf) (n:=n) hT (m:=(L.length:Int)) om om om;refine ai ae cK ?_;have hlt:r.toNat<L.length:=om;have j9:(L.map SV.str)[r.toNat]? =some (.str L[r.toNat]):=by simp[hlt]
  have dn:H1.get b=some (.row (L.map SV.str) e ex ro frz):=by rw[aD.2.1 b vg];exact hb
  have bj:aq (some (.row (L.map SV.str) e ex ro frz)) r.toNat 1=some [.str L[r.toNat]]:=nE j9;refine af (An @dn @bj) ?_;refine aO ae ?_;exact(⟨_,rfl,List.getElem_mem hlt,aD⟩)
 obtain⟨v,H',h,s,rfl,h1,h2⟩:=key;exact⟨s,H',h,h1,h2⟩
def GS (M kb:Nat) (H H':ag):Prop:=H.next<=H'.next/\(∀b,b<H.next->b≠kb->H'.get b=H.get b)/\cY M H' kb
theorem cY.ax {M kb:Nat} {H H':ag} (h:cY M H kb) (hn:H.next<=H'.next) (hk:∀b,b<M->H'.get b=H.get b):cY M H' kb:=by
 obtain⟨h1,h2,lv,at_,h3,h4,h5⟩:=h;refine⟨h1,Nat.le_trans h2 hn,lv,at_,(hk _ h1).trans h3,h4,?_⟩;rcases h5 with rfl|⟨lb,lo,len,cap,cs,e,ex,ro,frz,rfl,aP,hl,hg,hr⟩
 ·exact .inl rfl
 ·exact .inr ⟨lb,lo,len,cap,cs,e,ex,ro,frz,rfl,aP,hl,(hk _ hl).trans hg,hr⟩
theorem cY.push {M kb:Nat} {H:ag} (h:cY M H kb) (o:cz):cY M (H.push o) kb:=
 h.ax (Nat.le_succ _) fun b hb=>cU (Nat.lt_of_lt_of_le hb h.2.1)
theorem cY.put {M kb b:Nat} {H:ag} (h:cY M H kb) (hb:M<=b) (o:cz):cY M (H.put b o) kb:=
 h.ax (Nat.le_refl _) fun c hc=>cI om
theorem GS.refl {M kb:Nat} {H:ag} (h:cY M H kb):GS M kb H H:=⟨Nat.le_refl _,fun _ _ _=>rfl,h⟩
theorem GS.trans {M kb:Nat} {H1 H2 H3:ag} (h:GS M kb H1 H2) (k:GS M kb H2 H3):GS M kb H1 H3:=
 ⟨Nat.le_trans h.1 k.1,fun b hb aP=>(k.2.1 b (Nat.lt_of_lt_of_le hb h.1) aP).trans (h.2.1 b hb aP),k.2.2⟩
theorem GS.push {M kb:Nat} {H1 H2:ag} (h:GS M kb H1 H2) (o:cz):GS M kb H1 (H2.push o):=
 ⟨Nat.le_succ_of_le h.1,fun b hb aP=>by rw[cU (Nat.lt_of_lt_of_le hb h.1)];exact h.2.1 b hb aP,h.2.2.push o⟩
theorem GS.put {M kb b:Nat} {H1 H2:ag} (h:GS M kb H1 H2) (hb:H1.next<=b) (hM:M<=H1.next) (o:cz):GS M kb H1 (H2.put b o):=
 ⟨h.1,fun c hc aP=>by rw[cI om];exact h.2.1 c hc aP,h.2.2.put (Nat.le_trans hM hb) o⟩
theorem ta.gs {M kb:Nat} {H1 H2 H3:ag} (h:GS M kb H1 H2) (k:ta M H2 H3 kb):GS M kb H1 H3:=
 h.trans ⟨Nat.le_of_eq k.1.symm,fun b _ aP=>k.2.1 b aP,k.2.2⟩
theorem GS.old {M kb b:Nat} {H1 H2:ag} (h:GS M kb H1 H2) (hb:b<H1.next) (aP:b≠kb) {o:cz} (hg:H1.get b=some o):H2.get b=some o:=(h.2.1 b hb aP).trans hg
def Ii:List (List Nat):=[[97],[120,32,121],[49,50],[],[98],[48],[45,51],[65,98],[32],[122]]
def GG:List (List Nat):=[[97,110,110],[98,111,98],[115,116,97,102,102],[109,111,100,115],[122,111,101]]
def AO:List (List Nat):=[[97,110,110],[98,111,98],[],[122,111,101]]
def HZ:List (List Nat):=[[65],[66],[65,47,66],[67],[84],[85,47,120],[65,47,66,47,99],[76,111,110,103,32,110,97,109,101],[49],[88]]
theorem rL {M kb:Nat} (hT:cY M H kb) (N:Nat) {L:List (List Nat)} {cs:List SV} (hcs:cs=L.map SV.str) (hN:L.length=N) (h0:0<N) (hL:N<1000) (hn:2<=n):
 ∃(s:List Nat) (H':ag),aj ak lf n 19 [.ptr kb 0,.slice H.next 0 N (some N) 1] (H.push (.row cs 9 true false 0))=some (.str s,H')/\s∈L/\GS M kb H H'/\H'.next=H.next+1:=by
 subst hcs hN;have aP:H.next≠kb:=by have:=hT.1;have:=hT.2.1;omega
 obtain⟨s,H',h,hs,aD⟩:=NW (lf:=lf) (hT.push (.row (L.map SV.str) 9 true false 0)) (c:=some L.length) (bd _) aP h0 hL hn;exact⟨s,H',h,hs,aD.gs ((GS.refl hT).push _),aD.1⟩
theorem Y8 {M kb:Nat} (hT:cY M H kb) (hn:3<=n):∃s H',aj ak lf n 108 [.ptr kb 0] H=some (.str s,H')/\s∈Ii/\GS M kb H H':=by
 obtain⟨n,rfl⟩:=aN (n:=n);have key:∃v H',aj ak lf (n+1) 108 [.ptr kb 0] H=some (v,H')/\∃s,v=.str s/\s∈Ii/\GS M kb H H':=by
  obtain⟨s,H1,hc,hs,hg,_⟩:=rL (lf:=lf) (n:=n) hT 10 (L:=Ii) rfl rfl (by decide) (by decide) om;refine cx Pn.1 ?_;refine af ae ?_;refine ai ae hc ?_;refine af ae ?_;refine aO ae ?_;exact(⟨s,rfl,hs,hg⟩)
 obtain⟨v,H',h,s,rfl,h1,h2⟩:=key;exact⟨s,H',h,h1,h2⟩
theorem ag0 {M kb:Nat} (hT:cY M H kb) (hn:3<=n):∃s H',aj ak lf n 18 [.ptr kb 0] H=some (.str s,H')/\s∈GG/\GS M kb H H':=by
 obtain⟨n,rfl⟩:=aN (n:=n);have key:∃v H',aj ak lf (n+1) 18 [.ptr kb 0] H=some (v,H')/\∃s,v=.str s/\s∈GG/\GS M kb H H':=by
  obtain⟨s,H1,hc,hs,hg,_⟩:=rL (lf:=lf) (n:=n) hT 5 (L:=GG) rfl rfl (by decide) (by decide) om;refine cx PB.1 ?_;refine af ae ?_;refine ai ae hc ?_;refine af ae ?_;refine aO ae ?_;exact(⟨s,rfl,hs,hg⟩)
 obtain⟨v,H',h,s,rfl,h1,h2⟩:=key;exact⟨s,H',h,h1,h2⟩
theorem al2 {M kb:Nat} (hT:cY M H kb) (hn:3<=n):∃s H',aj ak lf n 9 [.ptr kb 0] H=some (.str s,H')/\s∈AO/\GS M kb H H':=by
 obtain⟨n,rfl⟩:=aN (n:=n);have key:∃v H',aj ak lf (n+1) 9 [.ptr kb 0] H=some (v,H')/\∃s,v=.str s/\s∈AO/\GS M kb H H':=by
  obtain⟨s,H1,hc,hs,hg,_⟩:=rL (lf:=lf) (n:=n) hT 4 (L:=AO) rfl rfl (by decide) (by decide) om;refine cx x9.1 ?_;refine af ae ?_;refine ai ae hc ?_;refine af ae ?_;refine aO ae ?_;exact(⟨s,rfl,hs,hg⟩)
 obtain⟨v,H',h,s,rfl,h1,h2⟩:=key;exact⟨s,H',h,h1,h2⟩
def Ie (sp:Nat) (nm:List Nat):SV:=.agg [.int .i64 (sp:Int),.str nm]
theorem O0 {M kb:Nat} (hT:cY M H kb) (hn:3<=n):∃sp s H',aj ak lf n 10 [.ptr kb 0] H=some (Ie sp s,H')/\sp<6/\s∈HZ/\GS M kb H H':=by
 obtain⟨n,rfl⟩:=aN (n:=n);have key:∃v H',aj ak lf (n+1) 10 [.ptr kb 0] H=some (v,H')/\∃sp s,v=Ie sp s/\sp<6/\s∈HZ/\GS M kb H H':=by
  have nR:=hT.push (.row [.int .i64 ((0:Nat):Int),.str []] 40 true false 0);obtain⟨r,H1,aV,vo,fc,aD⟩:=kO (lf:=lf) (n:=n) nR (m:=((6:Nat):Int)) om om om;obtain⟨s,H2,hc,hs,hg,jw⟩:=rL (lf:=lf) (n:=n) aD.2.2 10 (L:=HZ) rfl rfl (by decide) (by decide) om;have aP:H.next≠kb:=by have:=hT.1;have:=hT.2.1;omega
  have bP:=aD.gs ((GS.refl hT).push (.row [.int .i64 ((0:Nat):Int),.str []] 40 true false 0));have oa:=(aD.gs (GS.refl nR) |>.trans hg).old (b:=H.next) (Nat.lt_succ_self _) aP (bd _);obtain⟨k,rfl⟩:∃k:Nat,r=(k:Int):=⟨r.toNat,by omega⟩;refine cx Pl.1 ?_;refine af ae ?_;refine ai ae aV ?_;refine af ae ?_;refine ai ae hc ?_;refine af @oa ?_;refine aO ae ?_;exact(⟨k,s,rfl,by omega,hs,(bP.trans hg).put (Nat.le_refl _) hT.2.1 _⟩)
 obtain⟨v,H',h,sp,s,rfl,h1,h2,h3⟩:=key;exact⟨sp,s,H',h,h1,h2,h3⟩
end
end
section
def Tx (s:List Nat) (n:Nat):Prop:=s.length<=n/\∀x∈s,x<256
inductive AT where
 |top
 |str (n:Nat)
 |num (k:Option Nat)
 |bol
 |tape
 |lit (n len:Nat)
def AT.ok (M kb:Nat) (H:ag):AT->SV->Prop
 |.top,_=>True
 |.str n,v=>∃s,v=.str s/\Tx s n
 |.num none,v=>∃k:Int,v=.int .i64 k
 |.num (some k),v=>v=.int .i64 (k:Int)
 |.bol,v=>∃b,v=.bool b
 |.tape,v=>v=.ptr kb 0
 |.lit n len,v=>∃(b:Nat) (L:List (List Nat)),v=.slice b 0 n (some n) 1/\L.length=n/\(∀s∈L,Tx s len)/\M<=b/\b<H.next/\∃e ex ro frz,H.get b=some (.row (L.map SV.str) e ex ro frz)
theorem AT.ax {M kb:Nat} {H H':ag} (hg:GS M kb H H') (hk:kb<M) {a:AT} {v:SV} (h:a.ok M kb H v):a.ok M kb H' v:=by
 cases a with
 |lit n len=>
  obtain⟨b,L,h1,h2,h3,h4,h5,e,ex,ro,frz,h6⟩:=h;exact⟨b,L,h1,h2,h3,h4,Nat.lt_of_lt_of_le h5 hg.1,e,ex,ro,frz,hg.old h5 om h6⟩
 |num k=>cases k<;>simpa only[AT.ok]using h
 |_=>simpa only[AT.ok]using h
theorem Tx.le {s:List Nat} {m n:Nat} (h:Tx s m) (hm:m<=n):Tx s n:=⟨Nat.le_trans h.1 hm,h.2⟩
theorem Tx.app {s t:List Nat} {m n:Nat} (h:Tx s m) (k:Tx t n):Tx (s++t) (m+n):=⟨by rw[List.length_append];exact Nat.add_le_add h.1 k.1,fun x hx=>(List.mem_append.1 hx).elim (h.2 x) (k.2 x)⟩
theorem Tx.oH {s t:List Nat} {m n:Nat} (h:Tx s m) (k:Tx t n) (hl:m+n<=100000):bX .add (.str s) (.str t)=some (.str (s++t)):=eT (by have:=h.1;have:=k.1;omega)
theorem Tx.nil {n:Nat}:Tx [] n:=⟨Nat.zero_le _,fun _ h=>by cases h⟩
abbrev kS:=List AT
structure Fits (M kb:Nat) (H:ag) (E:kS) (ts:T):Prop where
 len:E.length=ts.length
 at_:∀(i:Nat) (a:AT) (v:SV),E[i]? =some a->ts[i]? =some v->a.ok M kb H v
def JW:SV->AT
 |.str s=>match s.all (Nat.blt · 256)with
  |true=>.str s.length
  |false=>.top
 |.int .i64 (.ofNat k)=>.num (some k)
 |.bool _=>.bol
 |_=>.top
def aX (E:kS):X->AT
 |.t n=>E.getD n .top
 |.c v=>JW v
def QD:List SV->Bool
 |[]=>true
 |.str []::l=>QD l
 |_::_=>false
def GR (E:kS) (n:Nat):List (Nat×Nat×X)->Option Nat
 |[]=>some 0
 |(o,z,x)::l=>match aX E x with
  |.str m=>match Nat.beq z 1&&Nat.ble (o+1) n with
   |true=>match GR E n l with
    |some k=>some (Nat.max m k)
    |none=>none
   |false=>none
  |_=>none
def Ei (E:kS):cJ->Option AT
 |.mv x=>some (aX E x)
 |.bin .add x y=>match aX E x,aX E y with
  |.str a,.str b=>match Nat.ble (a+b) 100000 with
   |true=>some (.str (a+b))
   |false=>none
  |_,_=>none
 |.bin .sub x y=>match aX E x,aX E y with
  |.num (some a),.num (some b)=>match Nat.ble b a&&Nat.ble a 1000 with
   |true=>some (.num (some (a-b)))
   |false=>none
  |_,_=>none
 |.bin .eql x y=>match aX E x,aX E y with
  |.num _,.num _=>some .bol
  |_,_=>none
 |.bin .leq x y=>match aX E x,aX E y with
  |.num _,.num _=>some .bol
  |_,_=>none
 |.hO _ 1 n zero parts=>match QD zero&&Nat.beq zero.length n&&Nat.blt 0 n&&Nat.blt n 1000 with
  |true=>match GR E n parts with
   |some k=>some (.lit n k)
   |none=>none
  |false=>none
 |_=>none
def Jm (f:FuncId) (zs:List AT):Option AT:=match f,zs with
 |19,[.tape,.lit n len]=>match Nat.blt 0 n&&Nat.blt n 1000 with
  |true=>some (.str len)
  |false=>none
 |108,[.tape]=>some (.str 3)
 |17,[.tape,.num (some m)]=>match Nat.blt 0 m&&Nat.blt m 1000000 with
  |true=>some (.num none)
  |false=>none
 |62,[.tape,.num (some 0)]=>some (.str 3)
 |_,_=>none
def Re (E:kS):aG->Option kS
 |⟨some d,.op s,none⟩=>match Ei E s with
  |some a=>some (E.set d a)
  |none=>none
 |⟨some d,.call f xs,none⟩=>match Jm f (xs.map (aX E))with
  |some a=>some (E.set d a)
  |none=>none
 |_=>none
def Ej:List aG->kS->Option kS
 |[],E=>some E
 |o::os,E=>match Re E o with
  |some E'=>Ej os E'
  |none=>none
def mO (r lim:Nat):er->kS->Option (Option kS)
 |.skip,E=>some (some E)
 |.bJ ops,E=>match Ej ops E with
  |some E'=>some (some E')
  |none=>none
 |.seq a b,E=>match mO r lim a E with
  |some (some E')=>mO r lim b E'
  |x=>x
 |.cond x a b,E=>match aX E x with
  |.bol=>match mO r lim a E,mO r lim b E with
   |some none,some q=>some q
   |some q,some none=>some q
   |_,_=>none
  |_=>none
 |.block _ b,E=>mO r lim b E
 |.ret,E=>match E.getD r .top with
  |.str n=>match Nat.ble n lim with
   |true=>some none
   |false=>none
  |_=>none
 |_,_=>none
section
variable {M kb:Nat} {H:ag} {E:kS} {ts:T}
theorem A8 (h:Fits M kb H E ts) (x:X):(aX E x).ok M kb H (x.ev ts):=by
 cases x with
 |t n=>
  show(E.getD n .top).ok M kb H (ts.getD n SV.undef);cases he:E[n]? with
  |none=>simp[List.getD_eq_getElem?_getD,he,AT.ok]
  |some a=>
   have hl:n<ts.length:=by rw[<-h.len];exact(List.getElem?_eq_some_iff.1 he).1
   have:=h.at_ n a ts[n] he (List.getElem?_eq_getElem hl);simpa[List.getD_eq_getElem?_getD,he,hl]using this
 |c v=>
  show(JW v).ok M kb H v;unfold JW;split<;>try split
  all_goals simp only[AT.ok]
  all_goals first
   |exact⟨_,rfl⟩
   |rfl
   |trivial
   |(rename_i h;exact⟨_,rfl,Nat.le_refl _,fun x hx=>Nat.le_of_ble_eq_true (List.all_eq_true.1 h x hx)⟩)
theorem Fits.set {a:AT} {v:SV} (h:Fits M kb H E ts) (ha:a.ok M kb H v) (d:Nat):Fits M kb H (E.set d a) (ts.set d v) where
 len:=by simp[h.len]
 at_ i b u hb hu:=by
  rw[List.getElem?_set]at hb hu;by_cases e:d=i
  ·rw[if_pos e]at hb hu;split at hb
   ·split at hu
    ·cases hb;cases hu;exact ha
    ·cases hu
   ·cases hb
  ·rw[if_neg e]at hb hu;exact h.at_ i b u hb hu
theorem Fits.ax {H':ag} (h:Fits M kb H E ts) (hg:GS M kb H H') (hk:kb<M):Fits M kb H' E ts:=⟨h.len,fun i a v h1 h2=>AT.ax hg hk (h.at_ i a v h1 h2)⟩
theorem Zd:∀{cs:List SV},QD cs=true->cs=(List.replicate cs.length []).map SV.str
 |[],_=>rfl
 |v::cs,h=>by
  cases v<;>try(cases h;done)
  rename_i s;cases s with
  |cons a s=>cases h
  |nil=>
   have:=Zd (cs:=cs) h;rw[List.length_cons,List.replicate_succ,List.map_cons,<-this]
theorem SX (h:Fits M kb H E ts) {n lim:Nat}:∀{parts:List (Nat×Nat×X)} {L:List (List Nat)} {k:Nat},L.length=n->(∀s∈L,Tx s lim)->GR E n parts=some k->k<=lim->
 ∃L':List (List Nat),eM ts (L.map SV.str) parts=some (L'.map SV.str)/\L'.length=n/\∀s∈L',Tx s lim
 |[],L,k,hl,hs,_,_=>⟨L,rfl,hl,hs⟩
 |(o,z,x)::parts,L,k,hl,hs,hp,hk=>by
  simp only[GR]at hp;split at hp<;>try(cases hp;done)
  rename_i m hx;split at hp<;>try(cases hp;done)
  rename_i hz;split at hp<;>cases hp;rename_i k hq;simp only[Bool.and_eq_true]at hz;have qf:=Nat.eq_of_beq_eq_true hz.1;have hz2:=Nat.le_of_ble_eq_true hz.2;subst qf;have hv:=A8 h x;rw[hx]at hv;simp only[AT.ok]at hv;obtain⟨s,hv,bE⟩:=hv;have hm:m<=lim:=Nat.le_trans (Nat.le_max_left _ _) hk;have eJ:k<=lim:=Nat.le_trans (Nat.le_max_right _ _) hk;obtain⟨L',g1,g2,g3⟩:=SX h (parts:=parts) (L:=L.set o s) (k:=k) (by simp[hl]) (fun t ht=>by
   rcases List.mem_or_eq_of_mem_set ht with h1|rfl
   ·exact hs t h1
   ·exact bE.le hm) hq eJ
  refine⟨L',?_,g2,g3⟩;rw[eM,hv];have e1:Nat.ble (o+1) (L.map SV.str).length=true:=by rw[List.length_map,hl];exact dN hz2
  have e2:sY (L.map SV.str) o [SV.str s]=(L.set o s).map SV.str:=by
   have ho:o<L.length:=om;rw[List.map_set,sY,List.set_eq_take_append_cons_drop,if_pos (by simpa using ho)];rfl
  show(match Nat.beq 1 1&&Nat.ble (o+1) (L.map SV.str).length with
   |true=>eM ts (sY (L.map SV.str) o [SV.str s]) parts
   |false=>none)=_
  rw[e1,e2];exact g1
theorem aar (hT:cY M H kb) (h:Fits M kb H E ts) {s:cJ} {a:AT} (ha:Ei E s=some a):∃v H',evalOp s ts H=some (v,H')/\a.ok M kb H' v/\GS M kb H H':=by
 have hx:=A8 h;cases s with
 |mv x=>cases ha;exact⟨_,H,rfl,hx x,GS.refl hT⟩
 |bin op x y=>
  have h1:=hx x;have h2:=hx y;cases op<;>simp only[Ei]at ha<;>try(cases ha;done)
  ·split at ha<;>try(cases ha;done)
   rename_i a b e1 e2;split at ha<;>cases ha;rename_i hle;rw[e1]at h1;rw[e2]at h2;obtain⟨s,h1,l1⟩:=h1;obtain⟨t,h2,l2⟩:=h2;have hle:=Nat.le_of_ble_eq_true hle;refine⟨.str (s++t),H,?_,⟨_,rfl,l1.app l2⟩,GS.refl hT⟩;rw[C5,h1,h2,eT (by have:=l1.1;have:=l2.1;omega)];rfl
  ·split at ha<;>try(cases ha;done)
   rename_i a b e1 e2;split at ha<;>cases ha;rename_i hle;rw[Bool.and_eq_true]at hle;have l1:=Nat.le_of_ble_eq_true hle.1;have l2:=Nat.le_of_ble_eq_true hle.2;rw[e1]at h1;rw[e2]at h2;simp only[AT.ok]at h1 h2;refine⟨.int .i64 ((a-b:Nat):Int),H,?_,by simp only[AT.ok],GS.refl hT⟩;rw[C5,h1,h2,RC,wrap_i64 om om,show((a:Int)-(b:Int))=((a-b:Nat):Int)by omega];rfl
  all_goals
   split at ha<;>try(cases ha;done)
   rename_i a b e1 e2;cases ha;rw[e1]at h1;rw[e2]at h2;have g1:∃i:Int,x.ev ts=.int .i64 i:=by cases a with|none=>simpa only[AT.ok]using h1|some k=>exact⟨_,by simpa only[AT.ok]using h1⟩
   have g2:∃i:Int,y.ev ts=.int .i64 i:=by cases b with|none=>simpa only[AT.ok]using h2|some k=>exact⟨_,by simpa only[AT.ok]using h2⟩
   obtain⟨i,g1⟩:=g1;obtain⟨j,g2⟩:=g2
   first
    |exact⟨.bool (decide (i=j)),H,by rw[C5,g1,g2,Rz];rfl,by simp only[AT.ok];exact⟨_,rfl⟩,GS.refl hT⟩
    |exact⟨.bool (decide (i<=j)),H,by rw[C5,g1,g2,RA];rfl,by simp only[AT.ok];exact⟨_,rfl⟩,GS.refl hT⟩
 |hO e z n zero parts=>
  match z,ha with
  |1,ha=>
  simp only[Ei]at ha;split at ha<;>try(cases ha;done)
  rename_i hc;split at ha<;>cases ha;rename_i k hp;simp only[Bool.and_eq_true]at hc;have hn:=Nat.eq_of_beq_eq_true hc.1.1.2;obtain⟨L',g1,g2,g3⟩:=SX h (L:=List.replicate zero.length []) (lim:=k) (by simp[hn]) (fun s hs=>by rw[List.eq_of_mem_replicate hs];exact Tx.nil) hp (Nat.le_refl _);rw[<-Zd hc.1.1.1]at g1;refine⟨.slice H.next 0 n (some n) 1,H.push (.row (L'.map SV.str) e true false 0),?_,⟨H.next,L',rfl,g2,g3,hT.2.1,Nat.lt_succ_self _,_,_,_,_,bd _⟩,(GS.refl hT).push _⟩;rw[WR,g1];rfl
 |_=>cases ha
def I8 (M kb:Nat) (call:cb):Prop:=∀f zs a,Jm f zs=some a->∀(vs:List SV) (H:ag),cY M H kb->vs.length=zs.length->(∀(i:Nat) (b:AT) (v:SV),zs[i]? =some b->vs[i]? =some v->b.ok M kb H v)->
 ∃v H',call f vs H=some (v,H')/\a.ok M kb H' v/\GS M kb H H'
variable {call:cb} {lf:Nat}
theorem acC (xs:List X):∀(i:Nat) (v:SV),(fi ts xs)[i]? =some v->∃x,xs[i]? =some x/\v=x.ev ts:=by
 induction xs with
 |nil=>intro i v h;simp[fi]at h
 |cons x xs ih=>
  intro i v h;cases i with
  |zero=>simp[fi]at h;exact⟨x,rfl,h.symm⟩
  |succ i=>simp[fi]at h;obtain⟨y,h1,h2⟩:=ih i v h;exact⟨y,by simpa using h1,h2⟩
theorem acE (xs:List X):(fi ts xs).length=xs.length:=by induction xs with|nil=>rfl|cons x xs ih=>simp[fi,ih]
theorem Rf (cK:I8 M kb call):∀{os:List aG} {E E':kS} {ts:T} {H:ag},cY M H kb->Fits M kb H E ts->Ej os E=some E'->EO call os ts H fun aA H'=>Fits M kb H' E' aA/\GS M kb H H'
 |[],E,E',ts,H,hT,h,ha=>by cases ha;exact D9 ⟨h,GS.refl hT⟩
 |o::os,E,E',ts,H,hT,h,ha=>by
  simp only[Ej]at ha;split at ha<;>try(cases ha;done)
  rename_i E1 h1;have step:∃d v H1 k,o=⟨some d,k,none⟩/\eu call k ts H=some (v,H1)/\Fits M kb H1 E1 (ts.set d v)/\GS M kb H H1:=by
   unfold Re at h1;split at h1
   ·rename_i d s;split at h1<;>cases h1;rename_i a hs;obtain⟨v,H1,g1,g2,g3⟩:=aar hT h hs;exact⟨d,v,H1,.op s,rfl,g1,(h.ax g3 hT.1).set g2 d,g3⟩
   ·rename_i d f xs;split at h1<;>cases h1;rename_i a hs;obtain⟨v,H1,g1,g2,g3⟩:=cK f _ a hs (fi ts xs) H hT (by simp[acE]) fun i b v hb hv=>by
     obtain⟨x,hx1,pj⟩:=acC xs i v hv;simp only[List.getElem?_map,hx1,Option.map_some,Option.some.injEq]at hb;rw[<-hb,pj];exact A8 h x
    exact⟨d,v,H1,.call f xs,rfl,g1,(h.ax g3 hT.1).set g2 d,g3⟩
   ·cases h1
  obtain⟨d,v,H1,k,rfl,g1,g2,g3⟩:=step;have hk:=Rf cK g3.2.2 g2 ha;unfold EO at hk ⊢;obtain⟨aA,H',e1,e2,e3⟩:=hk;exact⟨aA,H',by simp only[iP,bL,g1,c6];exact e1,e2,g3.trans e3⟩
def Jd (M kb:Nat) (H:ag) (r lim:Nat) (q:Option kS) (x:fa) (ts:T) (D:DS) (H':ag):Prop:=D=[]/\GS M kb H H'/\match x with
 |.normal=>∃E,q=some E/\Fits M kb H' E ts
 |.ret=>∃s,ts.getD r SV.undef=.str s/\Tx s lim
 |.exit _=>False
theorem wo (cK:I8 M kb call) {r lim:Nat}:∀{c:er} {E:kS} {q:Option kS} {ts:T} {H:ag},cY M H kb->Fits M kb H E ts->mO r lim c E=some q->EC call lf c ts [] H (Jd M kb H r lim q)
 |.skip,E,q,ts,H,hT,h,ha=>by cases ha;exact s8 ⟨rfl,GS.refl hT,E,rfl,h⟩
 |.bJ ops,E,q,ts,H,hT,h,ha=>by
  simp only[mO]at ha;split at ha<;>cases ha;rename_i E' h1;have hk:=Rf cK hT h h1;refine Ja ?_;unfold EO at hk ⊢;obtain⟨aA,H',e1,e2,e3⟩:=hk;exact⟨aA,H',e1,rfl,e3,E',rfl,e2⟩
 |.seq a b,E,q,ts,H,hT,h,ha=>by
  simp only[mO]at ha;split at ha
  ·rename_i E' h1;have hk:=wo cK hT h h1;refine mN ?_;unfold EC at hk ⊢;obtain⟨x,aA,D',H',e1,rfl,e2,e3⟩:=hk;refine⟨x,aA,[],H',e1,?_⟩;cases x with
   |normal=>
    refine ly ?_;obtain⟨E2,hE,e4⟩:=e3;cases hE;have hk:=wo cK e2.2.2 e4 ha;unfold EC at hk ⊢;obtain⟨x,t2,D2,H2,k1,k2,k3,k4⟩:=hk;exact⟨x,t2,D2,H2,k1,k2,e2.trans k3,k4⟩
   |ret=>exact Hw ⟨rfl,e2,e3⟩
   |exit id=>exact e3.elim
  ·rename_i aP;have hk:=wo cK hT h ha;refine mN ?_;unfold EC at hk ⊢;obtain⟨x,aA,D',H',e1,rfl,e2,e3⟩:=hk;refine⟨x,aA,[],H',e1,?_⟩;cases x with
   |normal=>
    obtain⟨E2,hE,e4⟩:=e3;exact absurd (ha.trans (congrArg some hE)) (aP E2)
   |ret=>exact Hw ⟨rfl,e2,e3⟩
   |exit id=>exact e3.elim
 |.cond x a b,E,q,ts,H,hT,h,ha=>by
  simp only[mO]at ha;split at ha<;>try(cases ha;done)
  rename_i hx;have hb:=A8 h x;rw[hx]at hb;obtain⟨c,hc⟩:=hb;have weak:∀{q':Option kS} {y aA D' H'},(∀E,q'=some E->q=some E)->Jd M kb H r lim q' y aA D' H'->Jd M kb H r lim q y aA D' H':=by
   rintro q' y aA D' H' hq ⟨h1,h2,h3⟩;refine⟨h1,h2,?_⟩;cases y with
   |normal=>obtain⟨E,h4,h5⟩:=h3;exact⟨E,hq E h4,h5⟩
   |_=>exact h3
  cases h1:mO r lim a E with
  |none=>rw[h1]at ha;cases ha
  |some q1=>
   cases h2:mO r lim b E with
   |none=>rw[h1,h2]at ha;cases q1<;>cases ha
   |some q2=>
    rw[h1,h2]at ha;have hq:(∀E,q1=some E->q=some E)/\∀E,q2=some E->q=some E:=by
     cases q1 with
     |none=>cases ha;exact⟨fun E e=>(by cases e),fun E e=>e⟩
     |some E1=>
      cases q2 with
      |none=>cases ha;exact⟨fun E e=>e,fun E e=>(by cases e)⟩
      |some E2=>cases ha
    refine D6 hc (fun _=>?_) (fun _=>?_)
    ·have hk:=wo cK hT h h1;unfold EC at hk ⊢;obtain⟨y,aA,D',H',e1,e2⟩:=hk;exact⟨y,aA,D',H',e1,weak hq.1 e2⟩
    ·have hk:=wo cK hT h h2;unfold EC at hk ⊢;obtain⟨y,aA,D',H',e1,e2⟩:=hk;exact⟨y,aA,D',H',e1,weak hq.2 e2⟩
 |.block id b,E,q,ts,H,hT,h,ha=>by
  have hk:=wo cK hT h (show mO r lim b E=some q from ha);refine A1 ?_;unfold EC at hk ⊢;obtain⟨y,aA,D',H',e1,e2,e3,e4⟩:=hk;refine⟨y,aA,D',H',e1,?_⟩;cases y with
  |normal=>exact Et ⟨e2,e3,e4⟩
  |ret=>exact JC ⟨e2,e3,e4⟩
  |exit id=>exact e4.elim
 |.ret,E,q,ts,H,hT,h,ha=>by
  simp only[mO]at ha;split at ha<;>try(cases ha;done)
  rename_i n hn;split at ha<;>cases ha;rename_i hle;have hb:=A8 h (.t r);rw[show aX E (.t r)=.str n from hn]at hb;obtain⟨s,h1,h2⟩:=hb;exact Jb ⟨rfl,GS.refl hT,s,h1,h2.le (Nat.le_of_ble_eq_true hle)⟩
 |.hX _ _,_,_,_,_,_,_,ha=>(by cases ha)
 |.loop _,_,_,_,_,_,_,ha=>(by cases ha)
 |.exit _,_,_,_,_,_,_,ha=>(by cases ha)
 |.bad,_,_,_,_,_,_,ha=>(by cases ha)
 |.vQ _ _ _,_,_,_,_,_,_,ha=>(by cases ha)
end
end
section
theorem alb:ak 62=some (.code AW.1):=by kernel_rfl
section
variable {lf n:Nat} {H:ag}
theorem Y7:∀s∈Ii,Tx s 3:=by unfold Tx;decide
theorem ai2 {M kb:Nat} (hT:cY M H kb) (hn:4<=n):∃s H',aj ak lf n 62 [.ptr kb 0,.int .i64 ((0:Nat):Int)] H=some (.str s,H')/\Tx s (3)/\GS M kb H H':=by
 obtain⟨n,rfl⟩:=aN (n:=n);have key:∃v H',aj ak lf (n+1) 62 [.ptr kb 0,.int .i64 ((0:Nat):Int)] H=some (v,H')/\∃s,v=.str s/\Tx s (3)/\GS M kb H H':=by
  obtain⟨s,H1,hc,hs,hg⟩:=Y8 (lf:=lf) (n:=n) hT om;have d0:decide (((0:Nat):Int)<=((0:Nat):Int))=true:=by decide
  refine cx AW.1 ?_;refine af @d0 ?_;refine ar @d0 ?_;refine af ae ?_;refine ai ae hc ?_;refine af ae ?_;refine aO ae ?_;exact(⟨s,rfl,Y7 s hs,hg⟩)
 obtain⟨v,H',h,s,rfl,h1,h2⟩:=key;exact⟨s,H',h,h1,h2⟩
theorem abt {M kb:Nat} (hn:4<=n):I8 M kb (aj ak lf n):=by
 intro f zs a ha vs H hT hlen cZ;unfold Jm at ha;split at ha
 ·split at ha<;>cases ha;rename_i m len hb;simp only[Bool.and_eq_true]at hb
  match vs,hlen with
  |[v0,v1],_=>
   have h0:=cZ 0 _ v0 rfl rfl;have h1:=cZ 1 _ v1 rfl rfl;simp only[AT.ok]at h0 h1;obtain⟨b,L,h1,hL,hs,hM,hlt,e,ex,ro,frz,hg⟩:=h1;subst h0 h1 hL;obtain⟨s,H',hc,cX,aD⟩:=NW (lf:=lf) (n:=n) hT (c:=some L.length) hg (by have:=hT.1;omega) (Nat.le_of_ble_eq_true hb.1) (Nat.le_of_ble_eq_true hb.2) om;exact⟨.str s,H',hc,by simp only[AT.ok];exact⟨s,rfl,hs s cX⟩,aD.gs (GS.refl hT)⟩
 ·cases ha
  match vs,hlen with
  |[v0],_=>
   have h0:=cZ 0 _ v0 rfl rfl;simp only[AT.ok]at h0;subst h0;obtain⟨s,H',hc,hs,hg⟩:=Y8 (lf:=lf) (n:=n) hT om;exact⟨.str s,H',hc,by simp only[AT.ok];exact⟨s,rfl,Y7 s hs⟩,hg⟩
 ·split at ha<;>cases ha;rename_i m x hb;simp only[Bool.and_eq_true]at hb;have l1:=Nat.le_of_ble_eq_true hb.1;have l2:=Nat.le_of_ble_eq_true hb.2
  match vs,hlen with
  |[v0,v1],_=>
   have h0:=cZ 0 _ v0 rfl rfl;have h1:=cZ 1 _ v1 rfl rfl;simp only[AT.ok]at h0 h1;subst h0 h1;obtain⟨r,H',hc,vo,fc,aD⟩:=kO (lf:=lf) (n:=n) hT (m:=((m:Nat):Int)) om om om;exact⟨.int .i64 r,H',hc,by simp only[AT.ok];exact⟨r,rfl⟩,aD.gs (GS.refl hT)⟩
 ·cases ha
  match vs,hlen with
  |[v0,v1],_=>
   have h0:=cZ 0 _ v0 rfl rfl;have h1:=cZ 1 _ v1 rfl rfl;simp only[AT.ok]at h0 h1;subst h0 h1;obtain⟨s,H',hc,hs,hg⟩:=ai2 (lf:=lf) (n:=n) hT om;exact⟨.str s,H',hc,by simp only[AT.ok];exact⟨s,rfl,hs⟩,hg⟩
 ·cases ha
def yl (zs:List AT) (n:Nat):kS:=zs++List.replicate (n-zs.length) .top
def VM (r:Option (Option kS)):Bool:=match r with
 |some none=>true
 |_=>false
theorem ai3 {M kb:Nat} (hT:cY M H kb) (hn:5<=n):∃s H',aj ak lf n 62 [.ptr kb 0,.int .i64 ((1:Nat):Int)] H=some (.str s,H')/\Tx s (60)/\GS M kb H H':=by
 obtain⟨n,rfl⟩:=aN (n:=n);have key:∃v H',aj ak lf (n+1) 62 [.ptr kb 0,.int .i64 ((1:Nat):Int)] H=some (v,H')/\∃s,v=.str s/\Tx s (60)/\GS M kb H H':=by
  have hq:∃q,mO 4 60 AW.1.body (yl [.tape,.num (some 1)] 238)=some q/\q=none:=by
   have h:VM (mO 4 60 AW.1.body (yl [.tape,.num (some 1)] 238))=true:=by kernel_rfl
   unfold VM at h;split at h
   ·rename_i e;exact⟨_,e,rfl⟩
   ·cases h
  obtain⟨q,hq,rfl⟩:=hq;have hF:Fits M kb H (yl [.tape,.num (some 1)] 238) ([.ptr kb 0,.int .i64 ((1:Nat):Int)]++List.replicate (238-2) SV.undef):=by
   refine⟨by simp[yl],fun i a v h1 h2=>?_⟩
   match i with
   |0=>simp[yl]at h1 h2;subst h1 h2;simp only[AT.ok]
   |1=>simp[yl]at h1 h2;subst h1 h2;simp only[AT.ok];rfl
   |i+2=>
    have:a=.top:=by
     simp only[yl,List.cons_append,List.nil_append,List.getElem?_cons_succ,List.getElem?_replicate]at h1;split at h1
     ·cases h1;rfl
     ·cases h1
    subst this;simp only[AT.ok]
  have hk:=wo (lf:=lf) (abt (lf:=lf) (n:=n) (M:=M) (kb:=kb) om) hT hF hq;refine Ew alb (ts:=[.ptr kb 0,.int .i64 ((1:Nat):Int)]++List.replicate (238-2) SV.undef) rfl ?_;unfold EC at hk ⊢;obtain⟨x,aA,D',H',e1,rfl,e2,e3⟩:=hk;refine⟨x,aA,[],H',e1,?_⟩;cases x with
  |normal=>obtain⟨E,h,_⟩:=e3;cases h
  |exit id=>exact e3.elim
  |ret=>
   obtain⟨s,h1,h2⟩:=e3;refine gQ (Ol _ _ (Xn 4)) ⟨s,h1,h2,e2⟩
 obtain⟨v,H',h,s,rfl,h1,h2⟩:=key;exact⟨s,H',h,h1,h2⟩
@[reducible] def ZY (M kb:Nat) (H0:ag) (m:Nat) (ts:T) (D:DS) (H':ag):Prop:=
  D=[]/\GS M kb H0 H'/\∃(k:Nat) (s:List Nat),m=4-k/\k<=3/\Tx s (10+60*k)/\∃z:Nat->SV,ts=((.ptr kb 0)::(.int .i64 ((1:Nat):Int))::zz z 2 3 ((.str s)::(.int .i64 (k:Int))::zz z 7 15 []):T)/\(True)
theorem Gz {M kb:Nat} (hT:cY M H kb) (hn:6<=n) (aC:5<lf):∃s H',aj ak lf n 34 [.ptr kb 0,.int .i64 ((1:Nat):Int)] H=some (.str s,H')/\Tx s (190)/\GS M kb H H':=by
 obtain⟨n,rfl⟩:=aN (n:=n);have key:∃v H',aj ak lf (n+1) 34 [.ptr kb 0,.int .i64 ((1:Nat):Int)] H=some (v,H')/\∃s,v=.str s/\Tx s (190)/\GS M kb H H':=by
  obtain⟨s,H1,hc,hs,hg,_⟩:=rL (lf:=lf) (n:=n) hT 14 (L:=[[],[],[],[42,32],[42,42,32],[35,32],[42,35,32],[32],[123,124],[124],[124,45],[33],[124,125],[45,45,45,45]]) rfl rfl (by decide) (by decide) om;have bE:Tx s 10:=(show∀s∈[[],[],[],[42,32],[42,42,32],[35,32],[42,35,32],[32],[123,124],[124],[124,45],[33],[124,125],[45,45,45,45]],Tx s (10)by unfold Tx;decide) s hs;refine cx Qi.1 ?_;refine af ae ?_;refine ai ae hc ?_;refine af ae ?_;refine bH (I:=ZY M kb H) ?_ 4 ?_ om
  ·rintro m ts D H' ⟨rfl,hg,k,s,rfl,hk,bE,⟨z,rfl, -⟩⟩;obtain⟨r,H2,hc,vo,fc,aD⟩:=kO (lf:=lf) (n:=n) hg.2.2 (m:=((3:Nat):Int)) om om om;refine af ae ?_;refine ai ae hc ?_;refine af ae ?_;refine cst ae (fun hc=>?_) (fun hc=>?_)<;>try simp only[decide_eq_true_eq,decide_eq_false_iff_not,not_true_eq_false,not_false_eq_true,Int.not_lt,Int.not_le,ge_iff_le,gt_iff_lt]at hc
   ·refine af ae ?_;obtain⟨p,H3,bf,hp,dA⟩:=ai3 (lf:=lf) (n:=n) aD.2.2 om;refine ai ae bf ?_;have gg:k<3:=om;have hw:IntKind.wrap .i64 ((k:Int)+((1:Nat):Int))=((k+1:Nat):Int):=by rw[wrap_i64 om om];omega
    have gb:bX .add (.str s) (.str p)=some (.str (s++p)):=bE.oH hp om;refine af (An @gb @hw) ?_;refine aT (4-(k+1)) om ⟨rfl,(aD.gs hg).trans dA,k+1,s++p,rfl,by omega,(bE.app hp).le om,aw⟩
   ·refine af ae ?_;refine aO ae ?_;exact(⟨s,rfl,bE.le om,aD.gs hg⟩)
  ·exact⟨rfl,hg,0,s,rfl,by omega,bE,aw⟩
 obtain⟨v,H',h,s,rfl,h1,h2⟩:=key;exact⟨s,H',h,h1,h2⟩
end
end
section
def Ub:List (List Nat):=[[],[],[],[],[35,82,69,68,73,82,69,67,84,32,91,91,66,93,93,10],[35,82,69,68,73,82,69,67,84,32,91,91,58,84,101,109,112,108,97,116,101,58,84,93,93,32,120]]
def Kw:List (List Nat):=[[61],[61,61],[61,61],[61,61,61]]
def OE:List (List Nat):=[[32,115,32],[32,116,32],[97,32,98],[32,115,32]]
theorem AJ:Tx [10] 1:=by unfold Tx;decide
theorem aej:∀s∈Ub,Tx s (30):=by unfold Tx;decide
theorem SN:∀s∈Kw,Tx s (3):=by unfold Tx;decide
theorem XW:∀s∈OE,Tx s (3):=by unfold Tx;decide
section
variable {lf n:Nat} {H:ag}
@[reducible] def ZH (M kb:Nat) (H0:ag) (r:Nat) (m:Nat) (ts:T) (D:DS) (H':ag):Prop:=
  D=[]/\GS M kb H0 H'/\∃(k:Nat) (s:List Nat),m=6-k/\k<=r+1/\Tx s (30+220*k)/\∃z:Nat->SV,ts=((.ptr kb 0)::(.int .i64 ((1:Nat):Int))::zz z 2 3 ((.str s)::(.int .i64 (r:Int))::(.int .i64 (k:Int))::zz z 8 37 []):T)/\(True)
theorem YJ {M kb:Nat} (hT:cY M H kb) (hn:7<=n) (aC:7<lf):∃s H',aj ak lf n 11 [.ptr kb 0,.int .i64 ((1:Nat):Int)] H=some (.str s,H')/\Tx s (2000)/\GS M kb H H':=by
 obtain⟨n,rfl⟩:=aN (n:=n);have key:∃v H',aj ak lf (n+1) 11 [.ptr kb 0,.int .i64 ((1:Nat):Int)] H=some (v,H')/\∃s,v=.str s/\Tx s (2000)/\GS M kb H H':=by
  obtain⟨s,H1,hc,hs,hg,_⟩:=rL (lf:=lf) (n:=n) hT 6 (L:=Ub) rfl rfl (by decide) (by decide) om;have bE:=aej s hs;obtain⟨r,H2,aH,vo,fc,aD⟩:=kO (lf:=lf) (n:=n) hg.2.2 (m:=((5:Nat):Int)) om om om;obtain⟨r,rfl⟩:∃k:Nat,r=(k:Int):=⟨r.toNat,by omega⟩;have bB:=aD.gs hg;refine cx Po.1 ?_;refine af ae ?_;refine ai ae hc ?_;refine af ae ?_;refine ai ae aH ?_;refine af ae ?_;refine bH (I:=ZH M kb H r) ?_ 6 ?_ om
  ·rintro m ts D H' ⟨rfl,hg,k,s,rfl,hk,bE,⟨z,rfl, -⟩⟩;have hw:IntKind.wrap .i64 ((k:Int)+((1:Nat):Int))=((k+1:Nat):Int):=by rw[wrap_i64 om om];omega
   refine af ae ?_;refine cst ae (fun hc=>?_) (fun hc=>?_)<;>try simp only[decide_eq_true_eq,decide_eq_false_iff_not,not_true_eq_false,not_false_eq_true,Int.not_lt,Int.not_le,ge_iff_le,gt_iff_lt]at hc
   ·have Ur:k<=r:=om;refine af ae ?_;refine cst ae (fun hc=>?_) (fun hc=>?_)<;>try simp only[decide_eq_true_eq,decide_eq_false_iff_not,not_true_eq_false,not_false_eq_true,Int.not_lt,Int.not_le,ge_iff_le,gt_iff_lt]at hc
    ·have ha:=bE.oH AJ om;have fP:=bE.app AJ;generalize s++[10]=s1 at ha fP;refine af @ha ?_;obtain⟨q,H2,aH,xD,rk,fI⟩:=kO (lf:=lf) (n:=n) hg.2.2 (m:=((4:Nat):Int)) om om om;have bB:=fI.gs hg;refine ai ae aH ?_;refine af ae ?_;refine cst ae (fun hc=>?_) (fun hc=>?_)<;>try simp only[decide_eq_true_eq,decide_eq_false_iff_not,not_true_eq_false,not_false_eq_true,Int.not_lt,Int.not_le,ge_iff_le,gt_iff_lt]at hc
     ·refine af ae ?_;obtain⟨e,H3,bf,he,dA,_⟩:=rL (lf:=lf) (n:=n) bB.2.2 4 (L:=Kw) rfl rfl (by decide) (by decide) om;refine ai ae bf ?_;have jv:=SN e he;have a1:=fP.oH jv om;have l1:=fP.app jv;generalize s1++e=s2 at a1 l1;refine af @a1 ?_;obtain⟨w,H4,fx,CJ,ji,_⟩:=rL (lf:=lf) (n:=n) (bB.trans dA).2.2 4 (L:=OE) rfl rfl (by decide) (by decide) om;refine ai ae fx ?_;have oh:=XW w CJ;have a2:=l1.oH oh om;have l2:=l1.app oh;generalize s2++w=s3 at a2 l2;have a3:=l2.oH jv om;have l3:=l2.app jv;generalize s3++e=s4 at a3 l3;have a4:=l3.oH AJ om;have l4:=l3.app AJ;generalize s4++[10]=s5 at a4 l4;have ie:=(bB.trans dA).trans ji;refine af (An @a2 (An @a3 @a4)) ?_;obtain⟨p,H5,eP,hp,dw⟩:=Gz (lf:=lf) (n:=n) ie.2.2 om om;refine ai ae eP ?_;have gb:=l4.oH hp om;refine af (An @gb @hw) ?_;refine aT (6-(k+1)) om ⟨rfl,ie.trans dw,k+1,s5++p,rfl,by omega,(l4.app hp).le om,aw⟩
     ·refine af ae ?_;obtain⟨p,H5,eP,hp,dw⟩:=Gz (lf:=lf) (n:=n) bB.2.2 om om;refine ai ae eP ?_;have gb:=fP.oH hp om;refine af (An @gb @hw) ?_;refine aT (6-(k+1)) om ⟨rfl,bB.trans dw,k+1,s1++p,rfl,by omega,(fP.app hp).le om,aw⟩
    ·refine af ae ?_;obtain⟨q,H2,aH,xD,rk,fI⟩:=kO (lf:=lf) (n:=n) hg.2.2 (m:=((4:Nat):Int)) om om om;have bB:=fI.gs hg;refine ai ae aH ?_;refine af ae ?_;refine cst ae (fun hc=>?_) (fun hc=>?_)<;>try simp only[decide_eq_true_eq,decide_eq_false_iff_not,not_true_eq_false,not_false_eq_true,Int.not_lt,Int.not_le,ge_iff_le,gt_iff_lt]at hc
     ·refine af ae ?_;obtain⟨e,H3,bf,he,dA,_⟩:=rL (lf:=lf) (n:=n) bB.2.2 4 (L:=Kw) rfl rfl (by decide) (by decide) om;refine ai ae bf ?_;have jv:=SN e he;have a1:=bE.oH jv om;have l1:=bE.app jv;generalize s++e=s2 at a1 l1;refine af @a1 ?_;obtain⟨w,H4,fx,CJ,ji,_⟩:=rL (lf:=lf) (n:=n) (bB.trans dA).2.2 4 (L:=OE) rfl rfl (by decide) (by decide) om;refine ai ae fx ?_;have oh:=XW w CJ;have a2:=l1.oH oh om;have l2:=l1.app oh;generalize s2++w=s3 at a2 l2;have a3:=l2.oH jv om;have l3:=l2.app jv;generalize s3++e=s4 at a3 l3;have a4:=l3.oH AJ om;have l4:=l3.app AJ;generalize s4++[10]=s5 at a4 l4;have ie:=(bB.trans dA).trans ji;refine af (An @a2 (An @a3 @a4)) ?_;obtain⟨p,H5,eP,hp,dw⟩:=Gz (lf:=lf) (n:=n) ie.2.2 om om;refine ai ae eP ?_;have gb:=l4.oH hp om;refine af (An @gb @hw) ?_;refine aT (6-(k+1)) om ⟨rfl,ie.trans dw,k+1,s5++p,rfl,by omega,(l4.app hp).le om,aw⟩
     ·refine af ae ?_;obtain⟨p,H5,eP,hp,dw⟩:=Gz (lf:=lf) (n:=n) bB.2.2 om om;refine ai ae eP ?_;have gb:=bE.oH hp om;refine af (An @gb @hw) ?_;refine aT (6-(k+1)) om ⟨rfl,bB.trans dw,k+1,s++p,rfl,by omega,(bE.app hp).le om,aw⟩
   ·refine af ae ?_;refine aO ae ?_;exact(⟨s,rfl,bE.le om,hg⟩)
  ·exact⟨rfl,bB,0,s,rfl,by omega,bE,aw⟩
 obtain⟨v,H',h,s,rfl,h1,h2⟩:=key;exact⟨s,H',h,h1,h2⟩
end
end
end Go.Sh
