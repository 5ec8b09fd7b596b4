/-
  Rules on choices and numbers of the generator are proved. No conditions beyond those that stand in the theorems.
-/
import Derived.Test.YtfgpklidnkdahaaGreatDoorShB6
import Derived.Test.YtfgpklidnkdahaaGreatDoorShB5
set_option linter.all false
set_option maxHeartbeats 20000000
set_option maxRecDepth 10000
namespace Go.Sh
section
def Ext (H H':ag):Prop:=H.next<=H'.next/\∀b,b<H.next->H'.get b=H.get b
theorem Ext.refl (H:ag):Ext H H:=⟨Nat.le_refl _,fun _ _=>rfl⟩
theorem Ext.trans {H1 H2 H3:ag} (h:Ext H1 H2) (k:Ext H2 H3):Ext H1 H3:=⟨Nat.le_trans h.1 k.1,fun b hb=>(k.2 b (Nat.lt_of_lt_of_le hb h.1)).trans (h.2 b hb)⟩
theorem Ext.push {H1 H2:ag} (h:Ext H1 H2) (o:cz):Ext H1 (H2.push o):=⟨by rw[dZ];have:=h.1;omega,fun b hb=>by rw[cU (by have:=h.1;omega)];exact h.2 b hb⟩
theorem Ext.put {H1 H2:ag} (h:Ext H1 H2) {b:Nat} (hb:H1.next<=b) (o:cz):Ext H1 (H2.put b o):=⟨h.1,fun c hc=>by rw[cI om];exact h.2 c hc⟩
section
variable {ts:T} {H:ag}
def Nc (n z:Nat) (v i:SV):Option SV:=match v,i with
 |.ptr b o,.int _ (.ofNat k)=>match Nat.blt k n with
  |true=>some (.ptr b (o+k*z))
  |false=>none
 |_,_=>none
theorem aiu (n z:Nat) (x i:X):evalOp (.xM n z x i) ts H=fp (Nc n z (x.ev ts) (i.ev ts)) H:=by
 simp only[evalOp];generalize x.ev ts=v;generalize i.ev ts=u;cases v with
 |ptr b o=>
  cases u with
  |int k m=>
   cases m with
   |ofNat m=>simp only[Nc];generalize Nat.blt m n=p;cases p<;>rfl
   |negSucc m=>rfl
  |_=>rfl
 |_=>rfl
theorem afG {n z b o:Nat} {kk:IntKind} {i:Int} (hi:0<=i) (h:i<n):Nc n z (.ptr b o) (.int kk i)=some (.ptr b (o+i.toNat*z)):=by
 obtain⟨k,rfl,hk⟩:=toNat_of hi;rw[hk];show(match Nat.blt k n with|true=>some (SV.ptr b (o+k*z))|false=>none)=_;rw[qB om]
def OK (lo hi:Option Nat) (v:SV):Option SV:=match v,lo,hi with
 |.str s,some l,some h=>some (.str ((s.drop l).take (h-l)))
 |_,_,_=>none
def GA (ts:T) (lo:Option X) (h:Option Nat):Option Nat:=match h with
 |some h=>eY ts lo 0 h
 |none=>none
def B9 (ts:T) (hi:Option X) (v:SV):Option Nat:=match v with
 |.str s=>eY ts hi s.length s.length
 |_=>none
theorem aiJ (lo hi:Option X) (x:X):evalOp (.yj lo hi x) ts H=fp (OK (GA ts lo (B9 ts hi (x.ev ts))) (B9 ts hi (x.ev ts)) (x.ev ts)) H:=by
 simp only[evalOp,B9,GA,OK];generalize x.ev ts=v;cases v with
 |str s=>
  dsimp only;cases eY ts hi s.length s.length with
  |none=>rfl
  |some h=>dsimp only;cases eY ts lo 0 h<;>rfl
 |_=>rfl
theorem aew (s:List Nat):B9 ts none (.str s)=some s.length:=rfl
theorem aex (s:List Nat) (x:X):B9 ts (some x) (.str s)=idx (x.ev ts) s.length:=rfl
theorem agO (h:Nat):GA ts none (some h)=some 0:=rfl
theorem agP (h:Nat) (x:X):GA ts (some x) (some h)=idx (x.ev ts) h:=rfl
theorem CR {k:IntKind} {n:Int} {lim:Nat} (hn:0<=n) (h:n<=lim):idx (.int k n) lim=some n.toNat:=by
 obtain⟨m,rfl,hm⟩:=toNat_of hn;rw[hm];show(match Nat.ble m lim with|true=>some m|false=>none)=_;rw[dN om]
theorem aku (s:List Nat) (l h:Nat):OK (some l) (some h) (.str s)=some (.str ((s.drop l).take (h-l))):=rfl
def Zb (x c:SV):Option SV:=match x,c with
 |.str l,.int .u8 n=>some (.int .i64 (pk l (n.toNat%256) 0))
 |_,_=>none
theorem aiS (x c:X):evalOp (.AY x c) ts H=fp (Zb (x.ev ts) (c.ev ts)) H:=by
 simp only[evalOp];generalize x.ev ts=v;generalize c.ev ts=u;cases v with
 |str l=>cases u with
  |int k n=>cases k<;>rfl
  |_=>rfl
 |_=>rfl
theorem anQ (l:List Nat) (n:Int):Zb (.str l) (.int .u8 n)=some (.int .i64 (pk l (n.toNat%256) 0)):=rfl
theorem nE {cs:List SV} {e:TypeId} {ex ro:Bool} {frz p:Nat} {v:SV} (h:cs[p]? =some v):aq (some (.row cs e ex ro frz)) p 1=some [v]:=by
 have hlt:p<cs.length:=(List.getElem?_eq_some_iff.1 h).1;rw[jl om];have:=(List.getElem?_eq_some_iff.1 h).2;rw[List.drop_eq_getElem_cons hlt,this];rfl
theorem ajp (t:Nat) (agg:Bool) (n:Nat):iI ts H (.cell t agg n)=CW agg n (ts.getD t SV.undef) H:=by
 simp only[iI,CW,Ak];generalize ts.getD t SV.undef=v;cases v with
 |ptr b o=>
  dsimp only;cases eK H b o n with
  |none=>rfl
  |some cs=>
   cases agg
   ·match cs with
    |[]=>rfl
    |[v]=>rfl
    |_::_::_=>rfl
   ·rfl
 |_=>rfl
end
attribute [go_sem] ajp aiu afG aiJ aew aex agO agP CR aku aiS anQ
def dq (z:Nat) (L:List (List SV)):Prop:=∀x∈L,x.length=z
theorem l9 {z:Nat}:∀{L:List (List SV)},dq z L->L.flatten.length=L.length*z
 |[],_=>by simp
 |x::L,h=>by
  rw[List.flatten_cons,List.length_append,l9 (fun y hy=>h y (List.mem_cons_of_mem _ hy)),h x (List.mem_cons_self ..),List.length_cons,Nat.add_mul,Nat.one_mul,Nat.add_comm]
theorem EU {z:Nat}:∀{L:List (List SV)} {i:Nat} {x:List SV},dq z L->L[i]? =some x->(L.flatten.drop (i*z)).take z=x
 |y::L,0,x,h,e=>by
  simp at e;subst e;have:=h y (List.mem_cons_self ..);simp[<-this]
 |y::L,i+1,x,h,e=>by
  have hy:=h y (List.mem_cons_self ..);rw[List.flatten_cons,Nat.add_mul,Nat.one_mul,Nat.add_comm,<-hy,List.drop_append,List.drop_of_length_le om,Nat.add_sub_cancel_left,List.nil_append,hy];exact EU (fun w hw=>h w (List.mem_cons_of_mem _ hw)) (by simpa using e)
theorem Oq {z i:Nat} {L:List (List SV)} {x:List SV} {e:TypeId} {ex ro:Bool} {frz:Nat} (h:dq z L) (hi:L[i]? =some x):aq (some (.row L.flatten e ex ro frz)) (i*z) z=some x:=by
 have hlt:i<L.length:=(List.getElem?_eq_some_iff.1 hi).1;rw[jl,EU h hi];rw[l9 h];have:(i+1)*z<=L.length*z:=Nat.mul_le_mul_right z hlt;rw[Nat.add_mul,Nat.one_mul]at this;exact this
def Sl (B0:Nat) (e z:Nat) (H:ag) (v:SV) (L:List (List SV)):Prop:=
 (L=[]/\v=.ao)\/(L≠[]/\∃b,B0<=b/\b<H.next/\v=.slice b 0 L.length none z/\H.get b=some (.row L.flatten e false false 0))
theorem HM {H:ag} {b z:Nat} {x:List SV} {e:TypeId} {ex ro:Bool} {frz:Nat} {c:Option Nat} (hx:x.length=z) (hb:H.get b=some (.row x e ex ro frz)):lT H false z (.slice b 0 1 c z)=some (1,x):=by
 show(match Nat.beq z z with|true=>(match eK H b 0 (1*z)with|some cs=>some (1,cs)|none=>none)|false=>none)=_;rw[l0,ot,hb,jl om];simp[<-hx]
theorem Rr {H:ag} {B0 e z bytes:Nat} {v:SV} {L:List (List SV)} {x:List SV} {b':Nat} {e':TypeId} {ex ro:Bool} {frz:Nat} {c:Option Nat}
 (hS:Sl B0 e z H v L) (hL:dq z L) (hx:x.length=z) (bV:x.all SV.one=true) (dP:H.get b'=some (.row x e' ex ro frz)) (hB:B0<=H.next)
 (h1:(L.length+1)*bytes<=35184372088832) (h2:L.length+1<=35184372088832):
 ∃v' H',gP H false e z bytes v (.slice b' 0 1 c z)=some (v',H')/\Sl B0 e z H' v' (L++[x])/\H'.next=H.next+1/\(∀k,k<B0->H'.get k=H.get k):=by
 have ew:=HM (c:=c) hx dP;rcases hS with⟨rfl,rfl⟩|⟨aP,b,gT,bU,rfl,bj⟩
 ·refine⟨.slice H.next 0 1 none z,H.push (.row x e false false 0),?_,?_,rfl,fun k hk=>cU om⟩
  ·simp only[gP,ew,dR];rw[dN (by simpa using h1),dN om];rfl
  ·exact .inr ⟨by simp,H.next,hB,Nat.lt_succ_self _,rfl,by rw[bd];simp⟩
 ·have hlen:=l9 hL;have kJ:eK H b 0 (L.length*z)=some L.flatten:=by
   rw[ot,bj,jl om,List.drop_zero,<-hlen,List.take_length]
  refine⟨.slice H.next 0 (L.length+1) none z,(H.put b .dead).push (.row (L.flatten++x) e false false 0),?_,?_,rfl,fun k hk=>?_⟩
  ·simp only[gP,ew,dR,l0,dN h1,dN h2,kJ,bj,bV,Bool.and_self];rw[dN (Nat.zero_le _)];rfl
  ·refine .inr ⟨by simp,H.next,hB,Nat.lt_succ_self _,by simp,?_⟩;have:(H.put b .dead).next=H.next:=rfl
   rw[<-this,bd];simp
  ·rw[cU (by rw[ea];omega),cI om]
def fu (H:ag) (str:Bool) (elem:TypeId) (z bytes:Nat) (s x:SV):Option (SV×ag):=gP H str elem z bytes s x
theorem WQ {ts:T} {H:ag} (str:Bool) (elem:TypeId) (z bytes:Nat) (s x:X):evalOp (.app str elem z bytes s x) ts H=fu H str elem z bytes (s.ev ts) (x.ev ts):=rfl
theorem Sl.cA {B0 e z:Nat} {H:ag} {v:SV} {L:List (List SV)} (h:Sl B0 e z H v L):kn v=some (.int .i64 (L.length:Int)):=by
 rcases h with⟨rfl,rfl⟩|⟨_,b,_,_,rfl,_⟩<;>rfl
theorem Sl.ax {B0 e z:Nat} {H H':ag} {v:SV} {L:List (List SV)} (h:Sl B0 e z H v L) (hE:Ext H H'):Sl B0 e z H' v L:=by
 rcases h with h|⟨aP,b,h1,h2,h3,h4⟩
 ·exact .inl h
 ·exact .inr ⟨aP,b,h1,Nat.lt_of_lt_of_le h2 hE.1,h3,by rw[hE.2 b h2];exact h4⟩
attribute [go_sem] WQ
section
variable {ts:T} {H:ag}
def kq (z:Nat) (lo hi:Option SV) (v:SV):Option SV:=match v with
 |.ao=>match(match hi with|none=>some 0|some x=>idx x 0),(match lo with|none=>some 0|some x=>idx x 0)with
  |some _,some _=>some .ao
  |_,_=>none
 |.slice b o n cap z'=>match Nat.beq z z' with
  |false=>none
  |true=>match(match hi with|none=>some n|some x=>idx x (ln cap n))with
   |some h=>match(match lo with|none=>some 0|some x=>idx x h)with
    |some l=>some (iX b o z l h cap)
    |none=>none
   |none=>none
 |_=>none
theorem NZ (z:Nat) (lo hi:Option X) (x:X):evalOp (.lS z lo hi none x) ts H=fp (kq z (lo.map (X.ev ts)) (hi.map (X.ev ts)) (x.ev ts)) H:=by
 simp only[evalOp];cases x.ev ts with
 |ao=>cases lo<;>cases hi<;>simp only[eY,kq,Option.map]<;>(repeat' split)<;>simp_all [fp]
 |slice b o n cap z'=>
  simp only[kq,vJ];cases Nat.beq z z' with
  |false=>rfl
  |true=>
   cases hi with
   |none=>
    cases lo with
    |none=>rfl
    |some l=>
     simp only[eY,Option.map];cases idx (l.ev ts) n<;>rfl
   |some h=>
    simp only[eY,Option.map];cases idx (h.ev ts) (ln cap n)with
    |none=>rfl
    |some h'=>
     cases lo with
     |none=>rfl
     |some l=>
      dsimp only;cases idx (l.ev ts) h'<;>rfl
 |_=>rfl
theorem Dj {z b o n:Nat} {cap:Option Nat} {k:IntKind} {h:Int} (h0:0<=h) (hh:h<=(ln cap n:Nat)):kq z none (some (.int k h)) (.slice b o n cap z)=some (iX b o z 0 h.toNat cap):=by
 simp only[kq,Nat.beq_refl,CR h0 hh]
theorem akw {z b o n:Nat} {cap:Option Nat} {k:IntKind} {l:Int} (h0:0<=l) (hh:l<=(n:Nat)):kq z (some (.int k l)) none (.slice b o n cap z)=some (iX b o z l.toNat n cap):=by
 simp only[kq,Nat.beq_refl,CR h0 hh]
end
section
variable {ts:T} {H:ag}
def V9 (agg:Bool) (L:List (Nat×Nat)) (zero:SV) (ok:Bool) (es:Option (List (SV×SV×Nat))) (k:SV):Option SV:=match es,hY agg L k k with
 |some es,some _=>match mT agg L k es 0 with
  |none=>none
  |some none=>some (if ok then .aJ [zero,.bool false]else zero)
  |some (some (_,v))=>some (if ok then .aJ [v,.bool true]else v)
 |_,_=>none
theorem aiA (agg:Bool) (L:List (Nat×Nat)) (zero:SV) (ok:Bool) (m k:X):evalOp (.rG agg L zero ok m k) ts H=fp (V9 agg L zero ok (y9 H (m.ev ts)) (k.ev ts)) H:=by
 simp only[evalOp,V9];cases y9 H (m.ev ts)with
 |none=>rfl
 |some es=>
  cases hY agg L (k.ev ts) (k.ev ts)with
  |none=>rfl
  |some b=>
   dsimp only;cases mT agg L (k.ev ts) es 0 with
   |none=>rfl
   |some r=>cases r<;>rfl
def Wp (agg:Bool) (L:List (Nat×Nat)) (H:ag) (m k v:SV):Option (SV×ag):=match m with
 |.map b=>match H.get b,hY agg L k k with
  |some (.map es clock),some _=>match mT agg L k es 0 with
   |none=>none
   |some (some (i,_))=>match es[i]? with
    |some (k',_,_)=>match Hq k' k with
     |true=>some (.undef,H.put b (.map (oA k v i es) clock))
     |false=>none
    |none=>none
   |some none=>some (.undef,H.put b (.map (es++[(k,v,clock)]) (clock+1)))
  |_,_=>none
 |_=>none
theorem aiF (agg:Bool) (L:List (Nat×Nat)) (m k v:X):evalOp (.sP agg L m k v) ts H=Wp agg L H (m.ev ts) (k.ev ts) (v.ev ts):=by
 simp only[evalOp,Wp];cases m.ev ts<;>rfl
theorem aiD:evalOp .vG ts H=some (.map H.next,H.push (.map [] 0)):=rfl
end
attribute [go_sem] aiA aiF aiD
theorem abf (t x:List Nat) (k:Int):bD (.agg [.str t,.int .i64 k,.str x]) (.agg [.str t,.int .i64 k,.str x])=true:=by simp[bD,eF,eg,gG]
theorem aa7 (t:List Nat) (k:Int):bD (.agg [.str t,.int .i64 k]) (.agg [.str t,.int .i64 k])=true:=by simp[bD,eF,eg,gG]
attribute [go_sem] abf aa7
theorem dH {call:cb} {ts aA:T} {H H':ag} {v:SV} {d:Nat} {f:FuncId} {xs:List X} {args:List SV} {dops:List (aG×DK)} {Q:List T->List SV->List ag->T->Prop} (ha:fi ts xs=args) (he:call f args H=some (v,H')) (hs:ts.set d v=aA) (h:ED call dops aA H' fun aM vs hs tn=>Q (ts::aM) (v::vs) (H::hs) tn):
 ED call ((⟨some d,.call f xs,none⟩,.cg)::dops) ts H Q:=by
 unfold ED at h ⊢;obtain⟨aM,vs,cX,tn,h1,h2⟩:=h;subst hs ha;exact⟨ts::aM,v::vs,H::cX,tn,by simp only[List.map_cons,dS,bL,eu,he,c6,h1],h2⟩
theorem QR {call:cb} {ts aA:T} {H H':ag} {v:SV} {d:Nat} {f:FuncId} {x:X} {xs:List X} {fs cs args:List SV} {os:List aG} {Q:T->ag->Prop} (hx:x.ev ts=.func f fs cs) (ha:fs++(fi ts xs++cs)=args) (he:call f args H=some (v,H')) (hs:ts.set d v=aA) (h:EO call os aA H' Q):
 EO call (⟨some d,.tj x xs,none⟩::os) ts H Q:=by
 unfold EO at h ⊢;obtain⟨t2,H2,h1,h2⟩:=h;subst hs ha;refine⟨t2,H2,?_,h2⟩;simp only[iP,bL,eu,hx,he,c6,h1]
theorem aiC {ts:T} {H:ag} (f:FuncId) (xs ys:List X):evalOp (.vF f xs ys) ts H=some (.func f (fi ts xs) (fi ts ys),H):=rfl
attribute [go_sem] aiC
def oK:List (aG×DK)->List SV->List (aG×DK)
 |(o,.hoist _ _)::os,hv::bx=>(⟨o.dst,.op (.mv (.c hv)),o.guard⟩,.pure)::oK os bx
 |p::os,_::bx=>p::oK os bx
 |l,_=>l
theorem YI {call:cb}:∀{dops:List (aG×DK)} {bx:List SV} {ts:T} {H:ag},bx.length=dops.length->dS call dops bx ts H=dS call (oK dops bx) ((oK dops bx).map fun _=>SV.undef) ts H
 |[],bx,ts,H,h=>by
  cases bx with
  |nil=>rfl
  |cons _ _=>cases h
 |(o,dk)::os,[],ts,H,h=>by cases h
 |(o,dk)::os,hv::bx,ts,H,h=>by
  have ih:=fun ts H=>YI (call:=call) (dops:=os) (bx:=bx) (ts:=ts) (H:=H) (by simpa using h)
  cases dk with
  |hoist lo hi=>
   simp only[oK,List.map_cons,dS,gC,evalOp,ih];rfl
  |_=>simp only[oK,List.map_cons,dS,ih]
def HD (dops:List (aG×DK)) (ts:T) (H:ag) (Q:List SV->ag->Prop):Prop:=∃bx H0,fC dops ts H=some (bx,H0)/\bx.length=dops.length/\Q bx H0
section
variable {call:cb} {lf:Nat} {os:List (aG×DK)} {o:aG} {dk:DK} {ts aA:T} {H H':ag} {v:SV} {Q:List SV->ag->Prop} {D:DS} {R:fa->T->DS->ag->Prop} {swap:Bool}
theorem Ef (hk:∀lo hi,dk≠ .hoist lo hi) (h:HD os (wM o dk ts H) H fun vs H'=>Q (SV.undef::vs) H'):HD ((o,dk)::os) ts H Q:=by
 obtain⟨bx,H0,h1,h2,h3⟩:=h;refine⟨SV.undef::bx,H0,?_,by simp[h2],h3⟩;cases dk with
 |hoist lo hi=>exact absurd rfl (hk lo hi)
 |_=>simp only[fC,h1]
theorem Zm {s:cJ} {lo hi d:Nat} (he:evalOp s ts H=some (v,H')) (h:HD os (ts.set d v) H' fun vs jB=>Q (v::vs) jB):HD ((⟨some d,.op s,none⟩,.hoist lo hi)::os) ts H Q:=by
 obtain⟨bx,H0,h1,h2,h3⟩:=h;refine⟨v::bx,H0,?_,by simp[h2],h3⟩;simp only[fC,he,c6,h1]
theorem Zo (hn:(os.all fun p=>match p.2 with|.hoist _ _=>false|_=>true)=true) (h:Q (os.map fun _=>SV.undef) H):HD os ts H Q:=by
 rw[List.all_eq_true]at hn;refine⟨_,_,FX fun p hp lo hi he=>?_,by simp,h⟩;have:=hn p hp;rw[he]at this;cases this
theorem wh {dops:List (aG×DK)} (h:HD dops ts H fun bx H0=>ED call (oK dops bx) ts H0 fun aM vs hs tn=>ef hs dops aM vs=true/\(swap=true->uG dops aM=true)/\∃Hn,hs.getLast?=some Hn/\R .normal tn D Hn):EC call lf (.hX dops swap) ts D H R:=by
 obtain⟨bx,H0,h1,h2,h⟩:=h;unfold ED at h;obtain⟨aM,vs,hs,tn,h3,h4,h5,Hn,h6,h7⟩:=h;unfold EC;refine⟨.normal,tn,D,Hn,?_,h7⟩;have h8:(ef hs dops aM vs&&(!swap||uG dops aM))=true:=by
  rw[h4];cases swap with
  |false=>rfl
  |true=>rw[h5 rfl];rfl
 simp only[cO,uY,h1,YI h2,h3,h8,h6]
theorem ac3 {s:cJ} {d lo hi:Nat} (he:evalOp s ts H=some (v,H')):wM ⟨some d,.op s,none⟩ (.read lo hi) ts H=ts.set d v:=by
 simp only[wM,bL,gC,he,c6]
theorem Xu {cs:List SV} {e b:Nat} (h:H.get b=some (.row cs e true false 0)) (hf:cs.all (SV.under b)=true) (hb:eg cs cs=true):nD cs e b H=true:=by
 simp only[nD,h,hf,hb,l0,Bool.and_self]
theorem ajl {hs:List ag} {d lo hi elem z n n' b z':Nat} {zero cs:List SV} {parts:List (Nat×Nat×X)} {aM:List T} {vs:List SV} {c:Option Nat} (hf:eM ts zero parts=some cs) (hr:fN (nD cs elem b) hs lo hi=true) (h:ef hs os aM vs=true):
 ef hs ((⟨some d,.op (.hO elem z n zero parts),none⟩,.hoist lo hi)::os) (ts::aM) (.slice b 0 n' c z'::vs)=true:=by
 simp only[ef,bL,hf,hr,h,Bool.and_self]
theorem ajk {hs:List ag} {d lo hi elem b:Nat} {zero:List SV} {aM:List T} {vs:List SV} (hr:fN (nD zero elem b) hs lo hi=true) (h:ef hs os aM vs=true):
 ef hs ((⟨some d,.op (.alloc zero elem),none⟩,.hoist lo hi)::os) (ts::aM) (.ptr b 0::vs)=true:=by
 simp only[ef,bL,hr,h,Bool.and_self]
end
theorem Oh (hs:List ag) (a:List T) (b:List SV):ef hs [] a b=true:=rfl
theorem sT {hs:List ag} {o:aG} {os:List (aG×DK)} {t:T} {aM:List T} {v:SV} {vs:List SV} (h:ef hs os aM vs=true):ef hs ((o,.pure)::os) (t::aM) (v::vs)=true:=by
 simp only[ef,h];cases bL t o.guard<;>rfl
theorem Of {hs:List ag} {o:aG} {os:List (aG×DK)} {t:T} {aM:List T} {v:SV} {vs:List SV} (h:ef hs os aM vs=true):ef hs ((o,.cg)::os) (t::aM) (v::vs)=true:=by
 simp only[ef,h];cases bL t o.guard<;>rfl
theorem Oi {hs:List ag} {d lo hi:Nat} {s:cJ} {os:List (aG×DK)} {t:T} {aM:List T} {v:SV} {vs:List SV} (hr:fN (fun H=>match gC (.op s) t H with|some u=>bD u v|none=>false) hs lo hi=true) (h:ef hs os aM vs=true):ef hs ((⟨some d,.op s,none⟩,.read lo hi)::os) (t::aM) (v::vs)=true:=by
 simp only[ef,bL,h,Bool.and_true];exact hr
theorem GZ {s:cJ} {t:T} {H H':ag} {v:SV} (h:evalOp s t H=some (v,H')) (hb:bD v v=true):(match gC (.op s) t H with|some u=>bD u v|none=>false)=true:=by
 simp only[gC,h,hb]
theorem ajm {hs:List ag} {d lo hi:Nat} {s:cJ} {g:Option (Nat×Bool)} {os:List (aG×DK)} {t:T} {aM:List T} {v:SV} {vs:List SV} (hr:fN (fun H=>match gC (.op s) t H with|some u=>bD u v|none=>false) hs lo hi=true) (h:ef hs os aM vs=true):ef hs ((⟨some d,.op s,g⟩,.read lo hi)::os) (t::aM) (v::vs)=true:=by
 simp only[ef,h,Bool.and_true];cases bL t g with
 |false=>rfl
 |true=>exact hr
theorem Xh {hs:List ag} {d:Option Nat} {k:SK} {g:Option (Nat×Bool)} {dk:DK} {os:List (aG×DK)} {t:T} {aM:List T} {v:SV} {vs:List SV} (hw:bL t g=false) (h:ef hs os aM vs=true):ef hs ((⟨d,k,g⟩,dk)::os) (t::aM) (v::vs)=true:=by
 simp only[ef,hw,h,Bool.and_self]
theorem Zr {os:List (aG×DK)} {s:cJ} {d lo hi:Nat} {ts:T} {H H':ag} {v:SV} {Q:List SV->ag->Prop} (he:evalOp s ts H=some (v,H')) (h:HD os (ts.set d v) H fun vs H'=>Q (SV.undef::vs) H'):HD ((⟨some d,.op s,none⟩,.read lo hi)::os) ts H Q:=
 Ef (fun _ _ h=>by cases h) (by rw[ac3 he];exact h)
theorem Zn {os:List (aG×DK)} {d n:Nat} {ts aA:T} {H:ag} {v:SV} {Q:List SV->ag->Prop} (hv:ts.getD n SV.undef=v) (hs:ts.set d v=aA) (h:HD os aA H fun vs H'=>Q (SV.undef::vs) H'):HD ((oy d n,.pure)::os) ts H Q:=
 Ef (fun _ _ h=>by cases h) (by subst hv hs;exact h)
theorem Zp {os:List (aG×DK)} {s:cJ} {d:Nat} {ts aA:T} {H H':ag} {v:SV} {Q:List SV->ag->Prop} (he:evalOp s ts H=some (v,H')) (hs:ts.set d v=aA) (h:HD os aA H fun vs H'=>Q (SV.undef::vs) H'):HD ((⟨some d,.op s,none⟩,.pure)::os) ts H Q:=
 Ef (fun _ _ h=>by cases h) (by subst hs;simp only[wM,bL,gC,he,c6];exact h)
theorem Zq {os:List (aG×DK)} {s:cJ} {d lo hi:Nat} {ts aA:T} {H H':ag} {v:SV} {Q:List SV->ag->Prop} (he:evalOp s ts H=some (v,H')) (hs:ts.set d v=aA) (h:HD os aA H fun vs H'=>Q (SV.undef::vs) H'):HD ((⟨some d,.op s,none⟩,.read lo hi)::os) ts H Q:=
 Zr he (by subst hs;exact h)
theorem Zk {os:List (aG×DK)} {o:aG} {ts:T} {H:ag} {Q:List SV->ag->Prop} (h:HD os ts H fun vs H'=>Q (SV.undef::vs) H'):HD ((o,.cg)::os) ts H Q:=
 Ef (fun _ _ h=>by cases h) h
theorem Zl {os:List (aG×DK)} {s:cJ} {d lo hi:Nat} {ts aA:T} {H H':ag} {v:SV} {Q:List SV->ag->Prop} (he:evalOp s ts H=some (v,H')) (hs:ts.set d v=aA) (h:HD os aA H' fun vs jB=>Q (v::vs) jB):HD ((⟨some d,.op s,none⟩,.hoist lo hi)::os) ts H Q:=
 Zm he (by subst hs;exact h)
theorem aje {s:cJ} {t:T} {H:ag} {v:SV} (h:evalOp s t H=some (v,H)) (hb:bD v v=true):(match gC (.op s) t H with|some u=>bD u v|none=>false)=true:=GZ h hb
theorem xo {f p q:Prop} (hf:f) (k:q) (h:f->q->p:=by
 intro fs k
 repeat (first
  |refine Zo rfl ?_
  |refine Zn (by(simp(disch:=(first|omega|(simp only[List.length_cons,List.length_nil,List.length_append,List.length_take,List.length_drop,List.length_replicate,dZ,ea,List.all_cons,List.all_nil,SV.one,Bool.and_self,fs];done)|(simp only[List.length_cons,List.length_nil,List.length_append,List.length_take,List.length_drop,List.length_replicate,dZ,ea,List.all_cons,List.all_nil,SV.one,Bool.and_self,fs];omega)|fail)) only[go_sem,Nat.reduceAdd,Nat.reduceSub,Nat.reduceMul,Nat.zero_add,Nat.add_zero,Nat.mul_one,Nat.one_mul,Int.reduceToNat,Int.reduceAdd,Int.reduceSub,decide_true,decide_false,fs];first|done|with_reducible rfl)) (by(simp only[List.set_cons_zero,List.set_cons_succ];with_reducible rfl)) ?_
  |refine Zp (by(simp(disch:=(first|omega|(simp only[List.length_cons,List.length_nil,List.length_append,List.length_take,List.length_drop,List.length_replicate,dZ,ea,List.all_cons,List.all_nil,SV.one,Bool.and_self,fs];done)|(simp only[List.length_cons,List.length_nil,List.length_append,List.length_take,List.length_drop,List.length_replicate,dZ,ea,List.all_cons,List.all_nil,SV.one,Bool.and_self,fs];omega)|fail)) only[go_sem,Nat.reduceAdd,Nat.reduceSub,Nat.reduceMul,Nat.zero_add,Nat.add_zero,Nat.mul_one,Nat.one_mul,Int.reduceToNat,Int.reduceAdd,Int.reduceSub,decide_true,decide_false,fs];first|done|with_reducible rfl)) (by(simp only[List.set_cons_zero,List.set_cons_succ];with_reducible rfl)) ?_
  |refine Zl (by(simp(disch:=(first|omega|(simp only[List.length_cons,List.length_nil,List.length_append,List.length_take,List.length_drop,List.length_replicate,dZ,ea,List.all_cons,List.all_nil,SV.one,Bool.and_self,fs];done)|(simp only[List.length_cons,List.length_nil,List.length_append,List.length_take,List.length_drop,List.length_replicate,dZ,ea,List.all_cons,List.all_nil,SV.one,Bool.and_self,fs];omega)|fail)) only[go_sem,Nat.reduceAdd,Nat.reduceSub,Nat.reduceMul,Nat.zero_add,Nat.add_zero,Nat.mul_one,Nat.one_mul,Int.reduceToNat,Int.reduceAdd,Int.reduceSub,decide_true,decide_false,fs];first|done|with_reducible rfl)) (by(simp only[List.set_cons_zero,List.set_cons_succ];with_reducible rfl)) ?_
  |refine Zq (by(simp(disch:=(first|omega|(simp only[List.length_cons,List.length_nil,List.length_append,List.length_take,List.length_drop,List.length_replicate,dZ,ea,List.all_cons,List.all_nil,SV.one,Bool.and_self,fs];done)|(simp only[List.length_cons,List.length_nil,List.length_append,List.length_take,List.length_drop,List.length_replicate,dZ,ea,List.all_cons,List.all_nil,SV.one,Bool.and_self,fs];omega)|fail)) only[go_sem,Nat.reduceAdd,Nat.reduceSub,Nat.reduceMul,Nat.zero_add,Nat.add_zero,Nat.mul_one,Nat.one_mul,Int.reduceToNat,Int.reduceAdd,Int.reduceSub,decide_true,decide_false,fs];first|done|with_reducible rfl)) (by(simp only[List.set_cons_zero,List.set_cons_succ];with_reducible rfl)) ?_
  |refine Zk ?_)
 exact k):p:=h hf k
theorem dh {f p:Prop} (hf:f) (h:f->p:=by
 intro fs
 repeat (first
  |exact Oh _ _ _
  |refine sT ?_
  |refine Of ?_
  |refine Xh (DC (by(simp(disch:=(first|omega|(simp only[List.length_cons,List.length_nil,List.length_append,List.length_take,List.length_drop,List.length_replicate,dZ,ea,List.all_cons,List.all_nil,SV.one,Bool.and_self,fs];done)|(simp only[List.length_cons,List.length_nil,List.length_append,List.length_take,List.length_drop,List.length_replicate,dZ,ea,List.all_cons,List.all_nil,SV.one,Bool.and_self,fs];omega)|fail)) only[go_sem,Nat.reduceAdd,Nat.reduceSub,Nat.reduceMul,Nat.zero_add,Nat.add_zero,Nat.mul_one,Nat.one_mul,Int.reduceToNat,Int.reduceAdd,Int.reduceSub,decide_true,decide_false,fs];first|done|with_reducible rfl)) (by rfl)) ?_
  |refine Xh (DE (by(simp(disch:=(first|omega|(simp only[List.length_cons,List.length_nil,List.length_append,List.length_take,List.length_drop,List.length_replicate,dZ,ea,List.all_cons,List.all_nil,SV.one,Bool.and_self,fs];done)|(simp only[List.length_cons,List.length_nil,List.length_append,List.length_take,List.length_drop,List.length_replicate,dZ,ea,List.all_cons,List.all_nil,SV.one,Bool.and_self,fs];omega)|fail)) only[go_sem,Nat.reduceAdd,Nat.reduceSub,Nat.reduceMul,Nat.zero_add,Nat.add_zero,Nat.mul_one,Nat.one_mul,Int.reduceToNat,Int.reduceAdd,Int.reduceSub,decide_true,decide_false,fs];first|done|with_reducible rfl))) ?_
  |(refine ajm ?_ ?_
    ·(simp only[fN,Bool.and_eq_true,and_true];repeat' apply And.intro);all_goals exact aje (by(simp(disch:=(first|omega|(simp only[List.length_cons,List.length_nil,List.length_append,List.length_take,List.length_drop,List.length_replicate,dZ,ea,List.all_cons,List.all_nil,SV.one,Bool.and_self,fs];done)|(simp only[List.length_cons,List.length_nil,List.length_append,List.length_take,List.length_drop,List.length_replicate,dZ,ea,List.all_cons,List.all_nil,SV.one,Bool.and_self,fs];omega)|fail)) only[go_sem,Nat.reduceAdd,Nat.reduceSub,Nat.reduceMul,Nat.zero_add,Nat.add_zero,Nat.mul_one,Nat.one_mul,Int.reduceToNat,Int.reduceAdd,Int.reduceSub,decide_true,decide_false,fs];first|done|with_reducible rfl)) (by first|(simp only[go_sem];done)|(simp only[go_sem,fs];done)))
  |(refine ajl (by(simp(disch:=(first|omega|(simp only[List.length_cons,List.length_nil,List.length_append,List.length_take,List.length_drop,List.length_replicate,dZ,ea,List.all_cons,List.all_nil,SV.one,Bool.and_self,fs];done)|(simp only[List.length_cons,List.length_nil,List.length_append,List.length_take,List.length_drop,List.length_replicate,dZ,ea,List.all_cons,List.all_nil,SV.one,Bool.and_self,fs];omega)|fail)) only[go_sem,Nat.reduceAdd,Nat.reduceSub,Nat.reduceMul,Nat.zero_add,Nat.add_zero,Nat.mul_one,Nat.one_mul,Int.reduceToNat,Int.reduceAdd,Int.reduceSub,decide_true,decide_false,fs];first|done|with_reducible rfl)) ?_ ?_
    ·(simp only[fN,Bool.and_eq_true,and_true];repeat' apply And.intro);all_goals (first|exact Xu (by first|assumption|(simp only[go_sem,fs];done)) (by first|rfl|(simp only[fs];done)|(simp only[go_sem,fs];done)) (by first|assumption|rfl|(simp only[go_sem,fs];done)|simp[eg,eF,gG])))
  |(refine ajk ?_ ?_
    ·(simp only[fN,Bool.and_eq_true,and_true];repeat' apply And.intro);all_goals (first|exact Xu (by first|assumption|(simp only[go_sem,fs];done)) (by first|rfl|(simp only[fs];done)|(simp only[go_sem,fs];done)) (by first|assumption|rfl|(simp only[go_sem,fs];done)|simp[eg,eF,gG]))))):p:=h hf
theorem QF {call:cb} {lf:Nat} {c b:er} {ts:T} {H:ag} {R:fa->T->DS->ag->Prop} (P:T->ag->Prop) (h1:EC call lf c ts [] H fun x aA D' H'=>x=.normal/\D'=[]/\P aA H') (h2:∀aA H',P aA H'->EC call lf b aA [] H' R):
 EC call lf c ts [] H (Av call lf b R):=by
 unfold EC at h1 ⊢;obtain⟨x,aA,D',H',e,rfl,rfl,hp⟩:=h1;exact⟨_,aA,_,H',e,ly (h2 aA H' hp)⟩
def gd:List SV->Nat->SV
 |[],_=>.bool false
 |a::_,0=>a
 |_::l,n+1=>gd l n
theorem anT {ts:T} {f:(Nat->SV)->T} {C:Prop} (h:ts=f (gd ts)) (c:C):∃z,ts=f z/\C:=⟨gd ts,h,c⟩
theorem aw {ts:T} {f:(Nat->SV)->T} (h:ts=f (gd ts):=by rfl):∃z,ts=f z/\True:=⟨gd ts,h,trivial⟩
end
end Go.Sh
