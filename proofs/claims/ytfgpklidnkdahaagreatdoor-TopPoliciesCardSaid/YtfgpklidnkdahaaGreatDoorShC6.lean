/-
  The text builder holds what was written to it. No conditions beyond those that stand in the theorems.
-/
import Derived.Test.YtfgpklidnkdahaaGreatDoorShC4
set_option linter.all false
set_option maxHeartbeats 20000000
set_option maxRecDepth 10000
namespace Go.Sh
section
def eE (s:List Nat):Prop:=∀x∈s,x<256
section
variable {ts:T} {H:ag}
def Bl (q:Option cz) (b o:Nat):Option SV:=match q with
 |some (.row cs _ _ _ _)=>match Nat.blt o cs.length with
  |true=>some (.ptr b o)
  |false=>none
 |_=>none
def JZ (v:SV) (H:ag):Option SV:=match v with
 |.cM=>some .cM
 |.ptr b o=>Bl (H.get b) b o
 |_=>none
theorem ain (x:X):evalOp (.uW x) ts H=fp (JZ (x.ev ts) H) H:=by
 simp only[evalOp];generalize x.ev ts=v;cases v with
 |ptr b o=>
  simp only[JZ,Bl];cases H.get b with
  |none=>rfl
  |some q=>
   cases q with
   |row cs e ex ro frz=>dsimp only;generalize Nat.blt o cs.length=p;cases p<;>rfl
   |_=>rfl
 |_=>rfl
theorem aca (b o:Nat):JZ (.ptr b o) H=Bl (H.get b) b o:=rfl
theorem ab9 {cs:List SV} {e:TypeId} {ex ro:Bool} {frz b o:Nat} (h:o<cs.length):Bl (some (.row cs e ex ro frz)) b o=some (.ptr b o):=by
 simp only[Bl,qB h]
def Bj (kV:TypeId->Nat->Nat->Bool) (q:Option cz) (b o:Nat):Option SV:=match q with
 |some (.row cs e true _ _)=>match kV e cs.length o with
  |true=>some (.ptr b o)
  |false=>none
 |_=>none
def JX (kV:TypeId->Nat->Nat->Bool) (v:SV) (H:ag):Option SV:=match v with
 |.cM=>some .cM
 |.ptr b o=>Bj kV (H.get b) b o
 |_=>none
theorem ail (kV:TypeId->Nat->Nat->Bool) (x:X):evalOp (.uV kV x) ts H=fp (JX kV (x.ev ts) H) H:=by
 simp only[evalOp];generalize x.ev ts=v;cases v with
 |ptr b o=>
  simp only[JX,Bj];cases H.get b with
  |none=>rfl
  |some q=>
   cases q with
   |row cs e ex ro frz=>
    cases ex
    ·rfl
    ·dsimp only;generalize kV e cs.length o=p;cases p<;>rfl
   |_=>rfl
 |_=>rfl
theorem ab7 (kV:TypeId->Nat->Nat->Bool) (b o:Nat):JX kV (.ptr b o) H=Bj kV (H.get b) b o:=rfl
theorem ab6 {kV:TypeId->Nat->Nat->Bool} {cs:List SV} {e:TypeId} {ro:Bool} {frz b o:Nat} (h:kV e cs.length o=true):Bj kV (some (.row cs e true ro frz)) b o=some (.ptr b o):=by
 simp only[Bj,h]
def O8 (v:SV):Option SV:=match v with
 |.ao=>some .cM
 |.slice b o (_+1) _ _=>some (.ptr b o)
 |_=>none
theorem aiP (x:X):evalOp (.yw x) ts H=fp (O8 (x.ev ts)) H:=by
 simp only[evalOp];generalize x.ev ts=v;cases v with
 |slice b o n c z=>cases n<;>rfl
 |_=>rfl
theorem al0 {b o n z:Nat} {c:Option Nat} (h:0<n):O8 (.slice b o n c z)=some (.ptr b o):=by
 cases n with
 |zero=>omega
 |succ n=>rfl
def DA (elem:TypeId) (p n:SV) (H:ag):Option (SV×ag):=evalOp (.yx elem (.t 0) (.t 1)) [p,n] H
theorem aiQ (elem:TypeId) (p n:X):evalOp (.yx elem p n) ts H=DA elem (p.ev ts) (n.ev ts) H:=by
 simp only[evalOp,DA];rfl
theorem RP:∀{s:List Nat},eE s->th (byteCells s)=some s
 |[],_=>rfl
 |x::s,h=>by
  have hx:x<256:=h x (List.mem_cons_self ..);have ih:=RP (s:=s) fun y hy=>h y (List.mem_cons_of_mem _ hy)
  show(match th (byteCells s)with
   |some l=>(match Int.ofNat x with
    |.ofNat m=>(match Nat.blt m 256 with
     |true=>some (m::l)
     |false=>none)
    |.negSucc _=>none)
   |none=>none)=some (x::s)
  rw[ih];dsimp only;rw[qB hx]
theorem Eu (s:List Nat):(byteCells s).length=s.length:=by simp[byteCells]
theorem al3 {elem:TypeId} {b:Nat} {s:List Nat} {k:IntKind} {ex:Bool} {frz:Nat} (hs:eE s) (h0:s≠[]) (hlen:s.length<1000000) (hb:H.get b=some (.row (byteCells s) elem ex false frz)):
 DA elem (.ptr b 0) (.int k (s.length:Int)) H=some (.str s,H.put b (.row (byteCells s) elem ex true frz)):=by
 have nk:s.length≠0:=by simpa using h0
 obtain⟨m,hm⟩:∃m,s.length=m+1:=⟨s.length-1,by omega⟩;have fT:((byteCells s).drop 0).take (m+1)=byteCells s:=by rw[List.drop_zero,<-hm,<-Eu,List.take_length]
 rw[hm];show(match H.get b with
  |some (.row cs e ex false frz)=>(match Nat.ble (0+(m+1)) cs.length&&(Nat.beq e elem&&Nat.ble (m+1) vB)with
   |true=>(match th ((cs.drop 0).take (m+1))with
    |some s=>some (SV.str s,H.put b (.row cs e ex true frz))
    |none=>none)
   |false=>none)
  |_=>none)=_
 rw[hb];dsimp only;rw[fT,RP hs,dN (by rw[Eu];omega),l0,dN (by have:vB=4611686018427387904:=rfl;omega)];rfl
end
theorem abE:EB Go.Proofs.Tryz.prog 63 63 2 0=true:=by kernel_rfl
attribute [go_sem] ain aca ab9 ail ab7 ab6 aiP al0 aiQ
def Bd (B0:Nat) (H:ag) (bb:Nat) (acc:List Nat):Prop:=
 (acc=[]/\(H.get bb=some (.row [.cM,.ao] 63 true false 0)\/H.get bb=some (.row [.ptr bb 0,.ao] 63 true false 0)))\/
 (acc≠[]/\∃sb,B0<=sb/\sb<H.next/\sb≠bb/\H.get bb=some (.row [.ptr bb 0,.slice sb 0 acc.length none 1] 63 true false 0)/\H.get sb=some (.row (byteCells acc) 5 false false 0))
def NB (H:ag) (c:Nat):Prop:=∀cs,H.get c≠some (.row cs 5 false false 0)
def Fr (B0 bb:Nat) (H H':ag):Prop:=∀c,c<H.next->c≠bb->(c<B0\/NB H c)->H'.get c=H.get c
theorem abm (a b:List Nat):byteCells (a++b)=byteCells a++byteCells b:=by simp[byteCells]
theorem abn (l:List Nat):(byteCells l).all SV.one=true:=by
 rw[List.all_eq_true];intro x hx;obtain⟨c,_,rfl⟩:=List.mem_map.1 hx;rfl
theorem abo {H:ag} {sb:Nat} {acc s:List Nat} {str:Bool} {x:SV} (hx:lT H str 1 x=some (s.length,byteCells s)) (bj:H.get sb=some (.row (byteCells acc) 5 false false 0)) (h0:s≠[]) (hl:acc.length+s.length<1000000):
 gP H str 5 1 1 (.slice sb 0 acc.length none 1) x=some (.slice H.next 0 (acc++s).length none 1,(H.put sb .dead).push (.row (byteCells (acc++s)) 5 false false 0)):=by
 obtain⟨m,hm⟩:∃m,s.length=m+1:=⟨s.length-1,by have:s.length≠0:=by simpa using h0
                                              omega⟩
 have kJ:eK H sb 0 (acc.length*1)=some (byteCells acc):=by
  rw[ot,bj,jl (by rw[Eu];omega),List.drop_zero,Nat.mul_one,<-Eu,List.take_length]
 have h1:Nat.ble ((acc.length+(m+1))*1) dR=true:=dN (by have:dR=35184372088832:=rfl;omega);have h2:Nat.ble (acc.length+(m+1)) dR=true:=dN (by have:dR=35184372088832:=rfl;omega);rw[hm]at hx;simp only[gP,hx,l0,h1,h2,kJ,bj,abn,Bool.and_self];rw[dN (Nat.zero_le _),abm,List.length_append,hm];rfl
theorem abq {H:ag} {s:List Nat} {str:Bool} {x:SV} (hx:lT H str 1 x=some (s.length,byteCells s)) (h0:s≠[]) (hl:s.length<1000000):
 gP H str 5 1 1 .ao x=some (.slice H.next 0 s.length none 1,H.push (.row (byteCells s) 5 false false 0)):=by
 obtain⟨m,hm⟩:∃m,s.length=m+1:=⟨s.length-1,by have:s.length≠0:=by simpa using h0
                                              omega⟩
 have h1:Nat.ble ((m+1)*1) dR=true:=dN (by have:dR=35184372088832:=rfl;omega);have h2:Nat.ble (m+1) dR=true:=dN (by have:dR=35184372088832:=rfl;omega);rw[hm]at hx;simp only[gP,hx,h1,h2,Bool.and_self];rw[hm]
section
variable {ts:T} {H:ag}
def EJ (neg:Bool) (x y:SV) (H:ag):Option (SV×ag):=match x,y with
 |.cM,.cM=>some (.bool (true !=neg),H)
 |.cM,.ptr _ _=>some (.bool (false !=neg),H)
 |.ptr _ _,.cM=>some (.bool (false !=neg),H)
 |.ptr b o,.ptr b' o'=>match Nat.beq b b' with
  |true=>some (.bool (Nat.beq o o' !=neg),H)
  |false=>none
 |_,_=>none
theorem aiq (neg:Bool) (x y:X):evalOp (.tw neg x y) ts H=EJ neg (x.ev ts) (y.ev ts) H:=by
 simp only[evalOp,EJ];rfl
theorem acx (neg:Bool) (b o:Nat):EJ neg (.ptr b o) (.ptr b o) H=some (.bool (true !=neg),H):=by
 simp only[EJ,Nat.beq_refl]
attribute [go_sem] aiq acx
end
section
variable {lf n:Nat} {H:ag}
theorem ab0 {bb:Nat} (hb:H.get bb=some (.row [.cM,.ao] 63 true false 0)) (hn:1<=n):
 aj ak lf n 50 [.ptr bb 0] H=some (.aJ [],H.put bb (.row [.ptr bb 0,.ao] 63 true false 0)):=by
 obtain⟨n,rfl⟩:=aN (n:=n);have hc:=abE;have key:∃v H',aj ak lf (n+1) 50 [.ptr bb 0] H=some (v,H')/\(v=.aJ []/\H'=H.put bb (.row [.ptr bb 0,.ao] 63 true false 0)):=by
  refine cx DY.1 ?_;refine af @hb ?_;refine ar ae ?_;refine af (An @hb @hc) ?_;refine cF bQ ?_;exact(⟨rfl,rfl⟩)
 obtain⟨v,H',h,rfl,rfl⟩:=key;exact h
theorem akV {bb sb:Nat} {s:List Nat} (hb:H.get bb=some (.row [.ptr bb 0,.slice sb 0 s.length none 1] 63 true false 0)) (hsb:H.get sb=some (.row (byteCells s) 5 false false 0)) (hs:eE s) (h0:s≠[]) (hlen:s.length<1000000) (hn:1<=n):
 aj ak lf n 26 [.ptr bb 0] H=some (.str s,H.put sb (.row (byteCells s) 5 false true 0)):=by
 obtain⟨n,rfl⟩:=aN (n:=n);have nk:s.length≠0:=by simpa using h0
 have hu:=al3 (k:=.i64) hs h0 hlen hsb;have key:∃v H',aj ak lf (n+1) 26 [.ptr bb 0] H=some (v,H')/\(v=.str s/\H'=H.put sb (.row (byteCells s) 5 false true 0)):=by
  refine cx DM.1 ?_;refine af ae ?_;refine dG rfl ?_;refine af (An @hb @hu) ?_;refine⟨?_,fun h=>(by cases h),_,(by simp only[List.getLast?_cons_cons,List.getLast?_singleton];first|done|with_reducible rfl),?_⟩
  ·apply sT;apply sT;apply sT;apply Oi
   ·simp only[fN,Bool.and_eq_true,and_true];exact GZ (H':=H) (by exact aZ @hb) (uT ..)
   ·apply sT;apply sT;apply sT;apply sT;apply Oi
    ·simp only[fN,Bool.and_eq_true,and_true];exact GZ (H':=H) (by exact aZ @hb) (uT ..)
    ·repeat (first|exact Oh _ _ _|apply sT|apply Of)
  ·refine af ae ?_;refine aO ae ?_;exact(⟨rfl,rfl⟩)
 obtain⟨v,H',h,rfl,rfl⟩:=key;exact h
@[reducible] def I49 (H0:ag) (nb bb:Nat) (s:List Nat) (m:Nat) (ts:T) (D:DS) (H':ag):Prop:=
  D=[]/\((m=1/\H'=H0/\∃z:Nat->SV,ts=((.ptr bb 0)::(.slice nb 0 1 (some 1) 5)::zz z 2 4 ((.slice nb 0 1 (some 1) 5)::(.int .i64 ((1:Nat):Int))::(.int .i64 ((0:Nat):Int))::zz z 9 7 []):T)/\(True))\/
   (m=0/\(∃sb,H'.get bb=some (.row [.ptr bb 0,.slice sb 0 s.length none 1] 63 true false 0)/\H'.get sb=some (.row (byteCells s) 5 false false 0)/\H0.next<=sb/\sb<H'.next/\∀c,c≠bb->c<H0.next->H'.get c=H0.get c)/\
    ∃z:Nat->SV,ts=((.ptr bb 0)::(.slice nb 0 1 (some 1) 5)::zz z 2 4 ((.slice nb 0 1 (some 1) 5)::(.int .i64 ((1:Nat):Int))::(.int .i64 ((1:Nat):Int))::zz z 9 7 []):T)/\(True)))
theorem Sn {bb:Nat} {w:SV} (hb:H.get bb=some (.row [.ptr bb 0,w] 63 true false 0)) (hn:1<=n):aj ak lf n 50 [.ptr bb 0] H=some (.aJ [],H):=by
 obtain⟨n,rfl⟩:=aN (n:=n);have key:∃v H',aj ak lf (n+1) 50 [.ptr bb 0] H=some (v,H')/\(v=.aJ []/\H'=H):=by
  refine cx DY.1 ?_;refine af @hb ?_;refine ah ae ?_;have et:(true !=true)=false:=rfl;refine af (An @hb @et) ?_;refine ah @et ?_;refine af ae ?_;refine cF bQ ?_;exact(⟨rfl,rfl⟩)
 obtain⟨v,H',h,rfl,rfl⟩:=key;exact h
theorem Bd.row {B0:Nat} {bb:Nat} {acc:List Nat} (h:Bd B0 H bb acc):∃p w,H.get bb=some (.row [p,w] 63 true false 0)/\((p=.cM/\w=.ao/\acc=[])\/p=.ptr bb 0):=by
 rcases h with⟨h0,h|h⟩|⟨_,sb,_,_,_,h,_⟩
 ·exact⟨_,_,h,.inl ⟨rfl,rfl,h0⟩⟩
 ·exact⟨_,_,h,.inr rfl⟩
 ·exact⟨_,_,h,.inr rfl⟩
theorem RX {B0:Nat} {bb:Nat} {acc:List Nat} (h:Bd B0 H bb acc) (hn:1<=n):
 ∃H' w,aj ak lf n 50 [.ptr bb 0] H=some (.aJ [],H')/\H'.next=H.next/\(∀k,k≠bb->H'.get k=H.get k)/\H'.get bb=some (.row [.ptr bb 0,w] 63 true false 0)/\
  ((acc=[]/\w=.ao)\/(acc≠[]/\∃sb,B0<=sb/\sb<H.next/\sb≠bb/\w=.slice sb 0 acc.length none 1/\H'.get sb=some (.row (byteCells acc) 5 false false 0))):=by
 rcases h with⟨h0,h|h⟩|⟨h0,sb,h1,h2,h3,h,h4⟩
 ·exact⟨_,.ao,ab0 h hn,rfl,fun k hk=>cI hk,bT _ _,.inl ⟨h0,rfl⟩⟩
 ·exact⟨_,.ao,Sn h hn,rfl,fun k hk=>rfl,h,.inl ⟨h0,rfl⟩⟩
 ·exact⟨_,_,Sn h hn,rfl,fun k hk=>rfl,h,.inr ⟨h0,sb,h1,h2,h3,rfl,h4⟩⟩
theorem RN {B0 bb:Nat} {acc s:List Nat} {str:Bool} {x w:SV} (hx:lT H str 1 x=some (s.length,byteCells s)) (hB:B0<=H.next) (dz:bb<H.next) (hl:acc.length+s.length<1000000)
 (hw:(acc=[]/\w=.ao)\/(acc≠[]/\∃sb,B0<=sb/\sb<H.next/\sb≠bb/\w=.slice sb 0 acc.length none 1/\H.get sb=some (.row (byteCells acc) 5 false false 0))) (hb:H.get bb=some (.row [.ptr bb 0,w] 63 true false 0)):
 ∃w' H',gP H str 5 1 1 w x=some (w',H')/\H.next<=H'.next/\H'.get bb=some (.row [.ptr bb 0,w] 63 true false 0)/\(∀c,c<H.next->(c<B0\/NB H c)->H'.get c=H.get c)/\
  ((acc++s=[]/\w'=.ao)\/(acc++s≠[]/\∃sb,B0<=sb/\sb<H'.next/\sb≠bb/\w'=.slice sb 0 (acc++s).length none 1/\H'.get sb=some (.row (byteCells (acc++s)) 5 false false 0))):=by
 by_cases h0:s=[]
 ·subst h0;have vw:lT H str 1 x=some (0,[]):=hx;rcases hw with⟨rfl,rfl⟩|⟨ha,sb,h1,h2,h3,rfl,h4⟩
  ·refine⟨.ao,H,?_,Nat.le_refl _,hb,fun c _ _=>rfl,.inl ⟨rfl,rfl⟩⟩;simp only[gP,vw]
  ·refine⟨_,H,?_,Nat.le_refl _,hb,fun c _ _=>rfl,.inr ⟨by simpa using ha,sb,h1,h2,h3,by rw[List.append_nil],by rw[List.append_nil];exact h4⟩⟩;simp only[gP,vw]
 ·rcases hw with⟨rfl,rfl⟩|⟨ha,sb,h1,h2,h3,rfl,h4⟩
  ·refine⟨_,_,abq hx h0 (by simpa using hl),by rw[dZ];omega,by rw[cU dz];exact hb,fun c hc _=>cU hc,.inr ⟨by simpa using h0,H.next,hB,by rw[dZ];omega,by omega,by rw[List.nil_append],by rw[List.nil_append];exact bd _⟩⟩
  ·refine⟨_,_,abo hx h4 h0 hl,by rw[dZ,ea];omega,by rw[cU (by rw[ea];exact dz),cI (Ne.symm h3)];exact hb,fun c hc hd=>by
    have hcs:c≠sb:=by
     rcases hd with hd|hd
     ·omega
     ·rintro rfl;exact hd _ h4
    rw[cU (by rw[ea];omega),cI hcs],.inr ⟨by simp[h0],H.next,hB,by rw[dZ,ea];omega,by omega,rfl,?_⟩⟩
   exact bd (H:=H.put sb .dead) _
theorem amd {B0 bb:Nat} {acc s:List Nat} (h:Bd B0 H bb acc) (hB:B0<=H.next) (dz:bb<H.next) (hl:acc.length+s.length<1000000) (hn:2<=n):
 ∃v H',aj ak lf n 21 [.ptr bb 0,.str s] H=some (v,H')/\Bd B0 H' bb (acc++s)/\H.next<=H'.next/\Fr B0 bb H H':=by
 obtain⟨n,rfl⟩:=aN (n:=n);obtain⟨H1,w,bn,ca,eW,dn,jS⟩:=RX (lf:=lf) (n:=n) h om;obtain⟨w',H2,ha,dc,eo,dX,mF⟩:=RN (B0:=B0) (H:=H1) (str:=true) (x:=.str s) (s:=s) rfl om om hl (by
  rcases jS with h|⟨h0,sb,q1,q2,q3,q4,q5⟩
  ·exact .inl h
  ·exact .inr ⟨h0,sb,q1,by omega,q3,q4,q5⟩) dn
 have key:∃v H',aj ak lf (n+1) 21 [.ptr bb 0,.str s] H=some (v,H')/\H'=H2.put bb (.row [.ptr bb 0,w'] 63 true false 0):=by
  have ho:SV.one w'=true:=by rcases mF with⟨_,rfl⟩|⟨_,_,_,_,_,rfl,_⟩<;>rfl
  have aD:c7 1 (.ptr bb 1) [w'] H2=some (H2.put bb (.row [.ptr bb 0,w'] 63 true false 0)):=by
   rw[iL (n:=1) (cs:=[w']) rfl,iq,eo,im (by simp) om (by simp[ho])];rfl
  have LG:w'.cells=[w']:=by rcases mF with⟨_,rfl⟩|⟨_,_,_,_,_,rfl,_⟩<;>rfl
  have hv:fu H1 true 5 1 1 w (.str s)=some (w',H2):=ha;refine cx IA.1 ?_;refine af ae ?_;refine ai ae bn ?_;refine af (An @dn (An @hv (An @eo (An @LG @aD)))) ?_;refine cD ae ?_;exact(rfl)
 obtain⟨v,H',h1,rfl⟩:=key;refine⟨v,_,h1,?_,by rw[ea];omega,fun c hc Fw hd=>by
  rw[cI Fw,dX c om (by
   rcases hd with hd|hd
   ·exact .inl hd
   ·exact .inr fun cs=>by rw[eW c Fw];exact hd cs)]
  exact eW c Fw⟩
 rcases mF with⟨e,rfl⟩|⟨h0,sb,q1,q2,q3,rfl,q5⟩
 ·exact .inl ⟨e,.inr (bT _ _)⟩
 ·exact .inr ⟨h0,sb,q1,by rw[ea];exact q2,q3,bT _ _,by rw[cI q3];exact q5⟩
theorem al6 {B0 bb:Nat} {acc:List Nat} {c:Nat} (h:Bd B0 H bb acc) (hB:B0<=H.next) (dz:bb<H.next) (hl:acc.length+1<1000000) (hn:2<=n):
 ∃v H',aj ak lf n 301 [.ptr bb 0,.int .u8 (c:Int)] H=some (v,H')/\Bd B0 H' bb (acc++[c])/\H.next<=H'.next/\Fr B0 bb H H':=by
 obtain⟨n,rfl⟩:=aN (n:=n);obtain⟨H1,w,bn,ca,eW,dn,jS⟩:=RX (lf:=lf) (n:=n) h om;obtain⟨Hb,tL⟩:∃Hb,H1.push (.row [.int .u8 (c:Int)] 5 true false 0)=Hb:=⟨_,rfl⟩;have lG:Hb.next=H1.next+1:=by rw[<-tL];rfl
 have bU:Hb.get H1.next=some (.row [.int .u8 (c:Int)] 5 true false 0):=by rw[<-tL];exact bd _
 have hold:∀k,k<H1.next->Hb.get k=H1.get k:=fun k hk=>by rw[<-tL];exact cU hk
 have ew:lT Hb false 1 (.slice H1.next 0 1 (some 1) 1)=some ([c].length,byteCells [c]):=by
  show(match eK Hb H1.next 0 1 with|some cs=>some (1,cs)|none=>none)=_;rw[ot,bU,jl (by simp)];rfl
 have ad1:bb<H1.next:=om;have xm:Hb.get bb=some (.row [.ptr bb 0,w] 63 true false 0):=by rw[hold bb ad1];exact dn
 have afD:(acc=[]/\w=.ao)\/(acc≠[]/\∃sb,B0<=sb/\sb<Hb.next/\sb≠bb/\w=.slice sb 0 acc.length none 1/\Hb.get sb=some (.row (byteCells acc) 5 false false 0)):=by
  rcases jS with h|⟨h0,sb,q1,q2,q3,q4,q5⟩
  ·exact .inl h
  ·have fH:sb<H1.next:=om;exact .inr ⟨h0,sb,q1,by omega,q3,q4,by rw[hold sb fH];exact q5⟩
 have hBb:B0<=Hb.next:=om;have ad2:bb<Hb.next:=om;obtain⟨w',H2,ha,dc,eo,dX,mF⟩:=RN (B0:=B0) (H:=Hb) (str:=false) (x:=.slice H1.next 0 1 (some 1) 1) (s:=[c]) ew hBb ad2 (by simpa using hl) afD xm;have key:∃v H',aj ak lf (n+1) 301 [.ptr bb 0,.int .u8 (c:Int)] H=some (v,H')/\H'=H2.put bb (.row [.ptr bb 0,w'] 63 true false 0):=by
  have ho:SV.one w'=true:=by rcases mF with⟨_,rfl⟩|⟨_,_,_,_,_,rfl,_⟩<;>rfl
  have aD:c7 1 (.ptr bb 1) [w'] H2=some (H2.put bb (.row [.ptr bb 0,w'] 63 true false 0)):=by
   rw[iL (n:=1) (cs:=[w']) rfl,iq,eo,im (by simp) om (by simp[ho])];rfl
  have LG:w'.cells=[w']:=by rcases mF with⟨_,rfl⟩|⟨_,_,_,_,_,rfl,_⟩<;>rfl
  have hv:fu Hb false 5 1 1 w (.slice H1.next 0 1 (some 1) 1)=some (w',H2):=ha;refine cx IK.1 ?_;refine af ae ?_;refine ai ae bn ?_;refine af (An @dn (An @tL (An @hv (An @eo (An @LG @aD))))) ?_;refine aO ae ?_;exact(rfl)
 obtain⟨v,H',h1,rfl⟩:=key;refine⟨v,_,h1,?_,by rw[ea];omega,fun k hk rf hd=>by
  rw[cI rf,dX k om (by
   rcases hd with hd|hd
   ·exact .inl hd
   ·exact .inr fun cs=>by rw[hold k om,eW k rf];exact hd cs),hold k om]
  exact eW k rf⟩
 rcases mF with⟨e,rfl⟩|⟨h0,sb,q1,q2,q3,rfl,q5⟩
 ·exact .inl ⟨e,.inr (bT _ _)⟩
 ·exact .inr ⟨h0,sb,q1,by rw[ea];exact q2,q3,bT _ _,by rw[cI q3];exact q5⟩
theorem Yy {B0 bb:Nat} {acc:List Nat} (h:Bd B0 H bb acc) (hs:eE acc) (dz:bb<H.next) (hl:acc.length<1000000) (hn:1<=n):
 ∃H',aj ak lf n 26 [.ptr bb 0] H=some (.str acc,H')/\H'.next=H.next/\∀k,k<B0->H'.get k=H.get k:=by
 rcases h with⟨rfl,h⟩|⟨h0,sb,h1,h2,h3,h,h4⟩
 ·obtain⟨n,rfl⟩:=aN (n:=n);have key:∀p,H.get bb=some (.row [p,.ao] 63 true false 0)->∃v H',aj ak lf (n+1) 26 [.ptr bb 0] H=some (v,H')/\v=.str []/\H'=H:=by
   intro p hb;refine cx DM.1 ?_;refine af ae ?_;refine dG rfl ?_;refine af @hb ?_;have hu:O8 .ao=some .cM:=rfl;have hv:DA 5 .cM (.int .i64 ((0:Nat):Int)) H=some (.str [],H):=rfl;have hv0:DA 5 .cM (.int .i64 0) H=some (.str [],H):=rfl;refine af (An @hb (An @hu (An @hv @hv0))) ?_;refine⟨?_,fun h=>(by cases h),_,(by simp only[List.getLast?_cons_cons,List.getLast?_singleton];first|done|with_reducible rfl),?_⟩
   ·repeat (first|exact Oh _ _ _|refine sT ?_|refine Of ?_|refine Oi (by simp only[fN,Bool.and_eq_true,and_true];exact GZ (H':=H) (by exact aZ @hb) (by simp only[go_sem])) ?_)
   ·refine af ae ?_;refine aO ae ?_;exact(⟨rfl,rfl⟩)
  rcases h with h|h
  ·obtain⟨v,H',e,rfl,rfl⟩:=key _ h;exact⟨H',e,rfl,fun k _=>rfl⟩
  ·obtain⟨v,H',e,rfl,rfl⟩:=key _ h;exact⟨H',e,rfl,fun k _=>rfl⟩
 ·exact⟨_,akV h h4 hs h0 hl hn,rfl,fun k hk=>cI om⟩
end
end
end Go.Sh
