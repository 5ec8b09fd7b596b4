/-
  A closed call reckoned from the empty heap holds over every heap; the two tables of the evaluator are laid. No conditions beyond those that stand in the theorems.
-/
import Derived.Test.YtfgpklidnkdahaaGreatDoorShA4
import Derived.Test.YtfgpklidnkdahaaGreatDoorShA5
import Derived.Test.YtfgpklidnkdahaaGreatDoorShB1
import Derived.Test.YtfgpklidnkdahaaGreatDoorShB2
import Derived.Test.YtfgpklidnkdahaaGreatDoorShB3
import Derived.Test.YtfgpklidnkdahaaGreatDoorShB4
import Derived.Test.YtfgpklidnkdahaaGreatDoorShA1
set_option linter.all false
set_option maxHeartbeats 20000000
namespace Go.Sh
section
open Go.RowKit (Below)
section
variable {G:Ground} {P:Program} {call:cb}
end
end
section
open Go.RowKit (Below)
def SV.pN:SV->Bool
 |.agg cs=>cs.all SV.flat
 |.func _ [] []=>true
 |v=>v.flat
def SV.Bo:SV->Bool
 |.aJ vs=>vs.all SV.pN
 |v=>v.pN
theorem KG {φ ψ:aI} {v:SV} {u:Value} (hv:v.flat=true) (h:VR φ v u):VR ψ v u:=by
 cases v<;>first|(simp[SV.flat]at hv;done)|(cases h;first|(constructor;done)|(constructor;assumption))
theorem S1 {φ ψ:aI}:∀{vs:List SV} {us:List Value},vs.all SV.flat=true->aE φ vs us->aE ψ vs us
 |_,_,_,.nil=>.nil
 |_,_,hv,.cons h t=>by
  simp only[List.all_cons,Bool.and_eq_true]at hv;exact .cons (KG hv.1 h) (S1 hv.2 t)
theorem S0 {φ ψ:aI} {v:SV} {u:Value} (hv:v.pN=true) (h:VR φ v u):VR ψ v u:=by
 cases v with
 |agg cs=>cases h with|agg h=>exact .agg (S1 hv h)
 |func f xs ys=>
  match xs,ys,hv with
  |[],[],_=>
   cases h with
   |func h k=>
    rename_i us vs;refine .func ?_ ?_
    ·generalize us.toList=l at h;cases h;exact .nil
    ·generalize vs.toList=l at k;cases k;exact .nil
 |_=>exact KG hv h
theorem ET {φ ψ:aI}:∀{vs:List SV} {us:List Value},vs.all SV.pN=true->aE φ vs us->aE ψ vs us
 |_,_,_,.nil=>.nil
 |_,_,hv,.cons h t=>by
  simp only[List.all_cons,Bool.and_eq_true]at hv;exact .cons (S0 hv.1 h) (ET hv.2 t)
theorem S2 {φ ψ:aI} {v:SV} {u:Value} (hv:v.Bo=true) (h:VR φ v u):VR ψ v u:=by
 cases v with
 |aJ vs=>cases h with|aJ h=>exact .aJ (ET hv h)
 |_=>exact S0 hv h
def Ground.up (G:Ground):Prop:=∀φ bh B B' w,B<=B'->B'<=w.heap.size->G.p φ B w->G.p bh B' w
section
variable {G:Ground} {P:Program} {call:cb}
theorem ajr (hG:G.up) (hc:lV G P call) {f:FuncId} {args:List SV} {v:SV} {H0 H1:ag} (h8:call f args H0=some (v,H1)) (LN:args.all SV.pN=true) (hv:v.Bo=true):
 jF P f=true/\∀φ B H w (args':Array Value),aE φ args args'.toList->HG G φ B H w->Calls P f args' w (uM φ B H w v H):=by
 obtain⟨he,hk⟩:=hc f args H0 v H1 h8;refine⟨he,fun φ B H w args' ha hh=>?_⟩;have hr:HR (fun _=>none) w.heap.size H0 w:=⟨(fun _ _ e=>(by cases e)),(fun _ _ _ _ e=>(by cases e)),(fun _ _ e=>(by cases e)),Nat.le_refl _⟩;refine(hk (fun _=>none) w.heap.size w args' (ET LN ha) ⟨hr,hG _ _ _ _ _ hh.1.sz (Nat.le_refl _) hh.2⟩).mono ?_;rintro e w' ⟨_,bh,u,_,rfl,hu,_,hb⟩;exact⟨Nat.le_refl _,φ,u,aI.ext.refl φ _,rfl,S2 hv hu,hh.1.world hb.size fun k hk=>hb.block k hk,hb.mono hh.1.sz⟩
def nL (r:Option (SV×ag)):Option SV:=match r with
 |some (v,_)=>match v.Bo with
  |true=>some v
  |false=>none
 |none=>none
def gk (call:cb) (h:ag) (f:FuncId) (args:List SV) (H:ag):Option (SV×ag):=match args.all SV.pN with
 |true=>match nL (call f args h)with
  |some v=>some (v,H)
  |none=>none
 |false=>none
theorem NP {h:ag} {f:FuncId} {args:List SV} {v:SV} (ha:args.all SV.pN=true) (hr:nL (call f args h)=some v) (H:ag):gk call h f args H=some (v,H):=by
 unfold gk;rw[ha,hr]
theorem acS {h:ag} {f:FuncId} {args:List SV} {v:SV} (hr:nL (call f args h)=some v):∃H1,call f args h=some (v,H1)/\v.Bo=true:=by
 unfold nL at hr;split at hr
 ·rename_i v' H1 hc;split at hr
  ·rename_i hv;cases hr;exact⟨H1,hc,hv⟩
  ·cases hr
 ·cases hr
theorem ag4 (hG:G.up) (hc:lV G P call) {f:FuncId} {h:ag} {args:List SV} {v:SV} {H H':ag} (hv:gk call h f args H=some (v,H')):
 ∀φ B w (args':Array Value),aE φ args args'.toList->HG G φ B H w->Calls P f args' w (uM φ B H w v H'):=by
 unfold gk at hv;split at hv
 ·rename_i ha;split at hv
  ·rename_i v' hr;cases hv;obtain⟨H1,h1,h2⟩:=acS hr;exact fun φ B w args' xH hh=>(ajr hG hc h1 ha h2).2 φ B _ w args' xH hh
  ·cases hv
 ·cases hv
theorem frozen (hG:G.up) (hc:lV G P call) {f:FuncId} {args:List SV} {v:SV} {H H1:ag} (h8:call f args H.kB=some (v,H1)) (hv:v.Bo=true):
 jF P f=true/\∀φ B w (args':Array Value),aE φ args args'.toList->HG G φ B H w->Calls P f args' w fun e w'=>∃u,e=.returned u/\(∀ψ,VR ψ v u)/\Below w.heap.size w w':=by
 obtain⟨he,hk⟩:=hc f args _ v H1 h8;refine⟨he,fun φ B w args' ha hh=>?_⟩;refine(hk φ w.heap.size w args' ha ⟨hh.1.kB,hG _ _ _ _ _ hh.1.sz (Nat.le_refl _) hh.2⟩).mono ?_;rintro e w' ⟨_,bh,u,_,rfl,hu,_,hb⟩;exact⟨u,rfl,fun ψ=>S2 hv hu,hb⟩
end
end
section
open Go.RowKit (Below)
def nG (N M:Nat):SV->Option SV
 |.ptr b o=>match Nat.ble N b with
  |true=>some (.ptr (b-N+M) o)
  |false=>none
 |.slice b o n c z=>match Nat.ble N b with
  |true=>some (.slice (b-N+M) o n c z)
  |false=>none
 |.map b=>match Nat.ble N b with
  |true=>some (.map (b-N+M))
  |false=>none
 |v=>match v.flat with
  |true=>some v
  |false=>none
def vS (N M:Nat):SV->Option SV
 |.agg cs=>match cj (nG N M) cs with
  |some iO=>some (.agg iO)
  |none=>none
 |v=>nG N M v
def uC (N M:Nat):SV->Option SV
 |.aJ vs=>match cj (vS N M) vs with
  |some oL=>some (.aJ oL)
  |none=>none
 |v=>vS N M v
def uB (N M:Nat):Option cz->cz
 |some (.row cs e ex false frz)=>match cj (nG N M) cs with
  |some iO=>.row iO e ex false frz
  |none=>.dead
 |_=>.dead
def ag.mv (H H1:ag) (N M:Nat):Nat->ag
 |0=>H
 |k+1=>(ag.mv H H1 N M k).push (uB N M (H1.get (N+k)))
theorem uu (H H1:ag) (N M:Nat):∀k,(H.mv H1 N M k).next=H.next+k
 |0=>rfl
 |k+1=>by
  show(H.mv H1 N M k).next+1=_
  rw[uu H H1 N M k];omega
theorem Af (H H1:ag) (N M:Nat) {b:Nat} (hb:b<H.next):∀k,(H.mv H1 N M k).get b=H.get b
 |0=>rfl
 |k+1=>by
  show((H.mv H1 N M k).push _).get b=_;rw[ag.mU,uu,if_neg om];exact Af H H1 N M hb k
theorem GF (H H1:ag) (N M:Nat):∀(k i:Nat),i<k->(H.mv H1 N M k).get (H.next+i)=some (uB N M (H1.get (N+i)))
 |0,i,h=>by omega
 |k+1,i,h=>by
  show((H.mv H1 N M k).push _).get _=_;rw[ag.mU,uu];split
  ·rename_i e;obtain rfl:i=k:=om;rfl
  ·exact GF H H1 N M k i om
section
variable {di ψ:aI} {N M:Nat}
theorem OI (ki:∀b l,N<=b->di b=some l->ψ (b-N+M)=some l) {x y:SV} {u:Value} (h:nG N M x=some y) (hr:VR di x u):VR ψ y u:=by
 have qW:∀{v:SV},v.flat=true->VR di v u->VR ψ v u:=fun hv h=>KG hv h
 cases x with
 |ptr b o=>
  simp only[nG]at h;split at h
  ·rename_i hb;cases h;cases hr with
   |ptr k=>exact .ptr (ki _ _ (Nat.le_of_ble_eq_true hb) k)
  ·cases h
 |slice b o n c z=>
  simp only[nG]at h;split at h
  ·rename_i hb;cases h;cases hr with
   |slice k1 k2 k3 k4=>exact .slice (ki _ _ (Nat.le_of_ble_eq_true hb) k1) k2 k3 k4
   |kQ k=>exact .kQ k
  ·cases h
 |map b=>
  simp only[nG]at h;split at h
  ·rename_i hb;cases h;cases hr with
   |map k=>exact .map (ki _ _ (Nat.le_of_ble_eq_true hb) k)
  ·cases h
 |_=>
  simp only[nG]at h;split at h
  ·rename_i hf;cases h;exact qW hf hr
  ·cases h
theorem X8 (ki:∀b l,N<=b->di b=some l->ψ (b-N+M)=some l):∀{xs ys:List SV} {us:List Value},cj (nG N M) xs=some ys->aE di xs us->aE ψ ys us
 |[],_,_,h,.nil=>by cases h;exact .nil
 |x::xs,ys,_,h,.cons h1 h2=>by
  simp only[cj]at h;split at h
  ·rename_i y hy;split at h
   ·rename_i zs hz;cases h;exact .cons (OI ki hy h1) (X8 ki hz h2)
   ·cases h
  ·cases h
theorem X7 (ki:∀b l,N<=b->di b=some l->ψ (b-N+M)=some l) {x y:SV} {u:Value} (h:vS N M x=some y) (hr:VR di x u):VR ψ y u:=by
 cases x with
 |agg cs=>
  simp only[vS]at h;split at h
  ·rename_i iO hc;cases h;cases hr with
   |agg k=>exact .agg (X8 ki hc k)
  ·cases h
 |_=>exact OI ki (by simpa only[vS]using h) hr
theorem X6 (ki:∀b l,N<=b->di b=some l->ψ (b-N+M)=some l):∀{xs ys:List SV} {us:List Value},cj (vS N M) xs=some ys->aE di xs us->aE ψ ys us
 |[],_,_,h,.nil=>by cases h;exact .nil
 |x::xs,ys,_,h,.cons h1 h2=>by
  simp only[cj]at h;split at h
  ·rename_i y hy;split at h
   ·rename_i zs hz;cases h;exact .cons (X7 ki hy h1) (X6 ki hz h2)
   ·cases h
  ·cases h
theorem akq (ki:∀b l,N<=b->di b=some l->ψ (b-N+M)=some l) {x y:SV} {u:Value} (h:uC N M x=some y) (hr:VR di x u):VR ψ y u:=by
 cases x with
 |aJ vs=>
  simp only[uC]at h;split at h
  ·rename_i oL hc;cases h;cases hr with
   |aJ k=>exact .aJ (X6 ki hc k)
  ·cases h
 |_=>exact X7 ki (by simpa only[uC]using h) hr
theorem akp (ki:∀b l,N<=b->di b=some l->ψ (b-N+M)=some l) {B B1:Nat} {w:World} {l:Loc} {o:Option cz} (hB:B<=B1) (h:OR di B1 w l o):OR ψ B w l (some (uB N M o)):=by
 unfold uB;split
 ·rename_i cs e ex frz;split
  ·rename_i iO hc;cases h with
   |row hb hs hcs hl hex iU jh=>
    have hlen:=(NI hc).1;refine .row hb hs (fun i y hy=>?_) (by rw[<-hlen];exact hl) (fun h=>by rw[<-hlen];exact hex h) (fun h=>Nat.le_trans hB (iU h)) jh;have hi:i<cs.length:=by rw[hlen];exact(List.getElem?_eq_some_iff.1 hy).1
    obtain⟨y',h1,h2⟩:=(NI hc).2 i cs[i] (List.getElem?_eq_getElem hi);rw[hy]at h1;cases h1;obtain⟨v,k1,k2⟩:=hcs i cs[i] (List.getElem?_eq_getElem hi);exact⟨v,k1,OI ki h2 k2⟩
  ·exact .dead
 ·exact .dead
theorem ako {o:Option cz} (h:live (some (uB N M o))):∃cs e ex frz,o=some (.row cs e ex false frz):=by
 unfold uB at h;split at h
 ·exact⟨_,_,_,_,rfl⟩
 ·exact h.elim
end
section
variable {G:Ground} {P:Program} {call:cb}
theorem agX {φ di:aI} {B:Nat} {H H1:ag} {w w':World} {N:Nat} (hh:HR φ B H w) (h1:HR di w.heap.size H1 w') (hb:Below w.heap.size w w') (hN:N<=H1.next):
 ∃ψ:aI,φ.ext ψ H.next/\(∀b l,N<=b->di b=some l->ψ (b-N+H.next)=some l)/\HR ψ B (H.mv H1 N H.next (H1.next-N)) w':=by
 have ki:∀b l,N<=b->di b=some l->(fun b=>if b<H.next then φ b else di (b-H.next+N):aI) (b-N+H.next)=some l:=fun b l hNb e=>by
  have:¬(b-N+H.next<H.next):=om;simp only[if_neg this];rw[show b-N+H.next-H.next+N=b by omega];exact e
 refine⟨fun b=>if b<H.next then φ b else di (b-H.next+N),⟨fun b l e=>?_,fun b l e=>?_⟩,ki,?_⟩
 ·simp only[if_pos (hh.dD b l e).1];exact e
 ·simp only at e;split at e
  ·exact .inl e
  ·exact .inr om
 ·have hw:=hh.world hb.size fun k hk=>hb.block k hk
  have mB:∀b l,¬b<H.next->di (b-H.next+N)=some l->b<H.next+(H1.next-N)/\(H.mv H1 N H.next (H1.next-N)).get b=some (uB N H.next (H1.get (b-H.next+N))):=fun b l lG e=>by
   have hd:=(h1.dD _ _ e).1;refine⟨by omega,?_⟩;have:=GF H H1 N H.next (H1.next-N) (b-H.next) om;rw[show H.next+(b-H.next)=b by omega]at this;rw[this,show N+(b-H.next)=b-H.next+N by omega]
  refine⟨fun b l e=>?_,fun b b' l l' e e' hr hl lg=>?_,fun b l e=>?_,hw.sz⟩
  ·rw[uu];split at e
   ·exact⟨by omega,(hw.dD b l e).2⟩
   ·rename_i lG;exact⟨(mB b l lG e).1,(h1.dD _ _ e).2⟩
  ·have I7:∀b l,¬b<H.next->di (b-H.next+N)=some l->live ((H.mv H1 N H.next (H1.next-N)).get b)->w.heap.size<=l.rb/\live (H1.get (b-H.next+N)):=fun b l lG e hl=>by
    rw[(mB b l lG e).2]at hl;obtain⟨cs,e0,ex,frz,ho⟩:=ako hl;have iT:=h1.obj _ _ e;rw[ho]at iT ⊢;cases iT with
    |row _ _ _ _ _ iU _=>exact⟨iU rfl,trivial⟩
   split at e<;>split at e'
   ·rename_i k k';rw[Af H H1 N H.next k]at hl;rw[Af H H1 N H.next k']at lg;exact hh.inj b b' l l' e e' hr hl lg
   ·rename_i k k';have g1:=(hh.dD b l e).2;have g2:=(I7 b' l' k' e' lg).1;omega
   ·rename_i k k';have g1:=(hh.dD b' l' e').2;have g2:=(I7 b l k e hl).1;omega
   ·rename_i k k';have:=h1.inj _ _ l l' e e' hr (I7 b l k e hl).2 (I7 b' l' k' e' lg).2;omega
  ·skip
   split at e
   ·rename_i k;rw[Af H H1 N H.next k];refine(hw.obj b l e).mono (fun c m hc=>?_) rfl;simp only[if_pos (hh.dD c m hc).1];exact hc
   ·rename_i lG;rw[(mB b l lG e).2];exact akp ki hh.sz (h1.obj _ _ e)
def pq (call:cb) (h:ag) (f:FuncId) (args:List SV) (H:ag):Option (SV×ag):=match args.all SV.pN with
 |true=>match call f args h with
  |some (v,H1)=>match Nat.ble h.next H1.next with
   |true=>match uC h.next H.next v with
    |some v'=>some (v',H.mv H1 h.next H.next (H1.next-h.next))
    |none=>none
   |false=>none
  |none=>none
 |false=>none
theorem Wx {h H1:ag} {f:FuncId} {args:List SV} {v:SV} (ha:args.all SV.pN=true) (hc:call f args h=some (v,H1)) (hn:h.next<=H1.next) {H:ag} {v':SV} (hv:uC h.next H.next v=some v'):
 pq call h f args H=some (v',H.mv H1 h.next H.next (H1.next-h.next)):=by
 have:Nat.ble h.next H1.next=true:=Nat.ble_eq_true_of_le hn;unfold pq;rw[ha,hc];simp only[this,hv]
theorem ag6 (hG:G.up) (hc:lV G P call) {f:FuncId} {h:ag} {args:List SV} {v:SV} {H H':ag} (hv:pq call h f args H=some (v,H')):
 ∀φ B w (args':Array Value),aE φ args args'.toList->HG G φ B H w->Calls P f args' w (uM φ B H w v H'):=by
 unfold pq at hv;split at hv
 ·rename_i LN;split at hv
  ·rename_i v1 H1 cK;split at hv
   ·rename_i hn;have hn:=Nat.le_of_ble_eq_true hn;split at hv
    ·rename_i v' hsh;cases hv;intro φ B w args' ha hh;obtain⟨_,hk⟩:=hc f args h v1 H1 cK;have hr:HR (fun _=>none) w.heap.size h w:=⟨(fun _ _ e=>(by cases e)),(fun _ _ _ _ e=>(by cases e)),(fun _ _ e=>(by cases e)),Nat.le_refl _⟩;refine(hk (fun _=>none) w.heap.size w args' (ET LN ha) ⟨hr,hG _ _ _ _ _ hh.1.sz (Nat.le_refl _) hh.2⟩).mono ?_;rintro e w' ⟨_,di,u,_,rfl,hu,h1,hb⟩;obtain⟨ψ,g1,g2,g3⟩:=agX hh.1 h1 hb hn;exact⟨by rw[uu];omega,ψ,u,g1,rfl,akq g2 hsh hu,g3,hb.mono hh.1.sz⟩
    ·cases hv
   ·cases hv
  ·cases hv
 ·cases hv
end
end
section
def sQ (args:List SV) (H:ag):Option (SV×ag):=
 match args with
 |[.str s,.str sub]=>match Nat.blt s.length 4294967281 with
  |true=>some (.int .i64 (jy s sub 0),H)
  |false=>none
 |_=>none
def NQ (args:List SV) (H:ag):Option (SV×ag):=
 match args with
 |[.func 509 [] [.ptr b 0]]=>match H.get b with
  |some (.row [.map m] _ true _ _)=>match H.get m with
   |some (.map [] _)=>some (.ao,H)
   |_=>none
  |_=>none
 |_=>none
def HQ:List SV->Option (List (List Nat))
 |[]=>some []
 |.str s::l=>match HQ l with
  |some r=>some (s::r)
  |none=>none
 |_::_=>none
def Gn (sep:List Nat):List (List Nat)->List Nat
 |[]=>[]
 |x::r=>x++(r.map (sep++ ·)).flatten
def GH (args:List SV) (H:ag):Option (SV×ag):=
 match args with
 |[.slice b 0 n _ 1,.str sep]=>match H.get b with
  |some (.row cs _ _ _ _)=>match Nat.blt n 1000&&Nat.beq cs.length n with
   |true=>match HQ cs with
    |some xs=>match Nat.blt (Gn sep xs).length 1000000 with
     |true=>some (.str (Gn sep xs),H)
     |false=>none
    |none=>none
   |false=>none
  |_=>none
 |_=>none
def Ag (args:List SV) (H:ag):Option (SV×ag):=
 match args with
 |[.str [b],.int .i64 (.ofNat n)]=>match Nat.blt n 100000 with
  |true=>some (.str (List.replicate n b),H)
  |false=>none
 |_=>none
def Kt (l:List (Σf,iv f)):List (Nat×dM):=l.map fun e=>(e.1,.code e.2.1)
noncomputable def ali:List (Σf,iv f):=[⟨16,x16⟩,⟨20,Iy⟩,⟨21,IA⟩,⟨23,x23⟩,⟨24,x24⟩,⟨26,DM⟩,⟨27,IE⟩,⟨29,x29⟩,⟨35,x35⟩,⟨36,x36⟩,⟨38,x38⟩,⟨39,x39⟩,⟨44,x44⟩,⟨45,x45⟩,⟨46,x46⟩,⟨50,DY⟩,⟨51,IV⟩,⟨52,x52⟩,⟨53,IW⟩,⟨61,x61⟩,⟨63,x63⟩,⟨64,x64⟩,⟨65,x65⟩,⟨66,x66⟩,⟨67,IZ⟩,⟨68,x68⟩,⟨69,x69⟩,⟨70,x70⟩,⟨73,x73⟩,⟨74,x74⟩,⟨75,x75⟩,⟨76,x76⟩,⟨77,x77⟩,⟨78,x78⟩,⟨79,x79⟩,⟨80,x80⟩,⟨81,x81⟩,⟨84,x84⟩,⟨86,x86⟩,⟨87,I2⟩,⟨90,I4⟩,⟨92,I5⟩,⟨93,x93⟩,⟨94,x94⟩,⟨95,x95⟩,⟨96,I6⟩,⟨107,ame⟩,⟨109,Ik⟩,⟨110,amf⟩,⟨111,amg⟩,⟨119,amh⟩,⟨120,ami⟩,⟨121,amj⟩,⟨125,amk⟩,⟨126,Il⟩,⟨127,aml⟩,⟨129,amm⟩,⟨130,amn⟩,⟨131,amo⟩,⟨133,amp⟩,⟨134,amq⟩,⟨135,amr⟩,⟨136,ams⟩,⟨137,amt⟩,⟨138,amu⟩,⟨139,amv⟩,⟨140,amw⟩,⟨141,amx⟩,⟨142,amy⟩,⟨143,amz⟩,⟨147,amA⟩,⟨149,amB⟩,⟨151,amC⟩,⟨153,amD⟩,⟨155,Im⟩,⟨156,Io⟩,⟨157,Ip⟩,⟨158,Iq⟩,⟨159,Ir⟩,⟨166,amE⟩,⟨167,Is⟩,⟨168,Iu⟩,⟨169,amF⟩,⟨170,amG⟩,⟨171,Iv⟩,⟨172,amH⟩,⟨173,amI⟩,⟨174,DH⟩,⟨181,Iw⟩,⟨182,amJ⟩,⟨191,amK⟩,⟨192,amL⟩,⟨193,amM⟩,⟨199,Ix⟩,⟨200,nI⟩,⟨202,Iz⟩,⟨204,amN⟩,⟨206,amO⟩,⟨207,amP⟩,⟨210,amQ⟩,⟨211,amR⟩,⟨216,amS⟩,⟨219,amT⟩,⟨220,amU⟩,⟨226,amV⟩,⟨227,amW⟩,⟨228,amX⟩,⟨229,amY⟩,⟨231,amZ⟩,⟨232,IB⟩,⟨234,am0⟩,⟨235,am1⟩,⟨236,am2⟩,⟨238,am3⟩,⟨239,DJ⟩,⟨247,am4⟩,⟨248,am5⟩,⟨249,DL⟩,⟨252,am6⟩,⟨265,IC⟩,⟨266,wa⟩,⟨267,yz⟩,⟨268,ID⟩,⟨269,DN⟩,⟨275,II⟩,⟨276,IJ⟩,⟨280,am7⟩,⟨282,am8⟩,⟨284,am9⟩,⟨285,ana⟩,⟨287,anb⟩,⟨290,ane⟩,⟨301,IK⟩,⟨304,anf⟩,⟨305,ang⟩,⟨307,anh⟩,⟨310,ani⟩,⟨312,anj⟩,⟨313,ank⟩,⟨321,anl⟩,⟨344,IP⟩,⟨345,DV⟩,⟨347,IQ⟩,⟨350,ann⟩,⟨352,ano⟩,⟨353,anp⟩,⟨354,anq⟩,⟨363,anr⟩,⟨364,ans⟩,⟨365,ant⟩,⟨367,anu⟩,⟨383,anv⟩,⟨396,anw⟩,⟨397,anx⟩,⟨398,anz⟩,⟨403,anA⟩,⟨404,anB⟩,⟨405,anC⟩,⟨406,anD⟩,⟨407,anE⟩,⟨430,anF⟩,⟨431,anG⟩,⟨432,anH⟩,⟨435,anI⟩,⟨436,anJ⟩,⟨437,anK⟩,⟨462,anL⟩,⟨463,anM⟩,⟨465,anN⟩,⟨469,anO⟩,⟨603,anP⟩]
noncomputable def YD:List (Nat×dM):=[(91,.native sQ),(165,.native sQ),(468,.native NQ),(123,.native GH),(278,.native Ag),(203,.qF fun _=>true)]++Kt ali
noncomputable def alE:Tr dM:=uI YD
noncomputable def Ds (f:FuncId):Option dM:=Dt alE f
def h0:ag:=⟨1000,.leaf⟩
noncomputable def ei:cb:=aj Ds 1000 30
noncomputable def alm:List (Σf,iv f):=[⟨3,x3⟩,⟨4,x4⟩,⟨5,x5⟩,⟨6,x6⟩,⟨7,x7⟩,⟨8,x8⟩,⟨9,x9⟩,⟨10,Pl⟩,⟨11,Po⟩,⟨12,Pu⟩,⟨13,Pv⟩,⟨14,Pw⟩,⟨15,Px⟩,⟨17,PA⟩,⟨18,PB⟩,⟨19,PM⟩,⟨20,Iy⟩,⟨21,IA⟩,⟨22,DI⟩,⟨25,PQ⟩,⟨26,DM⟩,⟨27,IE⟩,⟨28,wb⟩,⟨30,P3⟩,⟨31,P4⟩,⟨32,uL⟩,⟨33,P6⟩,⟨34,Qi⟩,⟨37,yB⟩,⟨40,Qo⟩,⟨41,x41⟩,⟨42,DX⟩,⟨43,AV⟩,⟨47,Qq⟩,⟨48,Qr⟩,⟨49,Qs⟩,⟨50,DY⟩,⟨51,IV⟩,⟨53,IW⟩,⟨54,IX⟩,⟨55,Qt⟩,⟨56,Qu⟩,⟨57,IY⟩,⟨58,Qv⟩,⟨59,Qw⟩,⟨60,Qx⟩,⟨62,AW⟩,⟨67,IZ⟩,⟨71,I0⟩,⟨72,I1⟩,⟨82,Qy⟩,⟨83,Qz⟩,⟨85,QA⟩,⟨87,I2⟩,⟨90,I4⟩,⟨92,I5⟩,⟨96,I6⟩,⟨97,QB⟩,⟨103,Pm⟩,⟨108,Pn⟩,⟨109,Ik⟩,⟨114,Pp⟩,⟨115,Pq⟩,⟨116,Pr⟩,⟨117,Ps⟩,⟨118,Pt⟩,⟨126,Il⟩,⟨152,Py⟩,⟨154,Pz⟩,⟨155,Im⟩,⟨156,Io⟩,⟨157,Ip⟩,⟨158,Iq⟩,⟨159,Ir⟩,⟨167,Is⟩,⟨168,Iu⟩,⟨171,Iv⟩,⟨174,DH⟩,⟨180,PD⟩,⟨181,Iw⟩,⟨184,PE⟩,⟨185,PF⟩,⟨186,PG⟩,⟨187,PH⟩,⟨188,PI⟩,⟨189,PJ⟩,⟨190,PN⟩,⟨199,Ix⟩,⟨200,nI⟩,⟨201,PO⟩,⟨202,Iz⟩,⟨232,IB⟩,⟨239,DJ⟩,⟨249,DL⟩,⟨253,PR⟩,⟨254,PT⟩,⟨255,lU⟩,⟨256,PU⟩,⟨257,PV⟩,⟨258,PW⟩,⟨259,PX⟩,⟨265,IC⟩,⟨266,wa⟩,⟨267,yz⟩,⟨268,ID⟩,⟨269,DN⟩,⟨270,IF⟩,⟨271,IG⟩,⟨272,AR⟩,⟨273,IH⟩,⟨274,PY⟩,⟨275,II⟩,⟨276,IJ⟩,⟨277,PZ⟩,⟨279,P0⟩,⟨301,IK⟩,⟨325,P5⟩,⟨326,DP⟩,⟨327,anm⟩,⟨328,DQ⟩,⟨329,IL⟩,⟨330,P7⟩,⟨331,P8⟩,⟨332,P9⟩,⟨333,AU⟩,⟨334,Qd⟩,⟨335,Qe⟩,⟨336,Qf⟩,⟨337,Qg⟩,⟨338,DT⟩,⟨339,Qh⟩,⟨340,IM⟩,⟨343,DU⟩,⟨344,IP⟩,⟨345,DV⟩,⟨346,Qj⟩,⟨347,IQ⟩,⟨372,wc⟩,⟨373,IU⟩,⟨374,Qk⟩,⟨375,yC⟩,⟨376,Ql⟩,⟨377,Qm⟩,⟨378,Qn⟩,⟨401,Qp⟩,⟨402,DW⟩]
noncomputable def YE:List (Nat×dM):=[(91,.native sQ),(165,.native sQ),(278,.native Ag),(16,.native (gk ei h0 16)),(23,.native (gk ei h0 23)),(24,.native (gk ei h0 24)),(29,.native (gk ei h0 29)),(35,.native (gk ei h0 35)),(38,.native (gk ei h0 38)),(61,.native (gk ei h0 61)),(81,.native (gk ei h0 81)),(84,.native (gk ei h0 84)),(86,.native (gk ei h0 86)),(95,.native (gk ei h0 95)),(166,.native (gk ei h0 166)),(36,.native (pq ei h0 36)),(39,.native (pq ei h0 39)),(93,.native (pq ei h0 93))]++Kt alm
noncomputable def alG:Tr dM:=uI YE
noncomputable def ak (f:FuncId):Option dM:=Dt alG f
end
end Go.Sh
