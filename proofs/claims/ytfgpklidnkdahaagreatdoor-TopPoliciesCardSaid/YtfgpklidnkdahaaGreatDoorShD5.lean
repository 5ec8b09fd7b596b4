/-
  The plain law of changes of sections. No conditions beyond those that stand in the theorems.
-/
import Derived.Test.YtfgpklidnkdahaaGreatDoorShD3
import Derived.Test.YtfgpklidnkdahaaGreatDoorShD4
set_option linter.all false
set_option maxHeartbeats 20000000
set_option maxRecDepth 10000
namespace Go.Sh
section
def iz {α:Type} (p:α->Bool):List α->Nat->Option Nat
 |[],_=>none
 |x::l,i=>if p x then some i else iz p l (i+1)
theorem EW {α:Type} {p:α->Bool} {L:List α} {i:Nat} {x:α} (h:L[i]? =some x):iz p (L.drop i) i=if p x then some i else iz p (L.drop (i+1)) (i+1):=by
 have hi:i<L.length:=(List.getElem?_eq_some_iff.1 h).1;rw[List.drop_eq_getElem_cons hi,show L[i]=x from by rw[List.getElem?_eq_getElem hi]at h;exact Option.some.inj h,iz]
theorem EV {α:Type} (p:α->Bool) (L:List α):iz p (L.drop L.length) L.length=none:=by rw[List.drop_length];rfl
theorem KL {α:Type} {p:α->Bool}:∀{L:List α} {k i:Nat},iz p L k=some i->k<=i/\∃x,L[i-k]? =some x/\p x=true
 |x::l,k,i,h=>by
  rw[iz]at h;by_cases hp:p x=true
  ·rw[if_pos hp]at h;cases h;exact⟨Nat.le_refl _,x,by rw[Nat.sub_self];rfl,hp⟩
  ·rw[if_neg hp]at h;obtain⟨h1,y,h2,h3⟩:=KL h;refine⟨by omega,y,?_,h3⟩;rw[show i-k=(i-(k+1))+1 by omega,List.getElem?_cons_succ];exact h2
theorem KK {s:List Nat}:∀{L:List (List Nat)} {k:Nat},(iz (fun x=>decide (x=s)) L k).isSome=decide (s∈L)
 |[],k=>by simp[iz]
 |x::l,k=>by
  rw[iz];by_cases hp:x=s
  ·subst hp;simp
  ·rw[if_neg (by simpa using hp),KK (L:=l)];have:s≠x:=fun e=>hp e.symm
   simp[this]
def GP (o:Option Nat):Int:=match o with|some i=>(i:Int)|none=> -1
theorem LJ {s:List Nat} {pl:List Bool}:∀(f a:Nat) (x:cW),x∈j0 s pl f a->a<=x.aw/\x.aw<=s.length/\x.to=s.length
 |0,_,x,h=>by simp[j0]at h
 |f+1,a,x,h=>by
  rw[j0]at h;split at h
  ·rename_i ha;rcases List.mem_append.1 h with h|h
   ·unfold py at h;split at h
    ·rw[List.mem_singleton]at h;subst h;exact⟨Nat.le_refl _,Nat.le_of_lt ha,rfl⟩
    ·simp at h
   ·obtain⟨h1,h2,h3⟩:=LJ f _ x h;have:=Bb s a;exact⟨by omega,h2,h3⟩
  ·simp at h
theorem Uc {s:List Nat} {pl:List Bool}:∀(f a:Nat),(j0 s pl f a).Pairwise fun x y=>x.aw<=y.aw
 |0,_=>List.Pairwise.nil
 |f+1,a=>by
  rw[j0];split
  ·rename_i ha;have hb:=Bb s a;refine List.pairwise_append.2 ⟨?_,Uc f _,fun x hx y hy=>?_⟩
   ·unfold py;split
    ·exact List.pairwise_singleton _ _
    ·exact List.Pairwise.nil
   ·unfold py at hx;split at hx
    ·rw[List.mem_singleton]at hx;subst hx;have:=(LJ f _ y hy).1;show a<=y.aw;omega
    ·simp at hx
  ·exact List.Pairwise.nil
theorem X1 {N:Nat}:∀{L:List cW},(L.Pairwise fun x y=>x.aw<=y.aw)->(∀x∈L,x.aw<=N/\x.to=N)->∀x∈jA L,x.aw<=x.to/\x.to<=N
 |[],_,_,x,hx=>by simp[jA]at hx
 |y::L,hp,hN,x,hx=>by
  rw[List.pairwise_cons]at hp;rcases List.mem_cons.1 hx with rfl|hx
  ·have hy:=hN y (List.mem_cons_self ..);cases hf:L.find? (fun z=>decide (z.level<=y.level))with
   |none=>
    simp only;omega
   |some z=>
    have hz:=List.mem_of_find?_eq_some hf;have:=hp.1 z hz;have:=(hN z (List.mem_cons_of_mem _ hz)).1;simp only;omega
  ·exact X1 hp.2 (fun z hz=>hN z (List.mem_cons_of_mem _ hz)) x hx
theorem X2 {s:List Nat} {x:cW} (h:x∈lR s):x.aw<=x.to/\x.to<=s.length:=
 X1 (Uc _ _) (fun y hy=>(LJ _ _ y hy).2) x h
theorem OG (s:List Nat):(lR s).length<=s.length+1:=by
 have:∀(f a:Nat),(j0 s (fD s) f a).length<=f:=by
  intro f
  induction f with
  |zero=>intro a;exact Nat.le_refl _
  |succ f ih=>
   intro a;rw[j0];split
   ·rw[List.length_append];have:=ih (min (brk s a+1) s.length);have:(py s (fD s) a).length<=1:=by unfold py;split<;>simp
    omega
   ·simp
 unfold lR;rw[rP];exact this _ _
def mM (s:List Nat):List Nat:=(b9 isSp s).dropWhile isSp
def oT (L:List cW) (t:List Nat):Option Nat:=iz (fun x=>decide (x.title=t)) L 0
def lr (s t:List Nat):List Nat×Bool:=match oT (lR s) (mM t)with
 |some i=>match(lR s)[i]? with
  |some x=>((s.drop x.aw).take (x.to-x.aw),true)
  |none=>([],false)
 |none=>([],false)
def lA (sec o w:List Nat):Bool:=if sec=[]then decide (o≠w)else(!decide ((lr o sec).2=(lr w sec).2)||decide ((lr o sec).1≠(lr w sec).1))
def jE (S:List (List Nat)) (t:Tt) (o w:List Nat):List Gd->Nat->Nat
 |[],r=>r
 |x::E,r=>if(decide (x.t≠t)||decide (x.g∈S)||!lA x.s o w)=true then jE S t o w E r else if x.st=true then 3 else jE S t o w E 2
section
variable {lf n:Nat} {H:ag}
theorem HE {v:SV} {S:List (List Nat)} {s:List Nat} (hS:br H v 1 (bZ S)) (hl:S.length<100000) (hn:1<=n) (aC:600000<lf):
 aj ak lf n 58 [v,.str s] H=some (.int .i64 (GP (iz (fun x=>decide (x=s)) S 0)),H):=by
 obtain⟨n,rfl⟩:=aN (n:=n);have aW:=hS.cA;rw[kt]at aW;have key:∃w H',aj ak lf (n+1) 58 [v,.str s] H=some (w,H')/\w=.int .i64 (GP (iz (fun x=>decide (x=s)) S 0))/\H'=H:=by
  refine cx Qv.1 ?_;refine af @aW ?_;refine bH (I:=fun m ts D H'=>D=[]/\H'=H/\∃i:Nat,m=S.length-i/\i<=S.length/\iz (fun x=>decide (x=s)) S 0=iz (fun x=>decide (x=s)) (S.drop i) i/\∃z:Nat->SV,ts=((v)::(.str s)::zz z 2 5 ((.int .i64 (S.length:Int))::(.int .i64 (i:Int))::zz z 9 10 []):T)/\(True)) ?_ S.length ?_ om
  ·rintro m ts D H' ⟨rfl,rfl,i,rfl,hi,hf,⟨z,rfl, -⟩⟩;by_cases bw:i<S.length
   ·have d1:decide (((i:Nat):Int)<((S.length:Nat):Int))=true:=dt;have hx:S[i]? =some S[i]:=List.getElem?_eq_getElem bw;have eX:(bZ S)[i]? =some [.str S[i]]:=yn hx;obtain⟨b,o,h1,h2,h3,_⟩:=hS.at_ eX;rw[EW hx]at hf;generalize S[i]=x at hx eX h3 hf;by_cases hc:x=s
    ·rw[if_pos (by simpa using hc)]at hf;have d2:decide (s=x)=true:=by simpa using hc.symm
     refine af @d1 ?_;refine ar ae ?_;refine af (An @h1 (An @h3 @d2)) ?_;refine ar ae ?_;refine af ae ?_;refine aO ae ?_;exact(⟨by rw[hf];rfl,rfl⟩)
    ·rw[if_neg (by simpa using hc)]at hf;have d2:decide (s=x)=false:=by simpa using fun e=>hc e.symm
     refine af @d1 ?_;refine ar ae ?_;refine af (An @h1 (An @h3 @d2)) ?_;refine ah ae ?_;refine af ae ?_;refine aT (S.length-(i+1)) om ⟨rfl,rfl,i+1,rfl,by omega,hf,aw⟩
   ·have gV:i=S.length:=om;subst gV;have d1:decide (((S.length:Nat):Int)<((S.length:Nat):Int))=false:=by simp
    rw[EV]at hf;refine af @d1 ?_;refine ah ae ?_;refine af ae ?_;refine aO ae ?_;exact(⟨by rw[hf];rfl,rfl⟩)
  ·exact⟨rfl,rfl,0,rfl,Nat.zero_le _,rfl,aw⟩
 obtain⟨w,H',h,rfl,rfl⟩:=key;exact h
theorem Dg {v:SV} {S:List (List Nat)} {s:List Nat} (hS:br H v 1 (bZ S)) (hl:S.length<100000) (hn:2<=n) (aC:600000<lf):
 aj ak lf n 30 [v,.str s] H=some (.bool (decide (s∈S)),H):=by
 obtain⟨n,rfl⟩:=aN (n:=n);have hc:=HE (lf:=lf) (n:=n) (s:=s) hS hl om aC;have hm:=KK (s:=s) (L:=S) (k:=0);have hd:decide (GP (iz (fun x=>decide (x=s)) S 0)>=((0:Nat):Int))=decide (s∈S):=by
  rw[<-hm];cases iz (fun x=>decide (x=s)) S 0 with
  |none=>rfl
  |some i=>simp[GP]
 have key:∃w H',aj ak lf (n+1) 30 [v,.str s] H=some (w,H')/\w=.bool (decide (s∈S))/\H'=H:=by
  refine cx P3.1 ?_;refine af ae ?_;refine ai ae hc ?_;refine af @hd ?_;refine aO ae ?_;exact(⟨rfl,rfl⟩)
 obtain⟨w,H',h,rfl,rfl⟩:=key;exact h
end
end
end Go.Sh
