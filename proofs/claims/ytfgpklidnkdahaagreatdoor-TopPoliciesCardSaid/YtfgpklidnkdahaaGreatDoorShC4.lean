/-
  Slices that are appended to, and the format of a policy. No conditions beyond those that stand in the theorems.
-/
import Derived.Test.YtfgpklidnkdahaaGreatDoorShC2
import Derived.Test.YtfgpklidnkdahaaGreatDoorShC1
import Derived.Test.YtfgpklidnkdahaaGreatDoorShC3
set_option linter.all false
set_option maxHeartbeats 20000000
set_option maxRecDepth 10000
namespace Go.Sh
section
theorem aaZ (a b:List Nat):bX .lss (.str a) (.str b)=some (.bool (ou a b)):=rfl
theorem akS (A B:List (List Nat)):bZ (A++B)=bZ A++bZ B:=by simp[bZ]
theorem akT (L:List (List Nat)):((bZ L).flatten).all SV.one=true:=by
 rw[vU,List.all_eq_true];intro x hx;obtain⟨s,_,rfl⟩:=List.mem_map.1 hx;rfl
theorem akU (L:List (List Nat)) (k:Nat):(bZ L).take k=bZ (L.take k):=by simp[bZ]
abbrev Gr:=List Nat×SV×List (List Nat)
def iQ (g:Gr):List SV:=[.str g.1,g.2.1]
structure Zj (H:ag) (g:Gr):Prop where
 nm:g.1∈fY
 sl:br H g.2.1 1 (bZ g.2.2)
 len:g.2.2.length<=20
 mem:∀m∈g.2.2,m∈dC
structure Ec (H:ag) (v:SV) (G:List Gr):Prop where
 sl:br H v 2 (G.map iQ)
 at_:∀g∈G,Zj H g
 len:G.length<=3
theorem Ec.ax {H H':ag} {v:SV} {G:List Gr} (h:Ec H v G) (hE:Ext H H'):Ec H' v G:=
 ⟨h.sl.ax hE,fun g hg=>⟨(h.at_ g hg).nm,(h.at_ g hg).sl.ax hE,(h.at_ g hg).len,(h.at_ g hg).mem⟩,h.len⟩
theorem adn:∀s∈fY,s∈zY:=by decide+kernel
theorem lx {q:Option cz} {o z i m:Nat} {x:List SV} (h:aq q o z=some x) (him:i+m<=z):aq q (o+i) m=some ((x.drop i).take m):=by
 cases q with
 |none=>cases h
 |some ob=>
  cases ob with
  |row cs e ex ro frz=>
   simp only[aq]at h ⊢;cases hle:Nat.ble (o+z) cs.length with
   |false=>rw[hle]at h;cases h
   |true=>
    rw[hle]at h;have hle:=Nat.le_of_ble_eq_true hle;rw[dN (show o+i+m<=cs.length by omega)];have h:=Option.some.inj h;rw[<-h,List.drop_take,List.take_take,List.drop_drop,Nat.min_eq_left om]
  |_=>cases h
def AF (t:Tt):List SV:=[.int .i64 (t.1:Int),.str t.2]
theorem abe (t:Tt):bD (.agg (AF t)) (.agg (AF t))=true:=by simp[AF,bD,eF,eg,gG]
theorem EL (a b:Tt):hY true [(0,1),(1,2)] (.agg (AF a)) (.agg (AF b))=some (decide (a=b)):=by
 obtain⟨a1,a2⟩:=a;obtain⟨b1,b2⟩:=b;simp only[hY,AF,jX,oS,List.getElem?_cons_zero,List.getElem?_cons_succ];by_cases h1:a1=b1
 ·subst h1;by_cases h2:a2=b2
  ·subst h2;simp[gG]
  ·simp[gG,h2]
 ·have e:((a1:Int)==(b1:Int))=false:=beq_false_of_ne om;simp[e,h1]
theorem GS.dy {M k p:Nat} {H1 H2:ag} (h:GS M k H1 H2):cR k p H1 H2:=⟨h.1,fun b hb h1 _=>h.2.1 b hb h1⟩
theorem ta.gw {M k:Nat} {H1 H2:ag} (h:ta M H1 H2 k):GS M k H1 H2:=⟨Nat.le_of_eq h.1.symm,fun b _ aP=>h.2.1 b aP,h.2.2⟩
theorem ahc {lf n:Nat} {H:ag} {v:SV} (hv:SV.one v=true) (hn:1<=n):aj ak lf n 4 [v] H=some (.ptr H.next 0,H.push (.row [v,.int .i64 ((0:Nat):Int)] 48 true false 0)):=by
 obtain⟨n,rfl⟩:=aN (n:=n);have hc:v.cells=[v]:=by cases v<;>first|rfl|cases hv
 have key:∃w H',aj ak lf (n+1) 4 [v] H=some (w,H')/\w=.ptr H.next 0/\H'=H.push (.row [v,.int .i64 ((0:Nat):Int)] 48 true false 0):=by
  refine cx x4.1 ?_;refine af @hc ?_;refine aO ae ?_;exact(⟨rfl,rfl⟩)
 obtain⟨w,H',h,rfl,rfl⟩:=key;exact h
end
section
theorem alg:ak 93=some (.native (pq ei h0 93)):=by kernel_rfl
def zW:List (List Nat)->List Nat
 |[]=>[]
 |m::r=>m++(r.map (32:: ·)).flatten
def Nj (r:Option (SV×ag)) (ms:List (List Nat)):Bool:=match r with
 |some (.slice b 0 n (some c) 1,H1)=>Nat.ble h0.next b&&Nat.blt b H1.next&&Nat.ble h0.next H1.next&&Nat.beq n ms.length&&Nat.beq c n&&(match H1.get b with
  |some (.row cs _ _ false _)=>eg cs (ms.map SV.str)
  |_=>false)
 |_=>false
theorem agR (N M:Nat) (L:List (List Nat)):cj (nG N M) (L.map SV.str)=some (L.map SV.str):=by
 induction L with
 |nil=>rfl
 |cons x L ih=>simp only[List.map_cons,cj,ih];rfl
theorem akW {f:FuncId} {args:List SV} {ms:List (List Nat)} (ht:ak f=some (.native (pq ei h0 f))) (ha:args.all SV.pN=true) (h:Nj (gm f args) ms=true) {lf n:Nat} (hn:1<=n) (H:ag):
 ∃v H',aj ak lf n f args H=some (v,H')/\Ext H H'/\RB H.next H' v 1 (bZ ms):=by
 obtain⟨n,rfl⟩:=aN (n:=n);unfold gm at h;rw[yN]at h;have hB:aj Ds 1000 30 f args h0=ei f args h0:=rfl;rw[hB]at h;unfold Nj at h;split at h
 ·rename_i b k c H1 hc;simp only[Bool.and_eq_true]at h;obtain⟨⟨⟨⟨⟨h1,h2⟩,h3⟩,h4⟩,h5⟩,h6⟩:=h;split at h6
  ·rename_i cs e ex frz hg;have h6:=wu h6;subst h6;have h1:=Nat.le_of_ble_eq_true h1;have h3:=Nat.le_of_ble_eq_true h3;have h4:=Nat.eq_of_beq_eq_true h4;have h5:=Nat.eq_of_beq_eq_true h5;have h2:b<H1.next:=by simpa[Nat.blt_eq]using h2
   subst h4;subst h5;have hsh:uC h0.next H.next (.slice b 0 ms.length (some ms.length) 1)=some (.slice (b-h0.next+H.next) 0 ms.length (some ms.length) 1):=by
    simp only[uC,vS,nG,Nat.ble_eq_true_of_le h1]
   have key:=Wx ha hc h3 (H:=H) hsh;refine⟨_,H.mv H1 h0.next H.next (H1.next-h0.next),?_,⟨by rw[uu];omega,fun q hq=>Af _ _ _ _ hq _⟩,sZ _,.inr ⟨b-h0.next+H.next,some ms.length,e,ex,false,frz,by rw[kt],(fun q h=>by cases h;rw[kt]),by omega,by rw[uu];omega,?_⟩⟩
   ·simp only[aj,ht];exact key
   ·have:=GF H H1 h0.next H.next (H1.next-h0.next) (b-h0.next) om;rw[show b-h0.next+H.next=H.next+(b-h0.next)by omega,this,show h0.next+(b-h0.next)=b by omega,hg];simp only[uB,agR h0.next H.next ms,vU]
  ·cases h6
 ·cases h
noncomputable def me (ms:List (List Nat)):Bool:=Nj (gm 93 [.str (zW ms),.func 94 [] []]) ms
theorem af5:me []=true:=by kernel_rfl
theorem af6:dC.all (fun a=>me [a])=true:=by kernel_rfl
theorem af7:dC.all (fun a=>dC.all fun b=>me [a,b])=true:=by kernel_rfl
end
end Go.Sh
