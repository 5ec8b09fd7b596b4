/-
  The generator of policies gives a policy of a finite kind. No conditions beyond those that stand in the theorems.
-/
import Derived.Test.YtfgpklidnkdahaaGreatDoorShC4
set_option linter.all false
set_option maxHeartbeats 20000000
set_option maxRecDepth 10000
namespace Go.Sh
section
def rI (n:Nat):List (List Nat):=GG++[64::rO]++(fY.take n).map (64:: ·)
theorem NJ:∀n∈[0,1,2,3],∀m∈rI n,m∈dC:=by decide+kernel
structure Zi (B:Nat) (H:ag) (n:Nat) (g:Gr):Prop where
 sl:RB B H g.2.1 1 (bZ g.2.2)
 len:g.2.2.length<=3
 mem:∀m∈g.2.2,m∈rI n
structure rT (B:Nat) (H:ag) (n k:Nat) (v:SV) (G:List Gr):Prop where
 sl:RB B H v 2 (G.map iQ)
 at_:∀g∈G,Zi B H n g
 nm:G.map (·.1)=fY.take k
 len:G.length=k
theorem rT.ax {B n j:Nat} {H H':ag} {v:SV} {G:List Gr} (h:rT B H n j v G) {k p:Nat} (hk:k<B) (hp:p<B\/H.next<=p) (hF:cR k p H H'):rT B H' n j v G:=
 ⟨h.sl.ax hk hp hF,fun g hg=>⟨(h.at_ g hg).sl.ax hk hp hF,(h.at_ g hg).len,(h.at_ g hg).mem⟩,h.nm,h.len⟩
theorem rT.ext {B n j:Nat} {H H':ag} {v:SV} {G:List Gr} (h:rT B H n j v G) (hE:Ext H H'):rT B H' n j v G:=
 ⟨h.sl.ext hE,fun g hg=>⟨(h.at_ g hg).sl.ext hE,(h.at_ g hg).len,(h.at_ g hg).mem⟩,h.nm,h.len⟩
structure Rl where
 al:Bool
 r:Nat
 g:List Nat
 k:Nat
 t:Tt
def gD (x:Rl):List SV:=[.bool x.al,.int .i64 (x.r:Int),.str x.g,.int .i64 (x.k:Int),.int .i64 (x.t.1:Int),.str x.t.2]
structure pE (n:Nat) (x:Rl):Prop where
 r1:1<=x.r
 r5:x.r<=5
 g:x.g∈sW::rO::fY.take n
 sc:(x.k=1/\x.t=(0,[]))\/(x.k=2/\x.t.1<6/\x.t.2=[])\/(x.k=3/\x.t∈gn)
structure Gd where
 st:Bool
 g:List Nat
 t:Tt
 s:List Nat
def iA (x:Gd):List SV:=[.bool x.st,.str x.g,.int .i64 (x.t.1:Int),.str x.t.2,.str x.s]
structure qy (n:Nat) (x:Gd):Prop where
 g:x.g∈sW::rO::fY.take n
 t:x.t∈gn
 s:x.s∈pz
structure A4 (B:Nat) (H:ag) (n:Nat) (gv rv dv:SV) (G:List Gr) (R:List Rl) (E:List Gd):Prop where
 n3:n<=3
 gs:rT B H n n gv G
 rs:RB B H rv 6 (R.map gD)
 sU:R.length<=7
 uy:∀x∈R,pE n x
 ds:RB B H dv 5 (E.map iA)
 se:E.length<=3
 qG:∀x∈E,qy n x
theorem OZ:∀sp∈[0,1,2,3,4,5],∀s∈HZ,(sp,s)∈gn:=by decide+kernel
theorem CY {sp:Nat} (h:sp<6):sp∈[0,1,2,3,4,5]:=by
 have:sp=0\/sp=1\/sp=2\/sp=3\/sp=4\/sp=5:=om;simpa using this
theorem aa3 (g:Gr) {H:ag} {z:Nat} {L:List (List SV)} (h:br H g.2.1 z L):eg (iQ g) (iQ g)=true:=by
 have:=h.bq;rcases h.2 with⟨_,e⟩|⟨b,c,e,ex,ro,frz,e',_⟩
 ·simp[iQ,eF,eg,gG,e]
 ·simp only[iQ,eg,e'];rw[e']at this;simpa[eF,gG,bD]using this
theorem Ti {n k:Nat} (hk:k<n) (hn:n<=3):∃s,fY[k]? =some s/\fY.take (k+1)=fY.take k++[s]/\s∈fY.take n/\s.length<=10:=by
 have h3:k<fY.length:=by simp[fY];omega
 refine⟨fY[k],List.getElem?_eq_getElem h3,by rw[List.take_succ,List.getElem?_eq_getElem h3];rfl,?_⟩;refine⟨?_,(by decide:∀s∈fY,s.length<=10) _ (List.getElem_mem h3)⟩;rw[List.mem_take_iff_getElem];exact⟨k,by omega,rfl⟩
theorem adg {B n k:Nat} {H:ag} {v:SV} {G:List Gr} (h:rT B H n k v G):(G.map iQ).flatten.all SV.one=true:=by
 rw[List.all_eq_true];intro x hx;obtain⟨y,hy,rD⟩:=List.mem_flatten.1 hx;obtain⟨g,hg,rfl⟩:=List.mem_map.1 hy;simp only[iQ,List.mem_cons,List.not_mem_nil,or_false]at rD;rcases rD with rfl|rfl
 ·rfl
 ·exact(h.at_ g hg).sl.aQ.one
def JJ:er:=(.seq (.bJ [ox 11 (.mv (.c (.int .i64 (.ofNat 0))))]) (.block 4 (.loop (.seq (.seq (.bJ [oy 72 11,oy 73 0,⟨some 74,(.call 17 [(.t 73),(.c (.int .i64 (.ofNat 7)))]),none⟩,ox 75 (.bin .lss (.t 72) (.t 74))]) (.cond (.t 75) .skip (.exit 4))) (.seq (.block 5 (.seq (.bJ [oy 78 0,⟨some 79,(.call 17 [(.t 78),(.c (.int .i64 (.ofNat 3)))]),none⟩,ox 80 (.bin .gtr (.t 79) (.c (.int .i64 (.ofNat 0)))),oy 81 0,⟨some 82,(.call 17 [(.t 81),(.c (.int .i64 (.ofNat 5)))]),none⟩,ox 83 (.bin .add (.c (.int .i64 (.ofNat 1))) (.t 82)),oy 84 0,oy 85 10,⟨some 86,(.call 19 [(.t 84),(.t 85)]),none⟩,ox 87 (.build [(.bool false),(.int .i64 (.ofNat 0)),(.str []),(.int .i64 (.ofNat 0)),(.int .i64 (.ofNat 0)),(.str [])] [(0,(1,(.t 80))),(1,(1,(.t 83))),(2,(1,(.t 86)))]),ox 12 (.alloc [(.bool false),(.int .i64 (.ofNat 0)),(.str []),(.int .i64 (.ofNat 0)),(.int .i64 (.ofNat 0)),(.str [])] 55),⟨none,(.op (.store 6 (.t 12) (.t 87))),none⟩]) (.seq (.seq (.bJ [oy 88 0,⟨some 89,(.call 17 [(.t 88),(.c (.int .i64 (.ofNat 3)))]),none⟩]) (.block 6 (.seq (.bJ [ox 95 (.bin .eql (.t 89) (.c (.int .i64 (.ofNat 0)))),oy 94 95]) (.cond (.t 94) (.bJ [ox 96 (.build [(.int .i64 (.ofNat 0)),(.int .i64 (.ofNat 0)),(.str [])] [(0,(1,(.c (.int .i64 (.ofNat 1)))))]),ox 97 (.cC 3 (.t 12)),⟨none,(.op (.store 3 (.t 97) (.t 96))),none⟩]) (.seq (.bJ [ox 99 (.bin .eql (.t 89) (.c (.int .i64 (.ofNat 1)))),oy 98 99]) (.cond (.t 98) (.bJ [oy 100 0,⟨some 101,(.call 17 [(.t 100),(.c (.int .i64 (.ofNat 6)))]),none⟩,ox 102 (.build [(.int .i64 (.ofNat 0)),(.str [])] [(0,(1,(.t 101)))]),ox 103 (.build [(.int .i64 (.ofNat 0)),(.int .i64 (.ofNat 0)),(.str [])] [(0,(1,(.c (.int .i64 (.ofNat 2))))),(1,(2,(.t 102)))]),ox 104 (.cC 3 (.t 12)),⟨none,(.op (.store 3 (.t 104) (.t 103))),none⟩]) (.bJ [oy 90 0,⟨some 91,(.call 10 [(.t 90)]),none⟩,ox 92 (.build [(.int .i64 (.ofNat 0)),(.int .i64 (.ofNat 0)),(.str [])] [(0,(1,(.c (.int .i64 (.ofNat 3))))),(1,(2,(.t 91)))]),ox 93 (.cC 3 (.t 12)),⟨none,(.op (.store 3 (.t 93) (.t 92))),none⟩]))))))) (.hX [(ox 105 (.cC 1 (.t 3)),.pure),(ox 106 (.load false 1 (.t 105)),(.read 0 0)),(ox 107 (.app false 55 6 64 (.c .ao) (.t 106)),.cg),(ox 108 (.load true 6 (.t 12)),(.read 0 1)),(ox 109 (.hO 55 6 1 [(.bool false),(.int .i64 (.ofNat 0)),(.str []),(.int .i64 (.ofNat 0)),(.int .i64 (.ofNat 0)),(.str [])] [(0,(6,(.t 108)))]),(.hoist 0 1)),(ox 110 (.app false 55 6 64 (.t 107) (.t 109)),.cg),(ox 111 (.cC 1 (.t 3)),.pure),(⟨none,(.op (.store 1 (.t 111) (.t 110))),none⟩,.cg)] false)))) (.bJ [oy 76 11,ox 77 (.bin .add (.t 76) (.c (.int .i64 (.ofNat 1)))),oy 11 77]))))))
def JI:er:=(.seq (.bJ [ox 13 (.mv (.c (.int .i64 (.ofNat 0))))]) (.block 7 (.loop (.seq (.seq (.bJ [oy 112 13,oy 113 0,⟨some 114,(.call 17 [(.t 113),(.c (.int .i64 (.ofNat 4)))]),none⟩,ox 115 (.bin .lss (.t 112) (.t 114))]) (.cond (.t 115) .skip (.exit 7))) (.seq (.block 8 (.seq (.bJ [oy 118 0,⟨some 119,(.call 17 [(.t 118),(.c (.int .i64 (.ofNat 3)))]),none⟩,ox 120 (.bin .eql (.t 119) (.c (.int .i64 (.ofNat 0)))),oy 121 0,oy 122 10,⟨some 123,(.call 19 [(.t 121),(.t 122)]),none⟩,oy 124 0,⟨some 125,(.call 10 [(.t 124)]),none⟩,oy 126 0,ox 127 (.hO 9 1 4 [(.str []),(.str []),(.str []),(.str [])] [(0,(1,(.c (.str [])))),(1,(1,(.c (.str [115])))),(2,(1,(.c (.str [116])))),(3,(1,(.c (.str [97,32,98]))))]),⟨some 128,(.call 19 [(.t 126),(.t 127)]),none⟩,ox 129 (.build [(.bool false),(.str []),(.int .i64 (.ofNat 0)),(.str []),(.str [])] [(0,(1,(.t 120))),(1,(1,(.t 123))),(2,(2,(.t 125))),(4,(1,(.t 128)))]),ox 14 (.alloc [(.bool false),(.str []),(.int .i64 (.ofNat 0)),(.str []),(.str [])] 58),⟨none,(.op (.store 5 (.t 14) (.t 129))),none⟩]) (.hX [(ox 130 (.cC 2 (.t 3)),.pure),(ox 131 (.load false 1 (.t 130)),(.read 0 0)),(ox 132 (.app false 58 5 64 (.c .ao) (.t 131)),.cg),(ox 133 (.load true 5 (.t 14)),(.read 0 1)),(ox 134 (.hO 58 5 1 [(.bool false),(.str []),(.int .i64 (.ofNat 0)),(.str []),(.str [])] [(0,(5,(.t 133)))]),(.hoist 0 1)),(ox 135 (.app false 58 5 64 (.t 132) (.t 134)),.cg),(ox 136 (.cC 2 (.t 3)),.pure),(⟨none,(.op (.store 1 (.t 136) (.t 135))),none⟩,.cg)] false))) (.bJ [oy 116 13,ox 117 (.bin .add (.t 116) (.c (.int .i64 (.ofNat 1)))),oy 13 117]))))))
def RR:er:=(.seq (.bJ [ox 63 (.hO 9 1 2 [(.str []),(.str [])] [(0,(1,(.c (.str [97,108,108])))),(1,(1,(.c (.str [117,115,101,114,115]))))]),oy 64 4,oy 65 5,ox 66 (.lS 1 none (some (.t 65)) none (.t 64)),ox 67 (.app false 9 1 16 (.t 63) (.t 66)),oy 10 67]) (.seq (.bJ [ox 68 (.build [(.int .i64 (.ofNat 0)),(.int .i64 (.ofNat 0)),(.str [])] [(0,(1,(.c (.int .i64 (.ofNat 1)))))]),ox 69 (.build [(.bool false),(.int .i64 (.ofNat 0)),(.str []),(.int .i64 (.ofNat 0)),(.int .i64 (.ofNat 0)),(.str [])] [(0,(1,(.c (.bool true)))),(1,(1,(.c (.int .i64 (.ofNat 1))))),(2,(1,(.c (.str [97,108,108])))),(3,(3,(.t 68)))]),ox 70 (.hO 55 6 1 [(.bool false),(.int .i64 (.ofNat 0)),(.str []),(.int .i64 (.ofNat 0)),(.int .i64 (.ofNat 0)),(.str [])] [(0,(6,(.t 69)))]),ox 71 (.cC 1 (.t 3)),⟨none,(.op (.store 1 (.t 71) (.t 70))),none⟩]) (.seq JJ (.seq JI (.seq (.bJ [ox 137 (.load true 3 (.t 3)),⟨none,(.op (.store 3 (.t 2) (.t 137))),none⟩]) .ret)))))
end
section
def lN (n:Nat):List (List Nat):=sW::rO::fY.take n
theorem Ws (n:Nat):(lN n).length<=5:=by
 have:(fY.take n).length<=3:=by rw[List.length_take];simp only[fY,List.length_cons,List.length_nil];omega
 simp only[lN,List.length_cons];omega
theorem aa4 (a:Bool) (r:Nat) (g:List Nat) (k t:Nat) (s:List Nat):eg [.bool a,.int .i64 (r:Int),.str g,.int .i64 (k:Int),.int .i64 (t:Int),.str s] [.bool a,.int .i64 (r:Int),.str g,.int .i64 (k:Int),.int .i64 (t:Int),.str s]=true:=by simp[eF,eg,gG]
theorem aa2 (a:Bool) (g:List Nat) (t:Nat) (n s:List Nat):eg [.bool a,.str g,.int .i64 (t:Int),.str n,.str s] [.bool a,.str g,.int .i64 (t:Int),.str n,.str s]=true:=by simp[eF,eg,gG]
theorem ajv (R:List Rl):(R.map gD).flatten.all SV.one=true:=by
 rw[List.all_eq_true];intro x hx;obtain⟨y,hy,rD⟩:=List.mem_flatten.1 hx;obtain⟨g,hg,rfl⟩:=List.mem_map.1 hy;simp only[gD,List.mem_cons,List.not_mem_nil,or_false]at rD;rcases rD with rfl|rfl|rfl|rfl|rfl|rfl<;>rfl
theorem ada (R:List Gd):(R.map iA).flatten.all SV.one=true:=by
 rw[List.all_eq_true];intro x hx;obtain⟨y,hy,rD⟩:=List.mem_flatten.1 hx;obtain⟨g,hg,rfl⟩:=List.mem_map.1 hy;simp only[iA,List.mem_cons,List.not_mem_nil,or_false]at rD;rcases rD with rfl|rfl|rfl|rfl|rfl<;>rfl
theorem WH {lf n:Nat} {H:ag} {M kb B:Nat} {nv:SV} {L:List (List Nat)} (hT:cY M H kb) (hv:RB B H nv 1 (bZ L)) (FJ:kb<B) (h0:0<L.length) (hL:L.length<1000) (hn:2<=n):
 ∃(s:List Nat) (H':ag),aj ak lf n 19 [.ptr kb 0,nv] H=some (.str s,H')/\s∈L/\ta M H H' kb:=by
 rcases hv.2 with⟨h,_⟩|⟨b,c,e,ex,ro,frz,rfl,hc,hB,h2,h3⟩
 ·simp[bZ]at h;subst h;simp at h0
 ·rw[vU]at h3;rw[kt];exact NW hT h3 om h0 hL hn
section
variable {lf n:Nat} {H:ag}
@[reducible] def Zy (H1:ag) (M kb p2 p3 B nn:Nat) (gv nv:SV) (m:Nat) (ts:T) (D:DS) (H':ag):Prop:=
  D=[]/\cR kb p3 H1 H'/\cY M H' kb/\∃(R:List Rl) (rv:SV) (i:Nat),m=6-i/\i<=6/\R.length=i+1/\(∀x∈R,pE nn x)/\RB B H' rv 6 (R.map gD)/\H'.get p3=some (.row [gv,rv,.ao] 29 true false 0)/\
   ∃z:Nat->SV,ts=((.ptr kb 0)::z 1::(.ptr p2 0)::(.ptr p3 0)::zz z 4 6 ((nv)::(.int .i64 (i:Int))::zz z 12 126 []):T)/\(True)
theorem ajZ {M kb p2 p3 B nn:Nat} {gv nv rv:SV} {R:List Rl} {ts:T} (hT:cY M H kb) (FJ:kb<B) (afd:p3<B) (zJ:p3≠kb) (Lb:M<=p3) (hBn:B<=H.next) (zF:RB B H nv 1 (bZ (lN nn))) (bP:SV.one gv=true) (tZ:bD gv gv=true) (zi:R.length=1) (tO:∀x∈R,pE nn x) (um:RB B H rv 6 (R.map gD)) (ik:H.get p3=some (.row [gv,rv,.ao] 29 true false 0)) (hn:3<=n) (aC:1000<lf)
 (rz:∃z:Nat->SV,ts=((.ptr kb 0)::z 1::(.ptr p2 0)::(.ptr p3 0)::zz z 4 6 ((nv)::zz z 11 127 []):T)/\(True)):
 EC (aj ak lf n) lf JJ ts [] H fun x ts D H'=>x=.normal/\D=[]/\cR kb p3 H H'/\cY M H' kb/\∃(R:List Rl) (rv:SV),R.length<=7/\(∀x∈R,pE nn x)/\RB B H' rv 6 (R.map gD)/\H'.get p3=some (.row [gv,rv,.ao] 29 true false 0)/\
  ∃z:Nat->SV,ts=((.ptr kb 0)::z 1::(.ptr p2 0)::(.ptr p3 0)::zz z 4 6 ((nv)::zz z 11 127 []):T)/\(True):=by
 obtain⟨z,rfl, -⟩:=rz;unfold JJ;refine af ae ?_;refine bH (I:=Zy H M kb p2 p3 B nn gv nv) ?_ 6 ?_ om
 ·rintro m ts D H' ⟨rfl,hF,tP,R,rv,i,rfl,Un,qS,tO,um,ik,⟨z,rfl, -⟩⟩;have hle:=hF.1;have Mr:=zF.ax om (.inl om) hF;obtain⟨r1,H1,aV,h10,h11,ey⟩:=kO (lf:=lf) (n:=n) tP (m:=((7:Nat):Int)) om om om;obtain⟨r1,rfl⟩:∃k:Nat,r1=(k:Int):=⟨r1.toNat,by omega⟩;refine af ae ?_;refine ai ae aV ?_;refine af ae ?_;refine cst ae (fun hc=>?_) (fun hc=>?_)<;>try simp only[decide_eq_true_eq,decide_eq_false_iff_not,not_true_eq_false,not_false_eq_true,Int.not_lt,Int.not_le,ge_iff_le,gt_iff_lt]at hc
  ·obtain⟨r2,H2,aH,E5,tF,fI⟩:=kO (lf:=lf) (n:=n) ey.2.2 (m:=((3:Nat):Int)) om om om;obtain⟨r2,rfl⟩:∃k:Nat,r2=(k:Int):=⟨r2.toNat,by omega⟩;obtain⟨r3,H3,bf,h30,h31,ez⟩:=kO (lf:=lf) (n:=n) fI.2.2 (m:=((5:Nat):Int)) om om om;obtain⟨r3,rfl⟩:∃k:Nat,r3=(k:Int):=⟨r3.toNat,by omega⟩;have je:cR kb p3 H' H3:=ey.gw.dy.trans (fI.gw.dy.trans ez.gw.dy);obtain⟨g,H4,fx,o8,jx⟩:=WH (lf:=lf) (n:=n) ez.2.2 (Mr.ax om (.inl om) je) FJ (by simp[lN]) (by have:=Ws nn;omega) om;have pQ:cR kb p3 H' H4:=je.trans jx.gw.dy;have M4:(((1:Nat):Int)+(r3:Int))=((r3+1:Nat):Int):=om;obtain⟨H5,bg⟩:∃H5,(H4.push (.row [.bool false,.int .i64 ((0:Nat):Int),.str [],.int .i64 ((0:Nat):Int),.int .i64 ((0:Nat):Int),.str []] 55 true false 0)).put H4.next (.row [.bool (decide ((r2:Int)>((0:Nat):Int))),.int .i64 (((1:Nat):Int)+(r3:Int)),.str g,.int .i64 ((0:Nat):Int),.int .i64 ((0:Nat):Int),.str []] 55 true false 0)=H5:=⟨_,rfl⟩;have bm:Ext H4 H5:=by rw[<-bg];exact((Ext.refl H4).push _).put (Nat.le_refl _) _
   have tQ:cY M H5 kb:=by rw[<-bg];exact(jx.2.2.push _).put jx.2.2.2.1 _
   have fw:H5.get H4.next=some (.row [.bool (decide ((r2:Int)>((0:Nat):Int))),.int .i64 ((r3+1:Nat):Int),.str g,.int .i64 ((0:Nat):Int),.int .i64 ((0:Nat):Int),.str []] 55 true false 0):=by rw[<-bg,<-M4];exact bT _ _
   have iG:H5.next=H4.next+1:=by rw[<-bg];rfl
   obtain⟨r6,H6,cP,Tk,h61,lJ⟩:=kO (lf:=lf) (n:=n) tQ (m:=((3:Nat):Int)) om om om;obtain⟨r6,rfl⟩:∃k:Nat,r6=(k:Int):=⟨r6.toNat,by omega⟩;have UB:=pQ.1;have iC:=(lJ.2.1 H4.next om).trans fw;have mY:cR kb p3 H' H6:=pQ.trans (bm.dy.trans lJ.gw.dy);have xB:H6.next=H4.next+1:=by rw[lJ.1];exact iG
   refine af ae ?_;refine ai ae aH ?_;refine af ae ?_;refine ai ae bf ?_;refine af ae ?_;refine ai ae fx ?_;refine af @bg ?_;refine ai ae cP ?_;refine af ae ?_;have zE:∃sp s2,True:=⟨0,([]:List Nat),trivial⟩;refine nJ (fun ts H8=>cR kb H4.next H6 H8/\cY M H8 kb/\∃(sk:Nat) (st:Tt),pE nn ⟨decide ((r2:Int)>((0:Nat):Int)),r3+1,g,sk,st⟩/\H8.get H4.next=some (.row [.bool (decide ((r2:Int)>((0:Nat):Int))),.int .i64 ((r3+1:Nat):Int),.str g,.int .i64 (sk:Int),.int .i64 (st.1:Int),.str st.2] 55 true false 0)/\∃z:Nat->SV,ts=((.ptr kb 0)::z 1::(.ptr p2 0)::(.ptr p3 0)::zz z 4 6 ((nv)::(.int .i64 (i:Int))::(.ptr H4.next 0)::zz z 13 125 []):T)/\(True)) ?_ ?_
   ·refine cst ae (fun hc=>?_) (fun hc=>?_)<;>try simp only[decide_eq_true_eq,decide_eq_false_iff_not,not_true_eq_false,not_false_eq_true,Int.not_lt,Int.not_le,ge_iff_le,gt_iff_lt]at hc
    ·refine af @iC ?_;exact⟨rfl,rfl,(cR.refl ..).put _,lJ.2.2.put om _,1,(0,[]),⟨by show 1<=r3+1;omega,by show r3+1<=5;omega,o8,.inl ⟨rfl,rfl⟩⟩,bT _ _,aw⟩
    ·refine af ae ?_;refine cst ae (fun hc=>?_) (fun hc=>?_)<;>try simp only[decide_eq_true_eq,decide_eq_false_iff_not,not_true_eq_false,not_false_eq_true,Int.not_lt,Int.not_le,ge_iff_le,gt_iff_lt]at hc
     ·obtain⟨r7,H7,iD,h70,h71,sK⟩:=kO (lf:=lf) (n:=n) lJ.2.2 (m:=((6:Nat):Int)) om om om;obtain⟨r7,rfl⟩:∃k:Nat,r7=(k:Int):=⟨r7.toNat,by omega⟩;have lD:=(sK.2.1 H4.next om).trans iC;refine af ae ?_;refine ai ae iD ?_;refine af @lD ?_;exact⟨rfl,rfl,(sK.gw.dy).put _,sK.2.2.put om _,2,(r7,[]),⟨by show 1<=r3+1;omega,by show r3+1<=5;omega,o8,.inr (.inl ⟨rfl,by show r7<6;omega,rfl⟩)⟩,bT _ _,aw⟩
     ·obtain⟨sp,s7,H7,iD,gh,ML,gU⟩:=O0 (lf:=lf) (n:=n) lJ.2.2 om;have lD:=gU.old om om iC;have MV:(Ie sp s7).cells=[.int .i64 (sp:Int),.str s7]:=rfl;refine af ae ?_;refine ai ae iD ?_;refine af (An @lD @MV) ?_;exact⟨rfl,rfl,(gU.dy).put _,gU.2.2.put om _,3,(sp,s7),⟨by show 1<=r3+1;omega,by show r3+1<=5;omega,o8,.inr (.inr ⟨rfl,OZ sp (CY gh) s7 ML⟩)⟩,bT _ _,aw⟩
   rintro aA H8 ⟨Fg,vf,sk,st,cZ,pV,⟨z,rfl, -⟩⟩;have zf:cR kb H4.next H' H8:=((ey.gw.dy.trans (fI.gw.dy.trans (ez.gw.dy.trans (jx.gw.dy.trans (bm.dy.trans lJ.gw.dy)))))).trans Fg;generalize fP:decide ((r2:Int)>((0:Nat):Int))=al at cZ pV;generalize hr:r3+1=r at cZ pV;obtain⟨nH,yk⟩:=st;have an7:=Fg.1;have xF:=um.ax om (.inr UB) zf;have zH:=zf.old om zJ om ik;have MG:=xF.aQ.bq;have iU:=xF.aQ.one;have eI:=aa4 al r g sk nH yk;have mq:bD (.agg [.bool al,.int .i64 (r:Int),.str g,.int .i64 (sk:Int),.int .i64 (nH:Int),.str yk]) (.agg [.bool al,.int .i64 (r:Int),.str g,.int .i64 (sk:Int),.int .i64 (nH:Int),.str yk])=true:=eI;obtain⟨H9,mh⟩:∃H9,H8.push (.row [.bool al,.int .i64 (r:Int),.str g,.int .i64 (sk:Int),.int .i64 (nH:Int),.str yk] 55 true false 0)=H9:=⟨_,rfl⟩;have jH:Ext H8 H9:=by rw[<-mh];exact(Ext.refl _).push _
   have UI:H9.next=H8.next+1:=by rw[<-mh];rfl
   have gW:H9.get H8.next=some (.row [.bool al,.int .i64 (r:Int),.str g,.int .i64 (sk:Int),.int .i64 (nH:Int),.str yk] 55 true false 0):=by rw[<-mh];exact bd _
   obtain⟨v1,yG,v2,lW,fF,gI,wW,wX,eU⟩:=Jv (xF.ext jH).aQ (ajv R) (by rw[List.length_map];omega) (x:=gD ⟨al,r,g,sk,(nH,yk)⟩) rfl rfl gW om 55 64 om;have ri:=(jH.2 _ om).trans zH;have afa:=(wW.2 _ om).trans ri;have MC:=(wX.2 _ om).trans ri;have BS:=(jH.2 H4.next om).trans pV;have BQ:=(wW.2 H4.next om).trans BS;have Md:=(wW.2 H8.next om).trans gW;have Me:=(wX.2 H8.next om).trans gW;have ig:=eU.aQ.one;have aH:=eU.aQ.cells;have aD:=gY (o:=1) MC ig (by simp) om;refine Et ?_;refine ly ?_;refine wh ?_;refine xo (An @zH (An @pV @mh)) ?_;simp only[oK,List.map_cons,List.map_nil];refine af (An @ri (An @fF (An @BQ (An @gI (An @aH @aD))))) ?_;refine dB ?_ ?_
   ·exact dh (An @ri (An @BS (An @BQ (An @gW (An @Md (An @Me (An @MG (An @eI @mq))))))))
   ·refine af (c8 (k:=i) om) ?_;have xa:Ext H8 lW:=jH.trans wX;have qQ:cR kb p3 lW (lW.put p3 (.row [gv,v2,.ao] 29 true false 0)):=(cR.refl ..).put _;refine aT (6-(i+1)) om ⟨rfl,?_,?_,R++[⟨al,r,g,sk,(nH,yk)⟩],v2,i+1,rfl,by omega,by simp[qS],fun x hx=>?_,?_,bT _ _,aw⟩
    ·exact(hF.trans (((zf.trans xa.dy):cR kb H4.next H' lW).other (p:=p3) fun b hb _=>by omega)).put _
    ·exact(vf.ax xa.1 fun b hb=>xa.2 b (by have:=vf.2.1;omega)).put Lb _
    ·rcases List.mem_append.1 hx with h|h
     ·exact tO x h
     ·rw[List.mem_singleton.1 h];exact cZ
    ·have:=(eU.mono (B':=B) om).ax om (.inl om) qQ;simpa using this
  ·refine af ae ?_;exact⟨rfl,rfl,hF.trans ey.gw.dy,ey.2.2,R,rv,by omega,tO,um.ax om (.inl om) (ey.gw.dy:cR kb kb H' H1),(ey.2.1 _ zJ).trans ik,aw⟩
 ·exact⟨rfl,cR.refl ..,hT,R,rv,0,rfl,by omega,by omega,tO,um,ik,aw⟩
@[reducible] def Zz (H1:ag) (M kb p2 p3 B nn:Nat) (gv rv nv:SV) (m:Nat) (ts:T) (D:DS) (H':ag):Prop:=
  D=[]/\cR kb p3 H1 H'/\cY M H' kb/\∃(E:List Gd) (dv:SV) (i:Nat),m=3-i/\i<=3/\E.length=i/\(∀x∈E,qy nn x)/\RB B H' dv 5 (E.map iA)/\H'.get p3=some (.row [gv,rv,dv] 29 true false 0)/\
   ∃z:Nat->SV,ts=((.ptr kb 0)::z 1::(.ptr p2 0)::(.ptr p3 0)::zz z 4 6 ((nv)::z 11::z 12::(.int .i64 (i:Int))::zz z 14 124 []):T)/\(True)
theorem adu {M kb p2 p3 B nn:Nat} {gv nv rv:SV} {ts:T} (hT:cY M H kb) (FJ:kb<B) (afd:p3<B) (zJ:p3≠kb) (Lb:M<=p3) (hBn:B<=H.next) (zF:RB B H nv 1 (bZ (lN nn))) (ik:H.get p3=some (.row [gv,rv,.ao] 29 true false 0)) (hn:3<=n) (aC:1000<lf)
 (rz:∃z:Nat->SV,ts=((.ptr kb 0)::z 1::(.ptr p2 0)::(.ptr p3 0)::zz z 4 6 ((nv)::zz z 11 127 []):T)/\(True)):
 EC (aj ak lf n) lf JI ts [] H fun x ts D H'=>x=.normal/\D=[]/\cR kb p3 H H'/\cY M H' kb/\∃(E:List Gd) (dv:SV),E.length<=3/\(∀x∈E,qy nn x)/\RB B H' dv 5 (E.map iA)/\H'.get p3=some (.row [gv,rv,dv] 29 true false 0)/\
  ∃z:Nat->SV,ts=((.ptr kb 0)::z 1::(.ptr p2 0)::(.ptr p3 0)::zz z 4 134 []:T)/\(True):=by
 obtain⟨z,rfl, -⟩:=rz;unfold JI;refine af ae ?_;refine bH (I:=Zz H M kb p2 p3 B nn gv rv nv) ?_ 3 ?_ om
 ·rintro m ts D H' ⟨rfl,hF,tP,E,dv,i,rfl,Un,qS,tO,um,ik,⟨z,rfl, -⟩⟩;have hle:=hF.1;have Mr:=zF.ax om (.inl om) hF;obtain⟨r1,H1,aV,h10,h11,ey⟩:=kO (lf:=lf) (n:=n) tP (m:=((4:Nat):Int)) om om om;obtain⟨r1,rfl⟩:∃k:Nat,r1=(k:Int):=⟨r1.toNat,by omega⟩;refine af ae ?_;refine ai ae aV ?_;refine af ae ?_;refine cst ae (fun hc=>?_) (fun hc=>?_)<;>try simp only[decide_eq_true_eq,decide_eq_false_iff_not,not_true_eq_false,not_false_eq_true,Int.not_lt,Int.not_le,ge_iff_le,gt_iff_lt]at hc
  ·obtain⟨r2,H2,aH,E5,tF,fI⟩:=kO (lf:=lf) (n:=n) ey.2.2 (m:=((3:Nat):Int)) om om om;obtain⟨r2,rfl⟩:∃k:Nat,r2=(k:Int):=⟨r2.toNat,by omega⟩;have ib:cR kb p3 H' H2:=ey.gw.dy.trans fI.gw.dy;obtain⟨g,H3,bf,o8,ez⟩:=WH (lf:=lf) (n:=n) fI.2.2 (Mr.ax om (.inl om) ib) FJ (by simp[lN]) (by have:=Ws nn;omega) om;obtain⟨sp,s7,H4,fx,gh,ML,ji⟩:=O0 (lf:=lf) (n:=n) ez.2.2 om;have MV:(Ie sp s7).cells=[.int .i64 (sp:Int),.str s7]:=rfl;obtain⟨sc,H5,eP,zN,dw,iG⟩:=rL (lf:=lf) (n:=n) ji.2.2 4 (L:=pz) rfl rfl (by decide) (by decide) om;have jf:∀q,cR kb q H' H5:=fun q=>ey.gw.dy.trans (fI.gw.dy.trans (ez.gw.dy.trans (ji.dy.trans dw.dy)))
   have aeK:=(jf p3).1;obtain⟨H8,pS⟩:∃H8,(H5.push (.row [.bool false,.str [],.int .i64 ((0:Nat):Int),.str [],.str []] 58 true false 0)).put H5.next (.row [.bool (decide ((r2:Int)=((0:Nat):Int))),.str g,.int .i64 (sp:Int),.str s7,.str sc] 58 true false 0)=H8:=⟨_,rfl⟩;have mf:Ext H5 H8:=by rw[<-pS];exact((Ext.refl H5).push _).put (Nat.le_refl _) _
   have vf:cY M H8 kb:=by rw[<-pS];exact(dw.2.2.push _).put dw.2.2.2.1 _
   have pV:H8.get H5.next=some (.row [.bool (decide ((r2:Int)=((0:Nat):Int))),.str g,.int .i64 (sp:Int),.str s7,.str sc] 58 true false 0):=by rw[<-pS];exact bT _ _
   have UH:H8.next=H5.next+1:=by rw[<-pS];rfl
   have zf:cR kb p3 H' H8:=(jf p3).trans mf.dy;refine af ae ?_;refine ai ae aH ?_;refine af ae ?_;refine ai ae bf ?_;refine af ae ?_;refine ai ae fx ?_;refine af ae ?_;refine ai ae eP ?_;refine af @MV ?_;generalize fP:decide ((r2:Int)=((0:Nat):Int))=al at pS pV;have cZ:qy nn ⟨al,g,(sp,s7),sc⟩:=⟨o8,OZ sp (CY gh) s7 ML,zN⟩;have xF:=um.ax om (.inl om) zf;have zH:=((mf.2 p3 om).trans ((jf kb).old om zJ zJ ik));have MG:=xF.aQ.bq;have iU:=xF.aQ.one;have eI:=aa2 al g sp s7 sc;have mq:bD (.agg [.bool al,.str g,.int .i64 (sp:Int),.str s7,.str sc]) (.agg [.bool al,.str g,.int .i64 (sp:Int),.str s7,.str sc])=true:=eI;obtain⟨H9,mh⟩:∃H9,H8.push (.row [.bool al,.str g,.int .i64 (sp:Int),.str s7,.str sc] 58 true false 0)=H9:=⟨_,rfl⟩;have jH:Ext H8 H9:=by rw[<-mh];exact(Ext.refl _).push _
   have UI:H9.next=H8.next+1:=by rw[<-mh];rfl
   have gW:H9.get H8.next=some (.row [.bool al,.str g,.int .i64 (sp:Int),.str s7,.str sc] 58 true false 0):=by rw[<-mh];exact bd _
   obtain⟨v1,yG,v2,lW,fF,gI,wW,wX,eU⟩:=Jv (xF.ext jH).aQ (ada E) (by rw[List.length_map];omega) (x:=iA ⟨al,g,(sp,s7),sc⟩) rfl rfl gW om 58 64 om;have ri:=(jH.2 _ om).trans zH;have afa:=(wW.2 _ om).trans ri;have MC:=(wX.2 _ om).trans ri;have BS:=(jH.2 H5.next om).trans pV;have BQ:=(wW.2 H5.next om).trans BS;have Md:=(wW.2 H8.next om).trans gW;have Me:=(wX.2 H8.next om).trans gW;have ig:=eU.aQ.one;have aH:=eU.aQ.cells;have aD:=gY (o:=2) MC ig (by simp) om;simp only[pS];refine wh ?_;refine xo (An @zH (An @pV @mh)) ?_;simp only[oK,List.map_cons,List.map_nil];refine af (An @ri (An @fF (An @BQ (An @gI (An @aH @aD))))) ?_;refine dB ?_ ?_
   ·exact dh (An @ri (An @BS (An @BQ (An @gW (An @Md (An @Me (An @MG (An @eI @mq))))))))
   ·refine af (c8 (k:=i) om) ?_;have xa:Ext H8 lW:=jH.trans wX;have qQ:cR kb p3 lW (lW.put p3 (.row [gv,rv,v2] 29 true false 0)):=(cR.refl ..).put _;refine aT (3-(i+1)) om ⟨rfl,?_,?_,E++[⟨al,g,(sp,s7),sc⟩],v2,i+1,rfl,by omega,by simp[qS],fun x hx=>?_,?_,bT _ _,aw⟩
    ·exact(hF.trans (zf.trans xa.dy)).put _
    ·exact(vf.ax xa.1 fun b hb=>xa.2 b (by have:=vf.2.1;omega)).put Lb _
    ·rcases List.mem_append.1 hx with h|h
     ·exact tO x h
     ·rw[List.mem_singleton.1 h];exact cZ
    ·have:=(eU.mono (B':=B) om).ax om (.inl om) qQ;simpa using this
  ·refine af ae ?_;exact⟨rfl,rfl,hF.trans ey.gw.dy,ey.2.2,E,dv,by omega,tO,um.ax om (.inl om) (ey.gw.dy:cR kb kb H' H1),(ey.2.1 _ zJ).trans ik,aw⟩
 ·exact⟨rfl,cR.refl ..,hT,[],.ao,0,rfl,by omega,rfl,(fun x h=>by cases h),RB.nil,ik,aw⟩
end
end
section
section
variable {lf n:Nat} {H:ag}
theorem ai6 {M kb P k:Nat} {gv:SV} {G:List Gr} {ts:T} (zr:kb<M) (hMP:M<=P) (tP:cY M H kb) (hP:P+3<=H.next) (gg:k<=3) (hG:rT (P+3) H k k gv G) (BR:H.get (P+1+1)=some (.row [.str [115,116,97,102,102],.str [109,111,100,115],.str [103,111,108,100]] 9 true false 0)) (ij:H.get P=some (.row [.ao,.ao,.ao] 29 true false 0)) (FY:H.get (P+1)=some (.row [gv,.ao,.ao] 29 true false 0)) (hn:3<=n) (aC:1000<lf)
 (rz:∃z:Nat->SV,ts=((.ptr kb 0)::z 1::(.ptr P 0)::(.ptr (P+1) 0)::(.slice (P+1+1) 0 3 (some 3) 1)::(.int .i64 (k:Int))::zz z 6 132 []:T)/\(True)):
 EC (aj ak lf n) lf RR ts [] H (qL [.cell 2 true 3] fun v H'=>(H.next<=H'.next/\(∀b,b<P->b≠kb->H'.get b=H.get b)/\cY M H' kb)/\∃gv rv dv G R E,v=.agg [gv,rv,dv]/\A4 P H' k gv rv dv G R E):=by
 obtain⟨z,rfl, -⟩:=rz;unfold RR;have zj:=tP.push (.row [.str [97,108,108],.str [117,115,101,114,115]] 9 true false 0);obtain⟨H2,aY⟩:∃H2,H.push (.row [.str [97,108,108],.str [117,115,101,114,115]] 9 true false 0)=H2:=⟨_,rfl⟩;rw[aY]at zj;have aF:Ext H H2:=by rw[<-aY];exact(Ext.refl _).push _
 have dc:H2.next=H.next+1:=by rw[<-aY];rfl
 have gW:H2.get H.next=some (.row [.str [97,108,108],.str [117,115,101,114,115]] 9 true false 0):=by rw[<-aY];exact bd _
 have adV:=(aF.2 _ om).trans BR;have hR4:br H2 (.slice (P+1+1) 0 3 (some 3) 1) 1 (bZ fY):=⟨sZ _,.inr ⟨P+1+1,some 3,9,true,false,0,rfl,(fun k h=>by cases h;rfl),by omega,adV⟩⟩;obtain⟨w,hw,lh,_⟩:=hR4.hi (k:=k) (by rw[kt];simp only[fY,List.length_cons,List.length_nil];omega);rw[akU]at lh;have fU:(fY.take k).length<=3:=by rw[List.length_take];simp only[fY,List.length_cons,List.length_nil];omega
 obtain⟨nv,H3,Lt,aS,xi⟩:=aaH (B:=P+3) (L:=bZ [sW,rO]) om om gW (sZ _) lh (by rw[kt,kt];simp only[List.length_cons,List.length_nil];omega) 16 om;have xi:=xi.rb;have Lt:fu H2 false 9 1 16 (.slice H.next 0 2 (some 2) 1) w=some (nv,H3):=Lt;rw[<-akS]at xi;have ae9:=(aF.2 _ om).trans FY;have afb:=(aS.2 _ om).trans ae9;have Fo:cY M H3 kb:=zj.ax aS.1 fun b hb=>aS.2 b (by have:=zj.2.1;omega)
 have K6:=(hG.ext aF).ext aS;have B7:=K6.sl.aQ.one;have tZ:=K6.sl.aQ.bq;obtain⟨H4,kZ⟩:∃H4,H3.push (.row [.bool true,.int .i64 ((1:Nat):Int),.str [97,108,108],.int .i64 ((1:Nat):Int),.int .i64 ((0:Nat):Int),.str []] 55 true false 0)=H4:=⟨_,rfl⟩;have bz:Ext H3 H4:=by rw[<-kZ];exact(Ext.refl _).push _
 have nY:H4.next=H3.next+1:=by rw[<-kZ];rfl
 have aeM:H4.get H3.next=some (.row [.bool true,.int .i64 ((1:Nat):Int),.str [97,108,108],.int .i64 ((1:Nat):Int),.int .i64 ((0:Nat):Int),.str []] 55 true false 0):=by rw[<-kZ];exact bd _
 have UA:=aS.1;have afc:=(bz.2 _ om).trans afb;have aD:=gY (o:=1) (v:=.slice H3.next 0 1 (some 1) 6) afc rfl (by simp) om;have jf:cR kb (P+1) H3 (H4.put (P+1) (.row [gv,.slice H3.next 0 1 (some 1) 6,.ao] 29 true false 0)):=bz.dy.put _;have UW:(H4.put (P+1) (.row [gv,.slice H3.next 0 1 (some 1) 6,.ao] 29 true false 0)).get (P+1)=some (.row [gv,.slice H3.next 0 1 (some 1) 6,.ao] 29 true false 0):=bT _ _;have UD:(H4.put (P+1) (.row [gv,.slice H3.next 0 1 (some 1) 6,.ao] 29 true false 0)).get H3.next=some (.row [.bool true,.int .i64 ((1:Nat):Int),.str [97,108,108],.int .i64 ((1:Nat):Int),.int .i64 ((0:Nat):Int),.str []] 55 true false 0):=by rw[cI om];exact aeM
 have tQ:cY M (H4.put (P+1) (.row [gv,.slice H3.next 0 1 (some 1) 6,.ao] 29 true false 0)) kb:=(Fo.ax bz.1 fun b hb=>bz.2 b (by have:=Fo.2.1;omega)).put om _;have iG:(H4.put (P+1) (.row [gv,.slice H3.next 0 1 (some 1) 6,.ao] 29 true false 0)).next=H3.next+1:=nY
 refine af (An @aY (An @hw (An @Lt @kZ))) ?_;refine Ea (v:=.undef) (H':=H4.put (P+1) (.row [gv,.slice H3.next 0 1 (some 1) 6,.ao] 29 true false 0)) (by simp only[go_sem,aD]) ?_;generalize H4.put (P+1) (.row [gv,.slice H3.next 0 1 (some 1) 6,.ao] 29 true false 0)=H5 at jf UW UD tQ iG;refine D9 (ly (mN ?_));refine A3 ?_ (ajZ (M:=M) (p2:=P) (p3:=P+1) (B:=P+3) (nn:=k) (R:=[⟨true,1,sW,1,(0,[])⟩]) tQ om om om om om (xi.ax om (.inl om) jf) B7 tZ rfl ?_ ?_ UW om aC (by exact aw))
 ·rintro x aA D H6 ⟨rfl,rfl,mY,BM,R,rv,qS,tO,um,FZ,afA⟩;have aeL:=mY.1;refine ly (mN ?_);refine A3 ?_ (adu (M:=M) (p2:=P) (p3:=P+1) (B:=P+3) (nn:=k) BM om om om om om (((xi.ax om (.inl om) jf)).ax om (.inl om) mY) FZ om aC afA);rintro x aA D H7 ⟨rfl,rfl,pR,hT7,E,dv,BB,hEk,Ua,zG,⟨z,rfl, -⟩⟩;have an6:=pR.1;have Vd:=um.ax om (.inl om) pR;have TA:=((K6.ax om (.inl om) jf).ax om (.inl om) mY).ax om (.inl om) pR;have K5:cR kb (P+1) H H7:=(aF.dy.trans (aS.dy.trans (jf.trans (mY.trans pR))));have ae8:=K5.old om (show P≠kb by omega) om ij;have g1:=TA.sl.aQ.one;have g2:=Vd.aQ.one;have g3:=Ua.aQ.one;have gS:[gv,rv,dv].all SV.one=true:=by rw[List.all_cons,List.all_cons,List.all_cons,g1,g2,g3];rfl
  have sK:c7 3 (.ptr P 0) [gv,rv,dv] H7=some (H7.put P (.row [gv,rv,dv] 29 true false 0)):=by
   rw[iL (n:=3) (cs:=[gv,rv,dv]) rfl,iq,ae8,im (by simp) om gS];rfl
  have qQ:cR kb P H7 (H7.put P (.row [gv,rv,dv] 29 true false 0)):=(cR.refl ..).put _;refine af (An @zG @sK) ?_;refine aO ae ?_;refine(⟨⟨?_,fun b hb vg=>?_,hT7.put om _⟩,gv,rv,dv,G,R,E,rfl,⟨by omega,?_,?_,qS,tO,?_,BB,hEk⟩⟩)
  ·rw[ea];exact K5.1
  ·rw[cI om];exact K5.2 b om vg om
  ·have:=TA.ax om (.inl om) qQ;exact⟨this.sl.mono om,fun g hg=>⟨(this.at_ g hg).sl.mono om,(this.at_ g hg).len,(this.at_ g hg).mem⟩,this.nm,this.len⟩
  ·exact(Vd.ax om (.inl om) qQ).mono om
  ·exact(Ua.ax om (.inl om) qQ).mono om
 ·intro x hx;rw[List.mem_singleton.1 hx];exact⟨Nat.le_refl _,by decide,List.mem_cons_self ..,.inl ⟨rfl,rfl⟩⟩
 ·refine⟨fun x hx=>by rw[List.mem_singleton.1 hx];rfl,.inr ⟨H3.next,some 1,55,true,false,0,rfl,(fun k h=>by cases h;rfl),by omega,by omega,UD⟩⟩
@[reducible] def Zw (H1:ag) (M kb p2 p3 b4 B nn:Nat) (m:Nat) (ts:T) (D:DS) (H':ag):Prop:=
  D=[]/\cR kb p3 H1 H'/\cY M H' kb/\∃(G:List Gr) (gv:SV) (k:Nat),m=nn-k/\k<=nn/\rT B H' nn k gv G/\H'.get p3=some (.row [gv,.ao,.ao] 29 true false 0)/\
   ∃z:Nat->SV,ts=((.ptr kb 0)::z 1::(.ptr p2 0)::(.ptr p3 0)::(.slice b4 0 3 (some 3) 1)::(.int .i64 (nn:Int))::(.int .i64 (k:Int))::zz z 7 131 []:T)/\(True)
@[reducible] def Zx (Hs:ag) (M kb p2 p3 b4 b7 B nn k:Nat) (nm:List Nat) (m:Nat) (ts:T) (D:DS) (H':ag):Prop:=
  D=[]/\cR kb b7 Hs H'/\cY M H' kb/\∃(ms:List (List Nat)) (mv:SV),m=3-ms.length/\ms.length<=2/\RB B H' mv 1 (bZ ms)/\(∀s∈ms,s∈rI nn)/\H'.get b7=some (.row [.str nm,mv] 51 true false 0)/\
   ∃z:Nat->SV,ts=((.ptr kb 0)::z 1::(.ptr p2 0)::(.ptr p3 0)::(.slice b4 0 3 (some 3) 1)::(.int .i64 (nn:Int))::(.int .i64 (k:Int))::(.ptr b7 0)::(.int .i64 (ms.length:Int))::zz z 9 129 []:T)/\(True)
theorem ai7 {M kb:Nat} (hT:cY M H kb) (hn:4<=n) (aC:1000<lf):
 ∃v H',aj ak lf n 5 [.ptr kb 0] H=some (v,H')/\GS M kb H H'/\∃nn gv rv dv G R E,v=.agg [gv,rv,dv]/\A4 H.next H' nn gv rv dv G R E:=by
 obtain⟨n,rfl⟩:=aN (n:=n);have key:∃v H',aj ak lf (n+1) 5 [.ptr kb 0] H=some (v,H')/\GS M kb H H'/\∃nn gv rv dv G R E,v=.agg [gv,rv,dv]/\A4 H.next H' nn gv rv dv G R E:=by
  have zr:=hT.1;have BI:=hT.2.1;obtain⟨H0,jt⟩:∃H0,((H.push (.row [.ao,.ao,.ao] 29 true false 0)).push (.row [.ao,.ao,.ao] 29 true false 0)).push (.row [.str [115,116,97,102,102],.str [109,111,100,115],.str [103,111,108,100]] 9 true false 0)=H0:=⟨_,rfl⟩;have nO:Ext H H0:=by rw[<-jt];exact(((Ext.refl H).push _).push _).push _
  have kL:H0.next=H.next+3:=by rw[<-jt];rfl
  have ij:H0.get H.next=some (.row [.ao,.ao,.ao] 29 true false 0):=by rw[<-jt,cU (by simp only[dZ];omega),cU (by simp only[dZ];omega)];exact bd _
  have ik:H0.get (H.next+1)=some (.row [.ao,.ao,.ao] 29 true false 0):=by rw[<-jt,cU (by simp only[dZ];omega)];exact bd (H:=H.push _) _
  have k8:H0.get (H.next+1+1)=some (.row [.str [115,116,97,102,102],.str [109,111,100,115],.str [103,111,108,100]] 9 true false 0):=by rw[<-jt];exact bd (H:=(H.push _).push _) _
  have hT0:cY M H0 kb:=by rw[<-jt];exact((hT.push _).push _).push _
  obtain⟨r,H1,aV,vo,fc,aD⟩:=kO (lf:=lf) (n:=n) hT0 (m:=((4:Nat):Int)) om om om;obtain⟨nn,rfl⟩:∃k:Nat,r=(k:Int):=⟨r.toNat,by omega⟩;have nR:=aD.2.2;have bP:=aD.gw;have ca:H1.next=H.next+3:=by rw[aD.1];exact kL
  have ij:=(aD.2.1 _ (show H.next≠kb by omega)).trans ij;have ik:=(aD.2.1 _ (show H.next+1≠kb by omega)).trans ik;have k8:=(aD.2.1 _ (show H.next+1+1≠kb by omega)).trans k8;refine cx x5.1 ?_;refine af @jt ?_;refine ai ae aV ?_;refine af ae ?_;refine bH (I:=Zw H1 M kb H.next (H.next+1) (H.next+1+1) (H.next+3) nn) ?_ nn ?_ om
  ·rintro m ts D H' ⟨rfl,hF,tP,G,gv,k,rfl,hk,hG,FY,⟨z,rfl, -⟩⟩;have BR:=hF.old om (show H.next+1+1≠kb by omega) (show H.next+1+1≠H.next+1 by omega) k8;refine af ae ?_;refine cst ae (fun hc=>?_) (fun hc=>?_)<;>try simp only[decide_eq_true_eq,decide_eq_false_iff_not,not_true_eq_false,not_false_eq_true,Int.not_lt,Int.not_le,ge_iff_le,gt_iff_lt]at hc
   ·obtain⟨nm,fR,aeY,aof,_⟩:=Ti (n:=nn) (k:=k) om om;have bj:aq (some (.row [.str [115,116,97,102,102],.str [109,111,100,115],.str [103,111,108,100]] 9 true false 0)) k 1=some [.str nm]:=nE (by
     have:=congrArg (Option.map SV.str) fR;rw[<-List.getElem?_map]at this;exact this)
    obtain⟨Hs,BH⟩:∃Hs,(H'.push (.row [.str [],.ao] 51 true false 0)).put H'.next (.row [.str nm,.ao] 51 true false 0)=Hs:=⟨_,rfl⟩;have Tu:Ext H' Hs:=by rw[<-BH];exact((Ext.refl H').push _).put (Nat.le_refl _) _
    have UM:Hs.next=H'.next+1:=by rw[<-BH];rfl
    have lD:Hs.get H'.next=some (.row [.str nm,.ao] 51 true false 0):=by rw[<-BH];exact bT _ _
    have hTs:cY M Hs kb:=by rw[<-BH];exact(tP.push _).put tP.2.1 _
    have FM:=hF.1;refine af (An @BR (An @bj @BH)) ?_;refine bH (I:=Zx Hs M kb H.next (H.next+1) (H.next+1+1) H'.next (H.next+3) nn k nm) ?_ 3 ?_ om
    ·rintro m ts D H5 ⟨rfl,jf,tQ,ms,mv,rfl,hms,nr,jP,ad0,⟨z,rfl, -⟩⟩;have aeK:=jf.1;obtain⟨r3,H6,bf,h30,h31,ez⟩:=kO (lf:=lf) (n:=n) tQ (m:=((3:Nat):Int)) om om om;obtain⟨r3,rfl⟩:∃k:Nat,r3=(k:Int):=⟨r3.toNat,by omega⟩;have mY:=jf.trans ez.gw.dy;have Ly:=(ez.2.1 _ (show H'.next≠kb by omega)).trans ad0;have xB:H6.next=H5.next:=ez.1;refine af ae ?_;refine ai ae bf ?_;refine af ae ?_;refine cst ae (fun hc=>?_) (fun hc=>?_)<;>try simp only[decide_eq_true_eq,decide_eq_false_iff_not,not_true_eq_false,not_false_eq_true,Int.not_lt,Int.not_le,ge_iff_le,gt_iff_lt]at hc
     ·obtain⟨s1,H7,iD,fH,gU⟩:=ag0 (lf:=lf) (n:=n) ez.2.2 om;obtain⟨r8,H8,mr,h80,h81,rm⟩:=kO (lf:=lf) (n:=n) gU.2.2 (m:=((3:Nat):Int)) om om om;obtain⟨r8,rfl⟩:∃k:Nat,r8=(k:Int):=⟨r8.toNat,by omega⟩;refine af ae ?_;refine ai ae iD ?_;refine af ae ?_;refine ai ae mr ?_;refine af ae ?_;refine QF (fun ts H9=>GS M kb H8 H9/\∃s,s∈rI nn/\∃z:Nat->SV,ts=((.ptr kb 0)::z 1::(.ptr H.next 0)::(.ptr (H.next+1) 0)::(.slice (H.next+1+1) 0 3 (some 3) 1)::(.int .i64 (nn:Int))::(.int .i64 (k:Int))::(.ptr H'.next 0)::(.int .i64 (ms.length:Int))::(.str s)::zz z 10 128 []:T)/\(True)) ?_ ?_
      ·have adW:=jf.old om (show H.next+1+1≠kb by omega) (show H.next+1+1≠H'.next by omega) ((Tu.2 _ om).trans BR);have adX:=(rm.2.1 _ (show H.next+1+1≠kb by omega)).trans (gU.old om (show H.next+1+1≠kb by omega) ((ez.2.1 _ (show H.next+1+1≠kb by omega)).trans adW));refine cst ae (fun hc=>?_) (fun hc=>?_)<;>try simp only[decide_eq_true_eq,decide_eq_false_iff_not,not_true_eq_false,not_false_eq_true,Int.not_lt,Int.not_le,ge_iff_le,gt_iff_lt]at hc
       ·obtain⟨rg,Hg,hcg,qX,bP,Vi⟩:=kO (lf:=lf) (n:=n) rm.2.2 (m:=(nn:Int)) om om om;obtain⟨rg,rfl⟩:∃k:Nat,rg=(k:Int):=⟨rg.toNat,by omega⟩;obtain⟨WC,Mq,_,aeX,aoe⟩:=Ti (n:=nn) (k:=rg) om om;have Ct:aq (some (.row [.str [115,116,97,102,102],.str [109,111,100,115],.str [103,111,108,100]] 9 true false 0)) rg 1=some [.str WC]:=nE (by
         have:=congrArg (Option.map SV.str) Mq;rw[<-List.getElem?_map]at this;exact this)
        have adY:=(Vi.2.1 _ (show H.next+1+1≠kb by omega)).trans adX;refine af ae ?_;refine ai ae hcg ?_;refine af (An @adY @Ct) ?_;exact⟨rfl,rfl,Vi.gw,64::WC,List.mem_append_right _ (List.mem_map_of_mem aeX),aw⟩
       ·refine af ae ?_;exact⟨rfl,rfl,GS.refl rm.2.2,s1,List.mem_append_left _ (List.mem_append_left _ fH),aw⟩
      rintro aA H9 ⟨vk,s2,oe,⟨z,rfl, -⟩⟩;obtain⟨r9,yG,sA,h90,h91,zO⟩:=kO (lf:=lf) (n:=n) vk.2.2 (m:=((9:Nat):Int)) om om om;obtain⟨r9,rfl⟩:∃k:Nat,r9=(k:Int):=⟨r9.toNat,by omega⟩;refine af ae ?_;refine ai ae sA ?_;refine af ae ?_;refine QF (fun ts lW=>lW=yG/\∃s,s∈rI nn/\∃z:Nat->SV,ts=((.ptr kb 0)::z 1::(.ptr H.next 0)::(.ptr (H.next+1) 0)::(.slice (H.next+1+1) 0 3 (some 3) 1)::(.int .i64 (nn:Int))::(.int .i64 (k:Int))::(.ptr H'.next 0)::(.int .i64 (ms.length:Int))::(.str s)::zz z 10 128 []:T)/\(True)) ?_ ?_
      ·refine cst ae (fun hc=>?_) (fun hc=>?_)<;>try simp only[decide_eq_true_eq,decide_eq_false_iff_not,not_true_eq_false,not_false_eq_true,Int.not_lt,Int.not_le,ge_iff_le,gt_iff_lt]at hc
       ·refine af ae ?_;exact⟨rfl,rfl,rfl,[64,117,115,101,114,115],List.mem_append_left _ (List.mem_append_right _ (by decide)),aw⟩
       ·refine af ae ?_;exact⟨rfl,rfl,rfl,s2,oe,aw⟩
      rintro aA lW ⟨rfl,s3,F8,⟨z,rfl, -⟩⟩;have Tw:cR kb H'.next Hs lW:=mY.trans (gU.dy.trans (rm.gw.dy.trans (vk.dy.trans zO.gw.dy)));have Lx:lW.get H'.next=some (.row [.str nm,mv] 51 true false 0):=(zO.2.1 _ om).trans (vk.old (by have:=rm.1;have:=gU.1;omega) om ((rm.2.1 _ om).trans (gU.old om om Ly)));have aeP:RB (H.next+3) lW mv 1 (bZ ms):=nr.ax om (.inl om) (ez.gw.dy.trans (gU.dy.trans (rm.gw.dy.trans (vk.dy.trans zO.gw.dy))):cR kb kb H5 lW);have TP:=zO.2.2;obtain⟨v1,Jf,fF,cG,adS⟩:=yK aeP.aQ (akT _) (by rw[kt];omega) 9 16 om;obtain⟨Ed,K7⟩:∃Ed,Jf.push (.row [.str s3] 9 true false 0)=Ed:=⟨_,rfl⟩;have nP:Ext Jf Ed:=by rw[<-K7];exact(Ext.refl _).push _
      have gW:Ed.get Jf.next=some (.row [.str s3] 9 true false 0):=by rw[<-K7];exact bd _
      obtain⟨v2,Ee,gI,adT,an8,aeE⟩:=wt (adS.ax nP) (sZ _) (x:=[.str s3]) rfl rfl gW (Nat.le_trans cG.1 nP.1) (by rw[kt];omega) 16 om;have an4:=Tw.1;have an5:=Nat.le_trans cG.1 nP.1;have Fa:Ext lW Ee:=⟨by omega,fun b hb=>by rw[aeE b hb,nP.2 b (by have:=cG.1;omega)];exact cG.2 b hb⟩;have anW:=(nP.2 H'.next (by have:=cG.1;omega)).trans ((cG.2 H'.next om).trans Lx);have adZ:=(Fa.2 H'.next om).trans Lx;have adK:cY M Ee kb:=TP.ax Fa.1 fun b hb=>Fa.2 b (by have:=TP.2.1;omega)
      have Mh:RB (H'.next+1) Ee v2 1 (bZ (ms++[s3])):=by
       have:=adT.rb (B:=H'.next+1) om ((sZ (ms++[s3]))|>fun h=>by simpa[bZ]using h);simpa[bZ]using this
      have ig:=Mh.aQ.one;have aH:=Mh.aQ.cells;have aD:=gY (o:=1) adZ ig (by simp) om;refine af (An @Lx (An @fF (An @K7 (An @gI (An @aH (An @aD (c8 (k:=ms.length) om))))))) ?_;have hlen:(ms++[s3]).length=ms.length+1:=by simp
      refine aT (3-(ms.length+1)) om ⟨rfl,(Tw.trans Fa.dy).put _,adK.put om _,ms++[s3],v2,by rw[hlen],by omega,(Mh.ax om (.inl om) ((cR.refl kb H'.next Ee).put _)).mono om,fun s hs=>?_,bT _ _,by rw[hlen];exact aw⟩
      ·rcases List.mem_append.1 hs with h|h
       ·exact jP s h
       ·rw[List.mem_singleton.1 h];exact F8
     ·refine af ae ?_;have Ff:cR kb H'.next H' H6:=Tu.dy.trans mY;have vb:=hG.ax om (.inr (Nat.le_refl _)) Ff;have FZ:=Ff.old om (show H.next+1≠kb by omega) om FY;have Cj:RB (H.next+3) H6 mv 1 (bZ ms):=nr.ax om (.inl om) (ez.gw.dy:cR kb kb H5 H6);have BM:=ez.2.2;have aeL:=Ff.1;have hmo:=Cj.aQ.one;have hmb:=Cj.aQ.bq;have tZ:=vb.sl.aQ.bq;have B7:=vb.sl.aQ.one;have eI:eg [.str nm,mv] [.str nm,mv]=true:=aa3 (nm,mv,ms) Cj.aQ;have mq:bD (.agg [.str nm,mv]) (.agg [.str nm,mv])=true:=eI;have rA:[SV.str nm,mv].all (SV.under H6.next)=true:=by rw[List.all_cons,List.all_cons,Cj.aQ.under (Nat.le_refl _)];rfl
      obtain⟨H7,mg⟩:∃H7,H6.push (.row [.str nm,mv] 51 true false 0)=H7:=⟨_,rfl⟩;have dV:Ext H6 H7:=by rw[<-mg];exact(Ext.refl _).push _
      have FT:H7.next=H6.next+1:=by rw[<-mg];rfl
      have gW:H7.get H6.next=some (.row [.str nm,mv] 51 true false 0):=by rw[<-mg];exact bd _
      obtain⟨v1,H8,v2,H9,fF,gI,mf,jH,eU⟩:=Jv (vb.sl.ext dV).aQ (adg vb) (by rw[List.length_map,vb.len];omega) (x:=[.str nm,mv]) rfl (by rw[List.all_cons,List.all_cons,hmo];rfl) gW om 51 40 om;have zG:=(dV.2 _ om).trans FZ;have ri:=(jH.2 _ om).trans zG;have zH:=(mf.2 _ om).trans zG;have TW:=(dV.2 H'.next om).trans Ly;have TX:=(mf.2 H'.next om).trans TW;have aeN:=(mf.2 H6.next om).trans gW;have aeO:=(jH.2 H6.next om).trans gW;have ig:=eU.aQ.one;have aH:=eU.aQ.cells;have aD:=gY (o:=0) ri ig (by simp) om;refine wh ?_;refine xo (An @FZ (An @Ly @mg)) ?_;simp only[oK,List.map_cons,List.map_nil];refine af (An @zG (An @fF (An @TX (An @gI (An @aH @aD))))) ?_;refine dB ?_ ?_
      ·exact dh (An @zG (An @TW (An @TX (An @gW (An @aeN (An @aeO (An @hmb (An @tZ (An @eI (An @mq @rA))))))))))
      ·refine af (c8 (k:=k) om) ?_;refine aT (nn-(k+1)) om ⟨rfl,?_,?_,G++[(nm,mv,ms)],v2,k+1,rfl,by omega,?_,bT _ _,aw⟩
       ·have wZ:Ext H6 H9:=dV.trans jH;exact(hF.trans (((Ff.trans wZ.dy):cR kb H'.next H' H9).other (p:=H.next+1) fun b hb _=>by omega)).put _
       ·have wZ:Ext H6 H9:=dV.trans jH;exact(BM.ax wZ.1 fun b hb=>wZ.2 b om).put om _
       ·have wZ:Ext H6 H9:=dV.trans jH;have qQ:cR kb (H.next+1) H9 (H9.put (H.next+1) (.row [v2,.ao,.ao] 29 true false 0)):=(cR.refl ..).put _;refine⟨?_,fun g hg=>?_,?_,by simp[hG.len]⟩
        ·have:=(eU.mono (B':=H.next+3) om).ax om (.inl om) qQ;simpa[iQ]using this
        ·rcases List.mem_append.1 hg with h|h
         ·exact⟨((vb.at_ g h).sl.ext wZ).ax om (.inl om) qQ,(vb.at_ g h).len,(vb.at_ g h).mem⟩
         ·rw[List.mem_singleton.1 h];exact⟨(Cj.ext wZ).ax om (.inl om) qQ,by show ms.length<=3;omega,jP⟩
        ·rw[List.map_append,hG.nm,aeY];rfl
    ·exact⟨rfl,cR.refl ..,hTs,[],.ao,rfl,by decide,RB.nil,(fun s h=>by cases h),lD,aw⟩
   ·have kc:k=nn:=om;subst kc;refine D7 (Hv (xR (wv (ly ?_))));refine A3 (ac8 fun v H7 h=>?_) (ai6 (M:=M) (P:=H.next) zr BI tP (by have:=hF.1;omega) om hG BR (hF.old om om om ij) FY om aC (by exact aw));obtain⟨⟨h1,h2,h3⟩,fO,rv,dv,G',R,E,rfl,hp⟩:=h;exact⟨⟨by have:=hF.1;omega,fun b hb vg=>by rw[h2 b hb vg,hF.2 b om vg om,aD.2.1 b vg];exact nO.2 b hb,h3⟩,k,fO,rv,dv,G',R,E,rfl,hp⟩
  ·exact⟨rfl,cR.refl ..,nR,[],.ao,0,rfl,by omega,⟨RB.nil,(fun g hg=>by cases hg),rfl,rfl⟩,ik,aw⟩
 exact key
end
end
section
structure g' (RS:SV->Nat->List (List SV)->Prop) (n:Nat) (gv rv dv:SV) (G:List Gr) (R:List Rl) (E:List Gd):Prop where
 n3:n<=3
 gs:RS gv 2 (G.map iQ)
 zd:∀g∈G,RS g.2.1 1 (bZ g.2.2)
 tD:∀g∈G,g.2.2.length<=3
 tE:∀g∈G,∀m∈g.2.2,m∈rI n
 pO:G.map (·.1)=fY.take n
 rs:RS rv 6 (R.map gD)
 sU:R.length<=7
 uy:∀x∈R,pE n x
 ds:RS dv 5 (E.map iA)
 se:E.length<=3
 qG:∀x∈E,qy n x
theorem g'.imp {RS uO:SV->Nat->List (List SV)->Prop} {n:Nat} {gv rv dv:SV} {G:List Gr} {R:List Rl} {E:List Gd} (h:g' RS n gv rv dv G R E) (k:∀v z L,RS v z L->uO v z L):g' uO n gv rv dv G R E:=
 ⟨h.n3,k _ _ _ h.gs,fun g hg=>k _ _ _ (h.zd g hg),h.tD,h.tE,h.pO,k _ _ _ h.rs,h.sU,h.uy,k _ _ _ h.ds,h.se,h.qG⟩
theorem A4.r {B n:Nat} {H:ag} {gv rv dv:SV} {G:List Gr} {R:List Rl} {E:List Gd} (h:A4 B H n gv rv dv G R E):g' (RB B H) n gv rv dv G R E:=
 ⟨h.n3,h.gs.sl,fun g hg=>(h.gs.at_ g hg).sl,fun g hg=>(h.gs.at_ g hg).len,fun g hg=>(h.gs.at_ g hg).mem,h.gs.nm,h.rs,h.sU,h.uy,h.ds,h.se,h.qG⟩
theorem g'.Bu {H:ag} {n:Nat} {gv rv dv:SV} {G:List Gr} {R:List Rl} {E:List Gd} (h:g' (br H) n gv rv dv G R E):Ec H gv G:=by
 have fo:=h.n3;have hl:G.length<=3:=by
  have:=congrArg List.length h.pO;rw[List.length_map,List.length_take]at this;omega
 refine⟨h.gs,fun g hg=>⟨?_,h.zd g hg,by have:=h.tD g hg;omega,fun m hm=>?_⟩,hl⟩
 ·have:g.1∈G.map (·.1):=List.mem_map_of_mem hg;rw[h.pO]at this;exact List.mem_of_mem_take this
 ·have hn:n∈[0,1,2,3]:=by
   have:n=0\/n=1\/n=2\/n=3:=om;simpa using this
  exact NJ n hn m (h.tE g hg m hm)
end
end Go.Sh
