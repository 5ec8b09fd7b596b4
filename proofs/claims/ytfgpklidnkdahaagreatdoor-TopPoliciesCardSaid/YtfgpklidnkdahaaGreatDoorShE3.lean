/-
  The reference: sections and changes are those of the plain law. No conditions beyond those that stand in the theorems.
-/
import Derived.Test.YtfgpklidnkdahaaGreatDoorShE2
import Derived.Test.YtfgpklidnkdahaaGreatDoorShE0
set_option linter.all false
set_option maxHeartbeats 20000000
set_option maxRecDepth 10000
namespace Go.Sh
section
def A5 (lf:Nat):Prop:=∀(s:List Nat) (n:Nat) (H:ag),s.length<=8192->30<=n->∃v H',aj ak lf n 187 [.str s] H=some (.aJ [v,iN 0],H')/\Ext H H'/\NS H' v (oD s)
theorem Wn (a b:Nat):Ad false [.int .i64 (a:Int),.int .i64 (b:Int)]=some (.int .i64 ((min a b:Nat):Int)):=by
 simp only[Ad,vE,if_true,Bool.false_eq_true,if_false];congr 2;split<;>omega
attribute [go_sem] Wn
theorem aei {l:List Nat} (h:(fm l).2.2=true):0<(fm l).1:=by
 unfold fm at h ⊢;dsimp only at h ⊢;split
 ·rename_i hc;rw[if_pos hc]at h;cases h
 ·rename_i hc;dsimp only;omega
theorem aeh:fm []=(0,[],false):=by decide
theorem ael {s:List Nat} {pl:List Bool} {f a:Nat} (h:a<=s.length) (hf:s.length<a+f):j0 s pl f a=py s pl a++j0 s pl (f-1) (brk s a+1):=by
 have hb:=JD h;by_cases ha:a<s.length
 ·rw[Ud ha hf];by_cases he:brk s a<s.length
  ·rw[Nat.min_eq_left om]
  ·rw[Nat.min_eq_right om,zo _ _ _ (Nat.le_refl _),zo _ _ _ om]
 ·have hg:=Bb s a;rw[zo _ _ _ om,zo _ _ _ om];have hl:lp s a=[]:=by unfold lp;rw[List.drop_eq_nil_of_le om,List.take_nil]
  unfold py;rw[hl,aeh];rfl
def toJ (R:List cW) (j:Nat) (x:cW):cW:={x with to:=match(R.drop j).find? (fun y=>decide (y.level<=x.level))with|some y=>y.aw|none=>x.to}
theorem set_set {α:Type} (L:List α) (i:Nat) (a b:α):(L.set i a).set i b=L.set i b:=by simp
@[reducible] def Q0 (s:List Nat) (nv tv:SV) (H1:ag) (R:List cW) (m:Nat) (ts:T) (D:DS) (H':ag):Prop:=
  D=[]/\Ext H1 H'/\∃(a f:Nat) (w:SV) (L:List cW),m=s.length+1-a/\a<=s.length+1/\s.length<a+f/\L++j0 s (fD s) f a=R/\L.length<=a/\Sl H1.next 184 5 H' w (L.map dL)/\∃z:Nat->SV,ts=((.str s)::zz z 1 3 ((nv)::z 5::(tv)::(w)::(.int .i64 (a:Int))::zz z 9 104 []):T)/\(True)
@[reducible] def Z5 (s:List Nat) (nv tv w:SV) (a:Nat) (H1:ag) (m:Nat) (ts:T) (D:DS) (H':ag):Prop:=
  D=[]/\H'=H1/\∃i:Nat,m=s.length-i/\a<=i/\i<=brk s a/\∃z:Nat->SV,ts=((.str s)::zz z 1 3 ((nv)::z 5::(tv)::(w)::(.int .i64 (a:Int))::(.int .i64 (i:Int))::(.bool (hP (fD s) a i))::zz z 11 102 []):T)/\(True)
@[reducible] def aae (R:List cW) (b:Nat) (H1:ag) (m:Nat) (ts:T) (D:DS) (H':ag):Prop:=
  D=[]/\Ext H1 H'/\b<H'.next/\∃i:Nat,m=R.length-i/\i<=R.length/\H'.get b=some (.row ((gM R i).map dL).flatten 184 false false 0)/\∃z:Nat->SV,ts=(zz z 0 7 ((.slice b 0 R.length none 5)::zz z 8 5 ((.int .i64 (i:Int))::zz z 14 99 [])):T)/\(True)
@[reducible] def aag (R:List cW) (b i:Nat) (x:cW) (H1:ag) (m:Nat) (ts:T) (D:DS) (H':ag):Prop:=
  D=[]/\Ext H1 H'/\b<H'.next/\∃j:Nat,m=j+0/\i<=j/\j<R.length/\H'.get b=some (.row (((gM R i).set i (toJ R (j+1) x)).map dL).flatten 184 false false 0)/\
   ∃z:Nat->SV,ts=(zz z 0 7 ((.slice b 0 R.length none 5)::zz z 8 5 ((.int .i64 (i:Int))::(.int .i64 (j:Int))::zz z 15 98 [])):T)/\(True)
section
variable {lf n:Nat} {H:ag}
theorem ajS (sx:A5 lf) {s:List Nat} (hlen:s.length<=8192) (hn:3*s.length+40<=n) (aC:600000<lf):
 ∃(w:SV) (H':ag),aj ak lf n 117 [.str s] H=some (.aJ [w,iN 0],H')/\Ext H H'/\Sl H.next 184 5 H' w ((lR s).map dL):=by
 obtain⟨n,rfl⟩:=aN (n:=n);obtain⟨R,hR⟩:∃R,j0 s (fD s) (s.length+1) 0=R:=⟨_,rfl⟩;have rl:lR s=jA R:=by rw[<-hR];rfl
 rw[rl];have key:∃v H',aj ak lf (n+1) 117 [.str s] H=some (v,H')/\∃w,v=.aJ [w,iN 0]/\Ext H H'/\Sl H.next 184 5 H' w ((jA R).map dL):=by
  refine cx Ps.1 ?_;refine af ae ?_;obtain⟨nv,Hp,MD,hEp,Lc⟩:=sx s n H hlen om;have ew:=N2 s;obtain⟨tv,H1,fG,aB,hT⟩:=ajQ (lf:=lf) (n:=n) Lc (by rw[ew];exact hlen) (by rw[ew];omega) aC;have zI:kP (oD s)=fD s:=rfl;rw[zI]at hT;have hE:=hEp.trans aB;have Fp:=hT.aQ (RD _);have U2:=N4 s;refine ai ae MD ?_;have d0:decide (((0:Nat):Int)≠((0:Nat):Int))=false:=by decide
  refine af @d0 ?_;refine ah ae ?_;refine af ae ?_;refine ai ae fG ?_;refine af ae ?_;refine bH (I:=Q0 s nv tv H1 R) ?_ (s.length+1) ?_ om
  ·rintro m ts D H' ⟨rfl,aF,a,f,w,L,rfl,ha,hf,pU,hLa,bE,⟨z,rfl, -⟩⟩;have zj:=Fp.ax aF;by_cases fP:a<=s.length
   ·have d1:decide (((a:Nat):Int)<=((s.length:Nat):Int))=true:=dt;have BV:=Bb s a;have eI:=JD fP;rw[ael fP hf]at pU;have pd:lp s a=(s.drop a).take (brk s a-a):=rfl;have kg:py s (fD s) a=if((fm (lp s a)).2.2&&hP (fD s) a (brk s a))=true then[⟨(fm (lp s a)).1,(fm (lp s a)).2.1,a,min (brk s a+1) s.length,s.length⟩]else[]:=rfl
    have Mf:(lp s a).length<=s.length:=by rw[pd,List.length_take,List.length_drop];omega
    refine af @d1 ?_;refine ar ae ?_;refine af ae ?_;refine bH (I:=Z5 s nv tv w a H') ?_ (s.length-a) ?_ om
    ·rintro m ts D H3 ⟨rfl,rfl,i,rfl,BO,hi,⟨z,rfl, -⟩⟩;by_cases gV:i<brk s a
     ·have d2:decide (((i:Nat):Int)<((s.length:Nat):Int))=true:=dt;have hx:s[i]? =some s[i]:=List.getElem?_eq_getElem om;have M8:=(RH BO hx).1 gV;generalize s[i]=x at hx M8;have d3:decide (((x:Nat):Int)≠((10:Nat):Int))=true:=dt;obtain⟨b,hb⟩:∃b,(fD s)[i]? =some b:=⟨_,List.getElem?_eq_getElem om⟩;have sy:(rZ (fD s))[i]? =some [SV.bool b]:=by simp[rZ,hb]
      obtain⟨pb,po,h1,h2,h3,_⟩:=zj.at_ sy;have nw:=TJ BO hb;cases nZ:hP (fD s) a i with
      |true=>
       rw[nZ,Bool.true_and]at nw;refine af (An @d2 (An @hx @d3)) ?_;refine ar ae ?_;refine af (An @h1 @h3) ?_;refine aT (s.length-(i+1)) om ⟨rfl,rfl,i+1,by omega,by omega,by omega,?_⟩;rw[nw];exact aw
      |false=>
       rw[nZ,Bool.false_and]at nw;refine af (An @d2 (An @hx @d3)) ?_;refine ar ae ?_;refine af ae ?_;refine aT (s.length-(i+1)) om ⟨rfl,rfl,i+1,by omega,by omega,by omega,?_⟩;rw[nw];exact aw
     ·obtain rfl:i=brk s a:=om;refine I9 (id:=2) (fun ts jB=>jB=H3/\∃z:Nat->SV,ts=((.str s)::zz z 1 3 ((nv)::z 5::(tv)::(w)::(.int .i64 (a:Int))::(.int .i64 ((brk s a:Nat):Int))::(.bool (hP (fD s) a (brk s a)))::zz z 11 102 []):T)/\(True)) ?_ (fun aA H8 nc=>?_)
      ·by_cases nU:brk s a<s.length
       ·have d2:decide (((brk s a:Nat):Int)<((s.length:Nat):Int))=true:=dt;have hx:s[brk s a]? =some s[brk s a]:=List.getElem?_eq_getElem nU;have M8:=(RH BO hx).2 rfl;rw[M8]at hx;have d3:decide (((10:Nat):Int)≠((10:Nat):Int))=false:=by decide
        refine af (An @d2 (An @hx @d3)) ?_;refine ah ae ?_;refine af ae ?_;exact⟨rfl,rfl,rfl,aw⟩
       ·have d2:decide (((brk s a:Nat):Int)<((s.length:Nat):Int))=false:=df;refine af @d2 ?_;refine ah ae ?_;refine af ae ?_;exact⟨rfl,rfl,rfl,aw⟩
      ·obtain⟨rfl,⟨z,rfl, -⟩⟩:=nc;refine xR (wv (ly ?_));generalize lp s a=l at pd kg Mf;have hh:=aju (lf:=lf) (n:=n) (H:=H8) (line:=l) om om aC;unfold zn at hh;obtain⟨e,he⟩:∃e,brk s a=e:=⟨_,rfl⟩;rw[he]at BV eI pU kg pd ⊢;have zx:=pd.symm;obtain⟨nx,jw⟩:∃nx,min (e+1) s.length=nx:=⟨_,rfl⟩;rw[jw]at kg;have rK:∀(ts:T) (H6:ag) (w6:SV),Ext H1 H6->Sl H1.next 184 5 H6 w6 ((L++py s (fD s) a).map dL)->(∃z:Nat->SV,ts=((.str s)::zz z 1 3 ((nv)::z 5::(tv)::(w6)::(.int .i64 ((e+1:Nat):Int))::zz z 9 104 []):T)/\(True))->Q0 s nv tv H1 R (s.length+1-(e+1)) ts [] H6:=fun ts H6 w6 h1 h2 h3=>
        ⟨rfl,h1,e+1,f-1,w6,_,rfl,by omega,by omega,by rw[List.append_assoc];exact pU,by
         have:(py s (fD s) a).length<=1:=by rw[kg];split<;>simp
         rw[List.length_append];omega,h2,h3⟩
       cases cZ:(fm l).2.2 with
       |true=>
        have aog:=aei cZ;rw[cZ,if_pos rfl]at hh;rw[cZ,Bool.true_and]at kg;have d4:decide ((((fm l).1:Nat):Int)>((0:Nat):Int))=true:=dt;cases nZ:hP (fD s) a e with
        |true=>
         rw[nZ,if_pos rfl]at kg;obtain⟨w1,H5,ju,zN,cL⟩:=Rs (H':=H8) (B0:=H1.next) ⟨(fm l).1,(fm l).2.1,a,nx,s.length⟩ bE aF aF.1 (Nat.le_refl _) om;simp only[dL]at ju;rw[<-kg]at zN;refine af @zx ?_;refine ai ae hh ?_;refine af @d4 ?_;refine ar ae ?_;have eW:((e:Nat):Int)+((1:Nat):Int)=((e+1:Nat):Int):=om;refine af (An @eW (An @jw @ju)) ?_;exact aT (s.length+1-(e+1)) om (rK _ _ w1 cL zN aw)
        |false=>
         rw[nZ,if_neg (by decide)]at kg;refine af @zx ?_;refine ai ae hh ?_;refine af @d4 ?_;refine ah ae ?_;refine af ae ?_;exact aT (s.length+1-(e+1)) om (rK _ _ w aF (by rw[kg,List.append_nil];exact bE) aw)
       |false=>
        rw[cZ,if_neg (by decide)]at hh;rw[cZ,Bool.false_and,if_neg (by decide)]at kg;have d4:decide (((0:Nat):Int)>((0:Nat):Int))=false:=by decide
        cases nZ:hP (fD s) a e with
        |true=>
         refine af @zx ?_;refine ai ae hh ?_;refine af @d4 ?_;refine ah ae ?_;refine af ae ?_;exact aT (s.length+1-(e+1)) om (rK _ _ w aF (by rw[kg,List.append_nil];exact bE) aw)
        |false=>
         refine af @zx ?_;refine ai ae hh ?_;refine af @d4 ?_;refine ah ae ?_;refine af ae ?_;exact aT (s.length+1-(e+1)) om (rK _ _ w aF (by rw[kg,List.append_nil];exact bE) aw)
    ·refine⟨rfl,rfl,a,rfl,Nat.le_refl _,BV,?_⟩;rw[TH];exact aw
   ·have Lu:a=s.length+1:=om;subst Lu;rw[zo _ _ _ om,List.append_nil]at pU;subst pU;have qS:L.length<=8193:=om;clear hR rl;have d1:decide (((s.length+1:Nat):Int)<=((s.length:Nat):Int))=false:=df;refine af @d1 ?_;refine ah ae ?_;rcases bE with⟨he,rfl⟩|⟨aP,b,dn,eo,rfl,k8⟩
    ·have Ln:L=[]:=List.map_eq_nil_iff.1 he;subst Ln;refine af ae ?_;refine QH om ?_;have d2:decide (((0:Nat):Int)<(0:Int))=false:=by decide
     have d3:decide (((0:Nat):Int)<((0:Nat):Int))=false:=by decide
     refine af (An @d2 @d3) ?_;refine ah ae ?_;refine af ae ?_;refine cD ae ?_;exact(⟨_,rfl,hE.trans aF,.inl ⟨rfl,rfl⟩⟩)
    ·rw[List.length_map];refine af ae ?_;refine bH (I:=aae L b H1) ?_ L.length ?_ om
     ·rintro m ts D H' ⟨rfl,aS,hb,i,rfl,hi,bj,⟨z,rfl, -⟩⟩;by_cases bw:i<L.length
      ·have d2:decide (((i:Nat):Int)<((L.length:Nat):Int))=true:=dt;obtain⟨x,hx⟩:∃x,L[i]? =some x:=⟨_,List.getElem?_eq_getElem bw⟩;have sL:((L.length:Nat):Int)-((1:Nat):Int)=((L.length-1:Nat):Int):=om;refine af @d2 ?_;refine ar ae ?_;refine af @sL ?_;refine bH (I:=aag L b i x H1) ?_ (L.length-1) ?_ om
       ·rintro m ts D H3 ⟨rfl,bz,iS,j,hmj,qZ,hj,od,⟨z,rfl, -⟩⟩;by_cases Cc:i<j
        ·have d3:decide (((j:Nat):Int)>((i:Nat):Int))=true:=dt;obtain⟨y,hy⟩:∃y,L[j]? =some y:=⟨_,List.getElem?_eq_getElem hj⟩;have aeB:i<(gM L i).length:=by rw[Dp];exact bw
         have uo:((gM L i).set i (toJ L (j+1) x))[i]? =some (toJ L (j+1) x):=by rw[List.getElem?_set_self aeB]
         have Cy:((gM L i).set i (toJ L (j+1) x))[j]? =some y:=by rw[List.getElem?_set_ne om];exact(Dn om hj).trans hy
         have mE:=XZ uo y.aw;have hlen:=(XY ((gM L i).set i (toJ L (j+1) x))).trans (by rw[List.length_set,Dp]);have c1:=Au Cy 0 (c:=.int .i64 (y.level:Int)) rfl om;have c2:=Au uo 0 (c:=.int .i64 (x.level:Int)) rfl om;have c3:=Au Cy 2 (c:=.int .i64 (y.aw:Int)) rfl om;have mA:toJ L j x=if y.level<=x.level then{toJ L (j+1) x with to:=y.aw}else toJ L (j+1) x:=by
          unfold toJ;rw[SZ hy];by_cases hle:y.level<=x.level<;>simp[hle]
         obtain⟨cs,hcs⟩:∃cs,(((gM L i).set i (toJ L (j+1) x)).map dL).flatten=cs:=⟨_,rfl⟩;rw[hcs]at od mE hlen c1 c2 c3;have r1:=nE (e:=184) (ex:=false) (ro:=false) (frz:=0) c1;have r2:=nE (e:=184) (ex:=false) (ro:=false) (frz:=0) c2;have r3:=nE (e:=184) (ex:=false) (ro:=false) (frz:=0) c3;rw[Nat.add_zero]at r1 r2;have Vj:((j:Nat):Int)-((1:Nat):Int)=((j-1:Nat):Int):=om;have ka:j-1+1=j:=om;refine af @d3 ?_;refine ar ae ?_;refine af (An @od (An @r1 @r2)) ?_;by_cases hle:y.level<=x.level
         ·have d4:decide (((y.level:Nat):Int)<=((x.level:Nat):Int))=true:=dt;rw[if_pos hle]at mA;refine ar @d4 ?_;refine af (An @od (An @r3 @Vj)) ?_;refine aT (j-1) om ⟨rfl,bz.put dn _,iS,j-1,rfl,by omega,by omega,(by rw[bT,ka,mA,<-set_set _ _ (toJ L (j+1) x),<-mE];rfl),aw⟩
         ·have d4:decide (((y.level:Nat):Int)<=((x.level:Nat):Int))=false:=df;rw[if_neg hle]at mA;refine ah @d4 ?_;refine af @Vj ?_;refine aT (j-1) om ⟨rfl,bz,iS,j-1,rfl,by omega,by omega,(by rw[od,ka,mA,hcs]),aw⟩
        ·have aeA:i=j:=om;subst aeA;have d3:decide (((i:Nat):Int)>((i:Nat):Int))=false:=by simp
         have cX:gM L (i+1)=(gM L i).set i (toJ L (i+1) x):=OP hx;refine af @d3 ?_;refine ah ae ?_;refine af ae ?_;refine aT (L.length-(i+1)) om ⟨rfl,bz,iS,i+1,rfl,by omega,by rw[cX];exact od,aw⟩
       ·refine⟨rfl,aS,hb,L.length-1,rfl,by omega,by omega,?_,aw⟩;have e1:L.length-1+1=L.length:=om;have e2:toJ L L.length x=x:=by unfold toJ;rw[List.drop_length];rfl
        have e3:(gM L i).set i x=gM L i:=by
         refine List.ext_getElem? fun k=>?_
         rw[List.getElem?_set];split
         ·rename_i e;subst e;rw[if_pos (by rw[Dp];exact bw),Dn (Nat.le_refl i) bw,hx]
         ·rfl
        rw[e1,e2,e3];exact bj
      ·have gV:i=L.length:=om;subst gV;have d2:decide (((L.length:Nat):Int)<((L.length:Nat):Int))=false:=by simp
       rw[Yo]at bj;have e1:(jA L).map dL≠[]:=by
        intro e;apply aP;rw[List.map_eq_nil_iff]at e ⊢;have:=rP L;rw[e]at this;exact List.eq_nil_of_length_eq_zero this.symm
       have e2:SV.slice b 0 L.length none 5=SV.slice b 0 ((jA L).map dL).length none 5:=by rw[List.length_map,rP]
       refine af @d2 ?_;refine ah ae ?_;refine af ae ?_;refine cD ae ?_;exact(⟨_,rfl,hE.trans aS,.inr ⟨e1,b,Nat.le_trans hE.1 dn,hb,e2,bj⟩⟩)
     ·exact⟨rfl,aF,eo,0,by omega,by omega,by rw[Yp];exact k8,aw⟩
  ·exact⟨rfl,Ext.refl _,0,s.length+1,.ao,[],by omega,by omega,by omega,hR,Nat.zero_le _,.inl ⟨rfl,rfl⟩,aw⟩
 obtain⟨v,H',h,w,rfl,hE,bE⟩:=key;exact⟨w,H',h,hE,bE⟩
end
end
section
section
variable {lf n:Nat} {H:ag}
theorem Xw (sx:A5 lf) {s t:List Nat} (hlen:s.length<=8192) (fU:t.length<1000) (hn:3*s.length+42<=n) (aC:600000<lf):
 ∃H',aj ak lf n 72 [.str s,.str t] H=some (.aJ [.str (lr s t).1,.bool (lr s t).2],H')/\Ext H H':=by
 obtain⟨n,rfl⟩:=aN (n:=n);obtain⟨w,H1,aV,aB,ml⟩:=ajS (lf:=lf) (n:=n) (H:=H) sx hlen om aC;have bE:=OG s;have zi:=ml.aQ (yi _);obtain⟨i,aH,hf⟩:=ajs (lf:=lf) (n:=n) (t:=t) zi om fU om aC;have d0:decide (((0:Nat):Int)≠((0:Nat):Int))=false:=by decide
 have key:∃w H',aj ak lf (n+1) 72 [.str s,.str t] H=some (w,H')/\w=.aJ [.str (lr s t).1,.bool (lr s t).2]/\Ext H H':=by
  unfold lr;cases tY:oT (lR s) (mM t)with
  |none=>
   rw[tY]at aH;replace aH:aj ak lf n 118 [w,.str t] H1=some (.aJ [iN i,.bool false],H1):=aH;refine cx I1.1 ?_;refine af ae ?_;refine ai ae aV ?_;refine af @d0 ?_;refine ah ae ?_;refine af ae ?_;refine ai ae aH ?_;refine af ae ?_;refine ar ae ?_;refine af ae ?_;refine cD ae ?_;exact(⟨rfl,aB⟩)
  |some j=>
   rw[tY]at aH;replace aH:aj ak lf n 118 [w,.str t] H1=some (.aJ [iN i,.bool true],H1):=aH;obtain rfl:=hf j tY;obtain⟨_,x,hx,_⟩:=KL tY;rw[Nat.sub_zero]at hx;have eX:((lR s).map dL)[i]? =some (dL x):=by rw[List.getElem?_map,hx];rfl
   obtain⟨b,o,h1,h2,h3,_⟩:=zi.at_ eX;obtain⟨k1,k2⟩:=X2 (List.mem_of_getElem? hx);have r2:aq (H1.get b) (o+2) 1=some [iN x.aw]:=lx h3 (i:=2) (m:=1) om;have r4:aq (H1.get b) (o+4) 1=some [iN x.to]:=lx h3 (i:=4) (m:=1) om;simp only[hx];refine cx I1.1 ?_;refine af ae ?_;refine ai ae aV ?_;refine af @d0 ?_;refine ah ae ?_;refine af ae ?_;refine ai ae aH ?_;refine af ae ?_;refine ah ae ?_;refine af ae ?_;refine af (An @h1 (An @r2 @r4)) ?_;refine cD ae ?_;exact(⟨rfl,aB⟩)
 obtain⟨w,H',h,rfl,hE⟩:=key;exact⟨H',h,hE⟩
theorem abh (sx:A5 lf) {x:Gd} {sv:SV} {S:List (List Nat)} {o w:List Nat} (hx:eE x.s/\x.s.length<=3) (hS:br H sv 1 (bZ S)) (xj:S.length<100000) (kM:o.length<=8192) (oh:w.length<=8192) (hn:30000<=n) (aC:600000<lf):
 ∃H',aj ak lf n 43 [.agg (iA x),sv,.str o,.str w] H=some (.bool (!decide (x.g∈S)&&lA x.s o w),H')/\Ext H H':=by
 obtain⟨n,rfl⟩:=aN (n:=n);obtain⟨st,g,⟨t1,t2⟩,s⟩:=x;obtain⟨hs,bE⟩:=hx;have bE:s.length<=3:=bE;obtain⟨H1,ay⟩:∃H1,H.push (.row [.bool st,.str g,iN t1,.str t2,.str s] 58 true false 0)=H1:=⟨_,rfl⟩;have aB:Ext H H1:=by rw[<-ay];exact(Ext.refl H).push _
 have ca:H1.next=H.next+1:=by rw[<-ay];rfl
 have bP:H1.get H.next=some (.row [.bool st,.str g,iN t1,.str t2,.str s] 58 true false 0):=by rw[<-ay];exact bd _
 obtain⟨H2,aH,aF⟩:=Xw (lf:=lf) (n:=n) (H:=H1) sx kM (t:=s) om om aC;obtain⟨H3,bf,aS⟩:=Xw (lf:=lf) (n:=n) (H:=H2) sx oh (t:=s) om om aC;have bB:=(aF.2 H.next om).trans bP;have aoi:=bE;have key:∃v H',aj ak lf (n+1) 43 [.agg [.bool st,.str g,iN t1,.str t2,.str s],sv,.str o,.str w] H=some (v,H')/\v=.bool (!decide (g∈S)&&lA s o w)/\Ext H H':=by
  have hh:=TU (lf:=lf) (n:=n) (s:=g) (hS.ax aB) xj om aC;by_cases LS:g∈S
  ·rw[decide_eq_true LS]at hh;refine cx AV.1 ?_;refine af (An @ay @bP) ?_;refine ai ae hh ?_;refine af ae ?_;refine ar ae ?_;refine af ae ?_;refine aO ae ?_;exact(⟨by simp[LS],aB⟩)
  rw[decide_eq_false LS]at hh ⊢;unfold lA;by_cases h0:s=[]
  ·subst h0;have d0:decide (([]:List Nat)=[])=true:=rfl;rw[if_pos rfl];refine cx AV.1 ?_;refine af (An @ay @bP) ?_;refine ai ae hh ?_;refine af ae ?_;refine ah ae ?_;refine af (An @bP @d0) ?_;refine ar ae ?_;refine af ae ?_;refine aO ae ?_;exact(⟨rfl,aB⟩)
  ·have d0:decide (s=[])=false:=decide_eq_false h0;rw[if_neg h0];generalize lr o s=p at aH ⊢;generalize lr w s=q at bf ⊢;obtain⟨p1,p2⟩:=p;obtain⟨q1,q2⟩:=q;have he:=Kx p2 q2;by_cases rj:p2=q2
   ·subst rj;rw[decide_eq_true rfl]at he;refine cx AV.1 ?_;refine af (An @ay @bP) ?_;refine ai ae hh ?_;refine af ae ?_;refine ah ae ?_;refine af (An @bP @d0) ?_;refine ah ae ?_;refine af @bP ?_;refine ai ae aH ?_;refine af @bB ?_;refine ai ae bf ?_;refine af @he ?_;refine aO ae ?_;exact(⟨by simp,aB.trans (aF.trans aS)⟩)
   ·rw[decide_eq_false rj]at he;refine cx AV.1 ?_;refine af (An @ay @bP) ?_;refine ai ae hh ?_;refine af ae ?_;refine ah ae ?_;refine af (An @bP @d0) ?_;refine ah ae ?_;refine af @bP ?_;refine ai ae aH ?_;refine af @bB ?_;refine ai ae bf ?_;refine af @he ?_;refine aO ae ?_;exact(⟨by simp[rj],aB.trans (aF.trans aS)⟩)
 obtain⟨v,H',h,rfl,hE⟩:=key;exact⟨H',h,hE⟩
@[reducible] def ZB (H1:ag) (p5 p7:Nat) (sv:SV) (S:List (List Nat)) (t:Tt) (o w:List Nat) (E:List Gd) (m:Nat) (ts:T) (D:DS) (H':ag):Prop:=
  D=[]/\Ext H1 H'/\∃i r:Nat,m=E.length-i/\i<=E.length/\jE S t o w E 1=jE S t o w (E.drop i) r/\∃z:Nat->SV,ts=(z 0::(sv)::z 2::(.str o)::(.str w)::(.ptr p5 0)::z 6::(.ptr p7 0)::zz z 8 3 ((.int .i64 (r:Int))::(.int .i64 (i:Int))::zz z 13 28 []):T)/\(True)
theorem ajg (sx:A5 lf) {k:Nat} {gv rv dv sv:SV} {G:List Gr} {R:List Rl} {E:List Gd} {S:List (List Nat)} {t:Tt} {o w:List Nat} (hp:g' (br H) k gv rv dv G R E) (hS:br H sv 1 (bZ S)) (xj:S.length<100000)
 (kM:o.length<=8192) (oh:w.length<=8192) (hn:30001<=n) (aC:600000<lf):
 ∃H',aj ak lf n 15 [.agg [gv,rv,dv],sv,tC t,.str o,.str w] H=some (.int .i64 ((jE S t o w E 1:Nat):Int),H')/\Ext H H':=by
 obtain⟨n,rfl⟩:=aN (n:=n);obtain⟨t1,t2⟩:=t;obtain⟨H1,ay⟩:∃H1,H.push (.row [gv,rv,dv] 29 true false 0)=H1:=⟨_,rfl⟩;have aB:Ext H H1:=by rw[<-ay];exact(Ext.refl H).push _
 have ca:H1.next=H.next+1:=by rw[<-ay];rfl
 have bP:H1.get H.next=some (.row [gv,rv,dv] 29 true false 0):=by rw[<-ay];exact bd _
 obtain⟨H2,aY⟩:∃H2,H1.push (.row [iN t1,.str t2] 40 true false 0)=H2:=⟨_,rfl⟩;have aF:Ext H1 H2:=by rw[<-aY];exact(Ext.refl H1).push _
 have dc:H2.next=H1.next+1:=by rw[<-aY];rfl
 have bB:H2.get H1.next=some (.row [iN t1,.str t2] 40 true false 0):=by rw[<-aY];exact bd _
 have FC:=(aF.2 H.next om).trans bP;have B4:=(hp.ds.ax aB).ax aF;have iB:=(hS.ax aB).ax aF;have aW:=hp.ds.cA;rw[List.length_map]at aW;have BB:=hp.se;have key:∃v H',aj ak lf (n+1) 15 [.agg [gv,rv,dv],sv,.agg [iN t1,.str t2],.str o,.str w] H=some (v,H')/\v=.int .i64 ((jE S (t1,t2) o w E 1:Nat):Int)/\Ext H H':=by
  refine cx Px.1 ?_;refine af (An @ay (An @ca @aY)) ?_;refine bH (I:=ZB H2 H.next (H.next+1) sv S (t1,t2) o w E) ?_ E.length ?_ om
  ·rintro m ts D H' ⟨rfl,aS,i,r,rfl,hi,hf,⟨z,rfl, -⟩⟩;by_cases bw:i<E.length
   ·have d1:decide (((i:Nat):Int)<((E.length:Nat):Int))=true:=dt;have eX:(E.map iA)[i]? =some (iA E[i]):=by simp[bw]
    have cZ:=Te (hp.qG _ (List.getElem_mem bw));obtain⟨b,ob,h1,h2,h3,_⟩:=(B4.ax aS).at_ eX;have dA:=(aS.2 (H.next+1) om).trans (ca▸bB);rw[List.drop_eq_getElem_cons bw,jE]at hf;generalize E[i]=x at eX cZ h3 hf;obtain⟨st,g,⟨u1,u2⟩,s⟩:=x;have bj:aq (H'.get b) ob 5=some [.bool st,.str g,iN u1,.str u2,.str s]:=h3;obtain⟨H5,bg⟩:∃H5,(H'.push (.row [.bool false,.str [],iN 0,.str [],.str []] 58 true false 0)).put H'.next (.row [.bool st,.str g,iN u1,.str u2,.str s] 58 true false 0)=H5:=⟨_,rfl⟩;have bm:Ext H' H5:=by rw[<-bg];exact((Ext.refl H').push _).put (Nat.le_refl _) _
    have fS:H5.get H'.next=some (.row [.bool st,.str g,iN u1,.str u2,.str s] 58 true false 0):=by rw[<-bg];exact bT _ _
    have iG:H5.next=H'.next+1:=by rw[<-bg];rfl
    have dw:=(bm.2 (H.next+1) (by have:=aS.1;omega)).trans dA;have heq:hY true [(0,1),(1,2)] (.agg [iN u1,.str u2]) (.agg [iN t1,.str t2])=some (decide ((u1,u2)=(t1,t2))):=EL (u1,u2) (t1,t2);have qX:=(aS.2 H.next om).trans FC;have rd:aq (H'.get H.next) 2 1=some [dv]:=by rw[qX];rfl
    obtain⟨H6,cP,cL⟩:=abh (lf:=lf) (n:=n) (H:=H5) sx (x:=⟨st,g,(u1,u2),s⟩) (S:=S) cZ ((iB.ax aS).ax bm) xj kM oh om aC;replace cP:aj ak lf n 43 [.agg [.bool st,.str g,iN u1,.str u2,.str s],sv,.str o,.str w] H5=some (.bool (!decide (g∈S)&&lA s o w),H6):=cP;have ug:=(cL.2 _ om).trans fS;have hf:jE S (t1,t2) o w E 1=if(decide ((u1,u2)≠(t1,t2))||decide (g∈S)||!lA s o w)=true then jE S (t1,t2) o w (E.drop (i+1)) r else if st=true then 3 else jE S (t1,t2) o w (E.drop (i+1)) 2:=hf
    by_cases aV:(u1,u2)=(t1,t2)
    ·rw[decide_eq_true aV]at heq;cases bf:(!decide (g∈S)&&lA s o w)with
     |false=>
      rw[bf]at cP;have mu:(decide ((u1,u2)≠(t1,t2))||decide (g∈S)||!lA s o w)=true:=by
       revert bf;by_cases q:g∈S<;>cases lA s o w<;>simp[q]
      rw[if_pos mu]at hf;refine af (An @rd (An @aW @d1)) ?_;refine ar ae ?_;refine af (An @rd (An @h1 (An @bj (An @bg (An @fS (An @dw @heq)))))) ?_;refine ai ae cP ?_;refine af ae ?_;refine ar ae ?_;refine af ae ?_;refine aT (E.length-(i+1)) om ⟨rfl,aS.trans (bm.trans cL),i+1,r,rfl,by omega,hf,aw⟩
     |true=>
      rw[bf]at cP;have mu:¬(decide ((u1,u2)≠(t1,t2))||decide (g∈S)||!lA s o w)=true:=by
       revert bf;by_cases q:g∈S<;>cases lA s o w<;>simp[q,aV]
      rw[if_neg mu]at hf;cases st with
      |true=>
       rw[if_pos rfl]at hf;refine af (An @rd (An @aW @d1)) ?_;refine ar ae ?_;refine af (An @rd (An @h1 (An @bj (An @bg (An @fS (An @dw @heq)))))) ?_;refine ai ae cP ?_;refine af ae ?_;refine ah ae ?_;refine af @ug ?_;refine ar ae ?_;refine af ae ?_;refine aO ae ?_;exact(⟨by rw[hf],aB.trans (aF.trans (aS.trans (bm.trans cL)))⟩)
      |false=>
       rw[if_neg (by simp)]at hf;refine af (An @rd (An @aW @d1)) ?_;refine ar ae ?_;refine af (An @rd (An @h1 (An @bj (An @bg (An @fS (An @dw @heq)))))) ?_;refine ai ae cP ?_;refine af ae ?_;refine ah ae ?_;refine af @ug ?_;refine ah ae ?_;refine af ae ?_;refine aT (E.length-(i+1)) om ⟨rfl,aS.trans (bm.trans cL),i+1,2,rfl,by omega,hf,aw⟩
    ·rw[decide_eq_false aV]at heq;rw[if_pos (by simp only[ne_eq,aV,not_false_eq_true,decide_true,Bool.true_or])]at hf;refine af (An @rd (An @aW @d1)) ?_;refine ar ae ?_;refine af (An @rd (An @h1 (An @bj (An @bg (An @fS (An @dw @heq)))))) ?_;refine ar ae ?_;refine af ae ?_;refine aT (E.length-(i+1)) om ⟨rfl,aS.trans bm,i+1,r,rfl,by omega,hf,aw⟩
   ·have gV:i=E.length:=om;subst gV;have d1:decide (((E.length:Nat):Int)<((E.length:Nat):Int))=false:=by simp
    rw[List.drop_length,jE]at hf;have rd:aq (H'.get H.next) 2 1=some [dv]:=by rw[(aS.2 H.next om).trans FC];rfl
    refine af (An @rd (An @aW @d1)) ?_;refine ah ae ?_;refine af ae ?_;refine aO ae ?_;exact(⟨by rw[hf],aB.trans (aF.trans aS)⟩)
  ·exact⟨rfl,Ext.refl _,0,1,rfl,Nat.zero_le _,rfl,aw⟩
 obtain⟨v,H',h,rfl,hE⟩:=key;exact⟨H',h,hE⟩
end
end
end Go.Sh
