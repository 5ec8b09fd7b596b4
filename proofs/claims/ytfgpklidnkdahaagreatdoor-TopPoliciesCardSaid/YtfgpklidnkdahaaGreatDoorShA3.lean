/-
  The other operations of the evaluator, and one step of it, agree with the program text. No conditions beyond those that stand in the theorems.
-/
import Derived.Test.YtfgpklidnkdahaaGreatDoorShA2
import Derived.Lib.Bytealg
import Derived.Laws.LoneSync
import Derived.Lib.UnsafeStr
set_option linter.all false
set_option maxHeartbeats 20000000
namespace Go.Sh
section
open Go.RowKit (Below)
section
variable {P:Program} {w:World}
structure Src (P:Program) (w:World) (size:Nat) (x:Value) (n:Nat) (news:List Value):Prop where
 len:∀w':World,(Builtin.lenOf x).run P w'=.ok n w'
 take:∀(k:Nat) (w':World),k<=n->w'.heap=w.heap->(Builtin.firstCells size k x).run P w'=.ok (news.take (k*size)).toArray w'
 long:news.length=n*size
theorem Src.cells {P:Program} {w:World} {size n:Nat} {x:Value} {news:List Value} (h:Src P w size x n news) (w':World) (hw:w'.heap=w.heap):(Builtin.firstCells size n x).run P w'=.ok news.toArray w':=by
 rw[h.take n w' (Nat.le_refl _) hw,List.take_of_length_le (by rw[h.long];exact Nat.le_refl _)]
theorem XA {t u ty e:TypeId} {i:TypeInfo} {du:TypeDesc} {base:Option Addr} {sLen sCap:Nat} {x:Value} {news:List Value} (ht:P.underlying t=some (.slice e)) (hi:P.info? e=some i)
 (hu:P.underlying u=some du) (pW:∀k,du≠ .int k) (hs:Src P w i.size x 0 news) (hn:news=[]) (hle:sLen<=sCap):
 (Builtin.append_ #[t,u] ty #[.slice base sLen sCap,x]).run P w=.ok (.slice base sLen sCap) w:=by
 subst hn;have hm:(match du with|.int _=>true|_=>false)=false:=by cases du<;>first|rfl|exact absurd rfl (pW _)
 have h1:=hs.len w;have h2:=hs.cells w rfl;simp only[Builtin.append_,List.getElem?_toArray,List.getElem?_cons_zero,List.getElem?_cons_succ,Sem.run_bind,run_underlying ht,run_underlying hu,Result.andThen_ok,sizeOf,typeInfo,hi,run_program,Sem.run_pure];cases du<;>first
  |exact absurd rfl (pW _)
  |(simp[h1,h2,hle];cases base<;>simp[storeCells])
theorem XB {t u ty e:TypeId} {i:TypeInfo} {du:TypeDesc} {g b sLen sCap n:Nat} {x:Value} {news:List Value} (ht:P.underlying t=some (.slice e)) (hi:P.info? e=some i)
 (hu:P.underlying u=some du) (pW:∀k,du≠ .int k) (hs:Src P w i.size x n news) (hle:sLen+n<=sCap)
 (hc:∀j,j<news.length->(w.cell? ⟨g,b+sLen*i.size+j,none⟩).isSome=true) (hf:∀j,j<news.length->w.frozen? ⟨g,b+sLen*i.size+j,none⟩=false) (h1:∀v∈news,v.oneCell'=true):
 (Builtin.append_ #[t,u] ty #[.slice (some ⟨g,b,none⟩) sLen sCap,x]).run P w=.ok (.slice (some ⟨g,b,none⟩) (sLen+n) sCap) (w.setCells g (b+sLen*i.size) news):=by
 have aD:=run_storeCells_cells (P:=P) g (b+sLen*i.size) news 0 w (by simpa using hc) (by simpa using hf) h1;have hl:=hs.len w;have bO:=hs.cells w rfl;simp only[Nat.add_zero]at aD;simp only[Builtin.append_,List.getElem?_toArray,List.getElem?_cons_zero,List.getElem?_cons_succ,Sem.run_bind,run_underlying ht,run_underlying hu,Result.andThen_ok,sizeOf,typeInfo,hi,run_program,Sem.run_pure];cases du<;>first
  |exact absurd rfl (pW _)
  |(simp[hl,bO,hle,rX,aD])
theorem aj0 {t u ty e:TypeId} {i:TypeInfo} {z:Value} {du:TypeDesc} {base:Option Addr} {sLen sCap n:Nat} {x:Value} {olds news:List Value} (ht:P.underlying t=some (.slice e)) (hi:P.info? e=some i) (hz:i.zero=some z)
 (hu:P.underlying u=some du) (pW:∀k,du≠ .int k) (hs:Src P w i.size x n news) (hg:sCap<sLen+n)
 (ho:∀w':World,w'.heap=w.heap->(Builtin.firstCells i.size sLen (.slice base sLen sCap)).run P w'=.ok olds.toArray w')
 (ze:((sLen+n:Nat):Int)<=9223372036854775807) (LP:(sLen+n)*i.bytes<=140737488355328):
 (Builtin.append_ #[t,u] ty #[.slice base sLen sCap,x]).run P w=
  .ok (.slice (some ⟨w.heap.size,0,none⟩) (sLen+n) (grownCap w (sLen+n) sCap e))
   (w.drew.alloc (.cells (olds.toArray++news.toArray++Builtin.zeroCells z.cells (grownCap w (sLen+n) sCap e-(sLen+n))) e)):=by
 have hn:¬(sLen+n<=sCap):=om;have Bw:¬(9223372036854775807<((sLen:Int)+(n:Int))):=om;have aen:=growslice_fits hg LP;have KS:¬(281474976710656<Builtin.nextslicecap (sLen+n) sCap*i.bytes):=om;have hl:=hs.len w;have bO:=hs.cells w.drew rfl;have kM:=ho w.drew rfl;simp only[Builtin.append_,List.getElem?_toArray,List.getElem?_cons_zero,List.getElem?_cons_succ,Sem.run_bind,run_underlying ht,run_underlying hu,Result.andThen_ok,sizeOf,typeInfo,hi,run_program,Sem.run_pure];cases du<;>first
  |exact absurd rfl (pW _)
  |(simp[zeroValue,typeInfo,hi,hz,hl,hn,Bw,KS,Question.forced,bO,kM,newRow,grownCap]
    try(congr 2;apply Array.ext';simp[List.append_assoc]))
theorem RY {w w':World} (h:w'.heap=w.heap) (ad:Addr):w'.cell? ad=w.cell? ad:=by simp[World.cell?,h]
variable {φ:aI} {B:Nat} {H H':ag} {ts:T} {a:Act} {o:Oper} {v:SV}
theorem RL (s:ByteArray):aE φ (byteCells (s.data.toList.map UInt8.toNat)) (s.data.map fun b=>Value.int .u8 b.toNat).toList:=by
 rw[Array.toList_map]
 induction s.data.toList with
 |nil=>exact .nil
 |cons b l ih=>exact .cons (.int _ _) ih
theorem Yl {str:Bool} {z n:Nat} {x:SV} {xs:List SV} {x':Value} (h:lT H str z x=some (n,xs)) (hx:VR φ x x') (hh:HR φ B H w) (hz:str=true->z=1):
 ∃news,Src P w z x' n news/\aE φ xs news/\news.length=n*z:=by
 unfold lT at h;split at h
 ·split at h
  ·cases h;cases hx with
   |str hs=>
    rename_i l s;have dY:l.length=s.size:=by rw[hs,List.length_map,Array.length_toList];rfl
    have zy:(s.data.map fun b=>Value.int .u8 b.toNat).toList.length=l.length*z:=by rw[hz rfl,dY];simp
    refine⟨(s.data.map fun b=>Value.int .u8 b.toNat).toList,⟨fun w'=>?_,fun k w' hk _=>?_,zy⟩,?_,zy⟩
    ·simp[Builtin.lenOf,dY]
    ·simp only[Builtin.firstCells,Sem.run_pure,Result.ok.injEq,and_true,hz rfl,Nat.mul_one];apply Array.ext';simp only[ByteArray.data_extract,Array.toList_map,Array.toList_extract,List.extract,List.drop_zero,Nat.sub_zero];rw[<-List.map_take]
    ·subst hs;exact RL s
  ·cases h
 ·split at h
  ·cases h;cases hx;exact⟨[],⟨fun w'=>by simp[Builtin.lenOf],fun k w' _ _=>by simp[Builtin.firstCells],by simp⟩,.nil,by simp⟩
  ·rename_i b off n' c z';split at h
   ·cases h;obtain⟨ad,cap,rfl,_,_⟩:=hx.uD;exact⟨[],⟨fun w'=>by simp[Builtin.lenOf],fun k w' hk _=>by
     obtain rfl:k=0:=om;simp[Builtin.firstCells,loadCells,loadCellsFrom],by simp⟩,.nil,by simp⟩
   ·split at h
    ·split at h
     ·rename_i k _ cs hcs;cases h;cases hx with
      |slice hl hc hn ht=>
       rename_i cap l;obtain⟨vs,hv,hlen,hcell,_⟩:=hh.load hl hcs;refine⟨vs,⟨fun w'=>by simp[Builtin.lenOf],fun m w' hm M1=>?_,hlen⟩,hv,hlen⟩;have nU:(vs.take (m*z)).length=m*z:=by
        rw[List.length_take,hlen];exact Nat.min_eq_left (Nat.mul_le_mul_right _ hm)
       have:=run_loadCells_list (P:=P) w' ⟨l.rb,l.base+off,none⟩ (vs.take (m*z)) (fun j u hu=>by
        rw[rX,RY M1];rw[List.getElem?_take]at hu;split at hu
        ·exact hcell j u hu
        ·cases hu)
       rw[nU]at this;simp[Builtin.firstCells,this]
     ·cases h
    ·cases h
  ·cases h
theorem HR.kill (hh:HR φ B H w) (b:Nat):HR φ B (H.put b .dead) w where
 dD c m e:=hh.dD c m e
 inj c c' m m' e e' hr hc fk:=by
  rw[ag.mV]at hc fk;by_cases k:c=b
  ·rw[if_pos k]at hc;exact hc.elim
  ·by_cases k':c'=b
   ·rw[if_pos k']at fk;exact fk.elim
   ·rw[if_neg k]at hc;rw[if_neg k']at fk;exact hh.inj c c' m m' e e' hr hc fk
 obj c m e:=by
  rw[ag.mV];split
  ·exact .dead
  ·exact hh.obj c m e
 sz:=hh.sz
theorem HR.afO {b off n:Nat} {l:Loc} {cs old new:List SV} {e:TypeId} {ex:Bool} {frz:Nat} {news:List Value} (hh:HR φ B H w) (hl:φ b=some l) (hg:H.get b=some (.row cs e ex false frz))
 (hold:eK H b off n=some old) (mB:aE φ new news) (bV:new.all SV.one=true) (hf:frz<=off+n) (xE:l.base+off+n+news.length<=l.pA):
 (∀j,j<news.length->(w.cell? ⟨l.rb,l.base+off+n+j,none⟩).isSome=true)/\(∀j,j<news.length->w.frozen? ⟨l.rb,l.base+off+n+j,none⟩=false)/\(∀v∈news,v.oneCell'=true)/\
 HR (φ.ins H.next ⟨l.rb,l.base+off,l.pA,.bool false⟩) B ((H.put b .dead).push (.row (old++new) e false false (frz-off))) (w.setCells l.rb (l.base+off+n) news)/\Below B w (w.setCells l.rb (l.base+off+n) news):=by
 have ho:=hh.obj b l hl;have np:=HR.ND hg;rw[hg]at ho;unfold eK at hold;rw[hg]at hold;dsimp only at hold;split at hold
 ·rename_i hle;cases hold;have hle:=Nat.le_of_ble_eq_true hle;cases ho with
  |row hb hs hc hlen hex iU jh=>
   rename_i C lo hi;have hB:=iU rfl;have xA:=mB.length;have FM:φ.le (φ.ins H.next ⟨l.rb,l.base+off,l.pA,.bool false⟩):=aI.sO hh.fresh;refine⟨fun j hj=>?_,fun j hj=>?_,mB.one bV,?_,Below.setCells hB _ _ _⟩
   ·rw[wy w _ _ C e _ hb];simp;omega
   ·rw[S9 w _ _ C e lo hi hb];have:=jh rfl (l.base+off+n+j) om (.inl om);simp at this ⊢;omega
   ·have dP:=World.LL l.rb news (l.base+off+n) w C e (lo,hi) hb;have hd:=hh.dD b l hl;refine⟨fun c m em=>?_,fun c c' m m' em y8 hr aV aH=>?_,fun c m em=>?_,?_⟩
    ·unfold aI.ins at em;rw[World.HF];split at em
     ·cases em;rename_i ec;subst ec;simp only[ag.push,ag.put];omega
     ·have:=hh.dD c m em;simp only[ag.push,ag.put];omega
    ·have aeV:(H.put b .dead).next=H.next:=rfl
     have bne:b≠H.next:=om;have LH:∀c,c≠H.next->live (((H.put b .dead).push (.row ((cs.drop off).take n++new) e false false (frz-off))).get c)->c≠b/\live (H.get c):=by
      intro c sC xA;rw[ag.mU,aeV,if_neg sC,ag.mV]at xA;by_cases k:c=b
      ·rw[if_pos k]at xA;exact xA.elim
      ·rw[if_neg k]at xA;exact⟨k,xA⟩
     by_cases k:c=H.next
     ·by_cases k':c'=H.next
      ·rw[k,k']
      ·exfalso;obtain⟨q1,q2⟩:=LH c' k' aH;simp only[aI.ins,if_pos k,Option.some.injEq]at em;simp only[aI.ins,if_neg k']at y8;subst em;exact q1 (hh.inj c' b m' l y8 hl hr.symm q2 np)
     ·obtain⟨q1,q2⟩:=LH c k aV;by_cases k':c'=H.next
      ·exfalso;simp only[aI.ins,if_pos k',Option.some.injEq]at y8;simp only[aI.ins,if_neg k]at em;subst y8;exact q1 (hh.inj c b m l em hl hr q2 np)
      ·obtain⟨q1',q2'⟩:=LH c' k' aH;simp only[aI.ins,if_neg k]at em;simp only[aI.ins,if_neg k']at y8;exact hh.inj c c' m m' em y8 hr q2 q2'
    ·rw[ag.mU,show(H.put b .dead).next=H.next from rfl];by_cases k:c=H.next
     ·rw[if_pos k];simp only[aI.ins,if_pos k,Option.some.injEq]at em;subst em;refine .row dP (by rw[OH,hs]) (fun i x hx=>?_) ?_ (fun h=>by cases h) iU (fun h0 i h1 h2=>jh h0 i (by simp only at h1;omega) (h2.elim .inl (fun h=>by cases h)))
      ·rw[Hy _ _ _ _ om];rw[List.getElem?_append]at hx;split at hx
       ·rename_i gf;simp only[List.length_take,List.length_drop]at gf;rw[List.getElem?_take,if_pos om,List.getElem?_drop]at hx;rw[if_neg (by simp only;omega)];obtain⟨u,h1,h2⟩:=hc _ _ hx;exact⟨u,by rw[<-h1];congr 1;simp only;omega,h2.mono FM⟩
       ·rename_i gf;simp only[List.length_take,List.length_drop]at gf hx;obtain⟨u,h1,h2⟩:=mB.get _ _ hx;have hlt:i-min n (cs.length-off)<news.length:=(List.getElem?_eq_some_iff.1 h1).1;rw[if_pos (by simp only;omega)];exact⟨u,by rw[<-h1];congr 1;simp only;omega,h2.mono FM⟩
      ·simp;omega
     ·rw[if_neg k,ag.mV];simp only[aI.ins,if_neg k]at em;split
      ·exact .dead
      ·rename_i k2;by_cases hr:m.rb=l.rb
       ·cases sF:H.get c with
        |none=>exact .none
        |some oo=>
         cases oo with
         |dead=>exact .dead
         |_=>exact absurd (hh.inj c b m l em hl hr (by rw[sF];trivial) np) k2
       ·exact(hh.obj c m em).mono FM (World.LK _ _ hr _ _ _)
    ·rw[World.HF];exact hh.sz
 ·cases hold
theorem VR.Ay {b off n z cap:Nat} {c:Option Nat} {ad:Addr} (hv:VR φ (.slice b off n c z) (.slice (some ad) n cap)):
 (∃l,φ b=some l/\ad=⟨l.rb,l.base+off,none⟩/\(∀k,c=some k->cap=k)/\n<=cap/\l.base+off+cap*z<=l.pA)\/(n=0/\cap=0/\(∀k,c=some k->k=0)):=by
 cases hv with
 |slice hl hc hn ht=>exact .inl ⟨_,hl,rfl,hc,hn,ht⟩
 |kQ hc=>exact .inr ⟨rfl,rfl,hc⟩
theorem adl {olds news:List Value} {rest:Array Value} (i:Nat) (u:Value) (h:(olds++news)[i]? =some u):(olds.toArray++news.toArray++rest)[i]? =some u:=by
 rw[<-Array.getElem?_toList];simp only[Array.toList_append];rw[List.getElem?_append_left (by have:=(List.getElem?_eq_some_iff.1 h).1;simpa using this)];exact h
theorem WK {str:Bool} {t u e:TypeId} {du:TypeDesc} {ti:TI} {s x:Operand} {s' x':X} (ht:P.underlying t=some (.slice e)) (bu:fq P e ti) (hu:P.underlying u=some du) (pW:∀k,du≠ .int k) (qf:str=true->ti.size=1)
 (hs:aR s=some s') (hx:aR x=some x') (ho:o.op=.call {callee:=.builtin .append,args:=#[s,x],argTypes:=#[t,u]}) (vt:aE φ ts a.tmps.toList) (hh:HR φ B H w)
 (he:evalOp (.app str e ti.size ti.bytes s' x') ts H=some (v,H')):aK P φ B H w (execOp a.eval o) v H':=by
 have h1:=bF hs vt;have h2:=bF hx vt;obtain⟨info,d,z,pZ,hd,hz,dY,qU,eG,zQ⟩:=bu.ex;have hzl:z.cells.size=ti.size:=by
  have:=(zQ φ).cells.length;rw[<-bu.zero,bu.len]at this;simpa using this.symm
 have iE:∀{p q:Value} {r:Value} {w':World},a.eval s=p->a.eval x=q->(Builtin.append_ #[t,u] o.type #[p,q]).run P w=.ok r w'->(execOp a.eval o).run P w=.ok (.value r) w':=by
  intro p q r w' e1 e2 hr;simp[execOp,ho,resolve,invoke,builtin,e1,e2,hr]
 simp only[evalOp,gP]at he;cases ew:lT H str ti.size (x'.ev ts)with
 |none=>rw[ew]at he;cases he
 |some pr=>
  obtain⟨n,xs⟩:=pr;rw[ew]at he;obtain⟨news,hS,CH,kf⟩:=Yl (P:=P) ew h2 hh qf;rw[<-dY]at hS;generalize hp:a.eval s=p at h1;cases n with
  |zero=>
   dsimp only at he;have aP:news=[]:=List.eq_nil_of_length_eq_zero (by simpa using kf);split at he
   ·rename_i e1;cases he;rw[e1]at h1 ⊢;cases h1;exact aK.pure (iE hp rfl (XA ht pZ hu pW hS aP (Nat.le_refl _))) .ao hh
   ·rename_i b off k c z' e1;cases he;rw[e1]at h1 ⊢;obtain⟨ad,cap,rfl,hle,_⟩:=h1.uD;exact aK.pure (iE hp rfl (XA ht pZ hu pW hS aP hle)) h1 hh
   ·cases he
  |succ n=>
   dsimp only at he;have grow:∀{base:Option Addr} {sLen sCap:Nat} {old:List SV} {olds:List Value} {Hk:ag} {frz:Nat},HR φ B Hk w->Hk.next=H.next->a.eval s=.slice base sLen sCap->sCap<sLen+(n+1)->aE φ old olds->olds.length=sLen*ti.size->
    (∀w':World,w'.heap=w.heap->(Builtin.firstCells info.size sLen (.slice base sLen sCap)).run P w'=.ok olds.toArray w')->(sLen+(n+1))*ti.bytes<=dR->sLen+(n+1)<=9223372036854775807->
    aK P φ B H w (execOp a.eval o) (.slice H.next 0 (sLen+(n+1)) none ti.size) (Hk.push (.row (old++xs) e false false frz)):=by
    intro base sLen sCap old olds Hk frz hk jw e1 hlt zP kM vj MI ze;have dK:=aj0 (P:=P) (w:=w) (t:=t) (u:=u) (ty:=o.type) ht pZ hz hu pW hS hlt vj om (by rw[qU];simp only[dR]at MI;omega);have hle:sLen+(n+1)<=grownCap w (sLen+(n+1)) sCap e:=grownCap_ge _ _ _ _;have Cx:(olds.toArray++news.toArray++Builtin.zeroCells z.cells (grownCap w (sLen+(n+1)) sCap e-(sLen+(n+1)))).size=grownCap w (sLen+(n+1)) sCap e*ti.size:=by
     simp only[Array.size_append,List.size_toArray,size_zeroCells,hzl,kM,kf];rw[<-Nat.add_mul,<-Nat.add_mul];congr 1;omega
    have gS:=hk.Rq (vs:=olds.toArray++news.toArray++Builtin.zeroCells z.cells (grownCap w (sLen+(n+1)) sCap e-(sLen+(n+1)))) (e:=e) (zP.append CH) (fun i v h=>adl i v h) (by simp) (w0:=w.drew) rfl (Below.refl _ _).drew;obtain⟨g1,g2⟩:=gS;rw[jw]at g1;have g1':=HR.frz (frz:=frz) g1;refine aK.mk (by rw[<-jw];exact Nat.le_succ _) (aI.si hh.fresh) (iE e1 rfl dK) (.slice (l:=⟨w.heap.size,0,_,.bool false⟩) (aI.qi _ _ _) (fun k hk=>by cases hk) hle ?_) g1' g2;simp only[Nat.zero_add,Cx];exact Nat.le_refl _
   split at he
   ·
    rename_i e1;split at he
    ·rename_i hb;cases he;simp only[Bool.and_eq_true]at hb;have dn:=Nat.le_of_ble_eq_true hb.1;have eo:=Nat.le_of_ble_eq_true hb.2;rw[e1]at h1;cases h1;have:=grow (base:=none) (sLen:=0) (sCap:=0) (old:=[]) (olds:=[]) (Hk:=H) (frz:=0) hh rfl hp om .nil (by simp) (fun w' _=>by simp[Builtin.firstCells]) (by simpa using dn) (by simp only[dR]at eo;omega);simpa using this
    ·cases he
   ·rename_i b off len c z' e1;split at he
    ·cases he
    ·rename_i hb;simp only[Bool.and_eq_true]at hb;have xL:=Nat.eq_of_beq_eq_true hb.1.1;have dn:=Nat.le_of_ble_eq_true hb.1.2;have eo:=Nat.le_of_ble_eq_true hb.2;subst xL;rw[e1]at h1;obtain⟨ad,cap,zI,hlc,tS⟩:=h1.uD;rw[zI]at h1 hp;cases nV:eK H b off (len*ti.size)with
     |none=>rw[nV]at he;cases he
     |some old=>
      rw[nV]at he;dsimp only at he;have ze:len+(n+1)<=9223372036854775807:=by simp only[dR]at eo;omega
      have hold:∃olds,aE φ old olds/\olds.length=len*ti.size/\(∀w':World,w'.heap=w.heap->(Builtin.firstCells info.size len (.slice (some ad) len cap)).run P w'=.ok olds.toArray w'):=by
       rcases h1.Ay with⟨l,hl,rfl,_,_,_⟩|⟨h0,_,_⟩
       ·obtain⟨vs,hv,hlen,hcell,_⟩:=hh.load hl nV;refine⟨vs,hv,hlen,fun w' M1=>?_⟩;have:=run_loadCells_list (P:=P) w' ⟨l.rb,l.base+off,none⟩ vs (fun j u hu=>by rw[rX,RY M1];exact hcell j u hu);rw[hlen]at this;simp[Builtin.firstCells,dY,this]
       ·subst h0;have:old=[]:=by
         have hlen:old.length=0:=by
          unfold eK at nV;split at nV
          ·split at nV
           ·cases nV;simp
           ·cases nV
          ·cases nV
         exact List.eq_nil_of_length_eq_zero hlen
        subst this;exact⟨[],.nil,by simp,fun w' _=>by simp[Builtin.firstCells,loadCells,loadCellsFrom]⟩
      obtain⟨olds,zP,kM,vj⟩:=hold;cases c with
      |some k=>
       dsimp only at he;split at he
       ·
        rename_i hk;have nT:=Nat.le_of_ble_eq_true hk;split at he
        ·rename_i H1 aD;cases he;rcases h1.Ay with⟨l,hl,rfl,hc,hn,ry⟩|⟨h0,Tj,hc⟩
         ·have eV:=hc k rfl;subst eV;obtain⟨g1,g2,g3,g4,g5⟩:=hh.store hl aD CH;have e3:l.base+(off+len*ti.size)=l.base+off+len*info.size:=by rw[dY];omega
          rw[e3]at g1 g2 g4 g5;have dK:=XB (P:=P) (w:=w) (t:=t) (u:=u) (ty:=o.type) (g:=l.rb) (b:=l.base+off) ht pZ hu pW hS nT g1 g2 g3;exact aK.mk (Nat.le_of_eq (ym aD).symm) (aI.ext.refl φ _) (iE hp rfl dK) (.slice hl (fun j hj=>by cases hj;rfl) nT ry) g4 g5
         ·have:=hc k rfl;omega
        ·cases he
       ·
        rename_i hk;cases he;have nT:k<len+(n+1):=by
         rcases Nat.lt_or_ge k (len+(n+1))with h|h
         ·exact h
         ·rw[Nat.ble_eq_true_of_le h]at hk;cases hk
        exact grow hh rfl hp (by rcases tS k rfl with h|⟨h0,h3,h4⟩<;>omega) zP kM vj dn ze
      |none=>
       dsimp only at he;split at he
       ·rename_i cs e0 ex frz hg;split at he
        ·rename_i mu;cases he;simp only[Bool.and_eq_true]at mu;have hf:=Nat.le_of_ble_eq_true mu.1.1;have xq:=Nat.eq_of_beq_eq_true mu.1.2;have bV:=mu.2;subst xq;by_cases xE:len+(n+1)<=cap
         ·rcases h1.Ay with⟨l,hl,rfl,hc,hn,ry⟩|⟨h0,Tj,_⟩
          ·have hmul:len*ti.size+(n+1)*ti.size<=cap*ti.size:=by rw[<-Nat.add_mul];exact Nat.mul_le_mul_right _ xE
           obtain⟨g1,g2,g3,g4,g5⟩:=hh.afO hl hg nV CH bV hf om;have dK:=XB (P:=P) (w:=w) (t:=t) (u:=u) (ty:=o.type) (g:=l.rb) (b:=l.base+off) ht pZ hu pW hS xE (by rw[dY];exact g1) (by rw[dY];exact g2) g3;rw[dY]at dK;refine aK.mk (Nat.le_succ _) (aI.si hh.fresh) (iE hp rfl dK) ?_ g4 g5;have kh:=VR.slice (φ:=φ.ins H.next ⟨l.rb,l.base+off,l.pA,.bool false⟩) (b:=H.next) (o:=0) (n:=len+(n+1)) (z:=ti.size) (cap:=cap) (c:=none) (aI.qi _ _ _) (fun j hj=>by cases hj) xE (by simpa using ry);simpa using kh
          ·omega
         ·exact grow (hh.kill b) rfl hp om zP kM vj dn ze
        ·cases he
       ·cases he
   ·cases he
end
end
section
open Go.RowKit (Below)
section
variable {P:Program} {φ:aI} {B:Nat} {H H':ag} {w:World} {ts:T} {a:Act} {o:Oper} {v:SV}
theorem ah5 {t xt:TypeId} {dd:TypeDesc} {ti:TI} {ok:Bool} {x:Operand} {y:X} (hi:fq P t ti) (hu:P.underlying t=some dd) (sH:∀ms,dd≠ .interface ms) (hc:aR x=some y)
 (ho:o.op=.typeAssert x xt t ok) (ht:aE φ ts a.tmps.toList) (hh:HR φ B H w) (he:evalOp (.AG t ti.zeroV ok y) ts H=some (v,H')):aK P φ B H w (execOp a.eval o) v H':=by
 have h0:=bF hc ht;obtain⟨z,hz,hr⟩:=hi.yh w;simp only[evalOp]at he;split at he
 ·rename_i t' x' e1;rw[e1]at h0;generalize hp:a.eval x=p at h0;cases h0 with
  |iface h0=>
   rename_i u;split at he
   ·rename_i hb;have dP:=Nat.eq_of_beq_eq_true hb;subst dP;cases he;cases ok with
    |true=>
     refine aK.pure (u:=.tuple #[u,.bool true]) ?_ (.aJ (.cons h0 (.cons (.bool _) .nil))) hh
     simp only[execOp,ho,hp];refine eD ?_;cases dd<;>first|exact absurd rfl (sH _)|simp[Instr.typeAssert,run_underlying hu]
    |false=>
     refine aK.pure (u:=u) ?_ h0 hh;simp only[execOp,ho,hp];refine eD ?_;cases dd<;>first|exact absurd rfl (sH _)|simp[Instr.typeAssert,run_underlying hu]
   ·rename_i hb;have aP:t'≠t:=fun h=>by subst h;simp at hb
    cases ok with
    |true=>
     simp only[if_true,Option.some.injEq,Prod.mk.injEq]at he;obtain⟨rfl,rfl⟩:=he;refine aK.pure (u:=.tuple #[z,.bool false]) ?_ (.aJ (.cons (hz φ) (.cons (.bool _) .nil))) hh
     simp only[execOp,ho,hp];refine eD ?_;cases dd<;>first|exact absurd rfl (sH _)|simp[Instr.typeAssert,run_underlying hu,aP,hr]
    |false=>simp at he
 ·rename_i e1;rw[e1]at h0;generalize hp:a.eval x=p at h0;cases h0;cases ok with
  |true=>
   simp only[if_true,Option.some.injEq,Prod.mk.injEq]at he;obtain⟨rfl,rfl⟩:=he;refine aK.pure (u:=.tuple #[z,.bool false]) ?_ (.aJ (.cons (hz φ) (.cons (.bool _) .nil))) hh
   simp only[execOp,ho,hp];refine eD ?_;cases dd<;>first|exact absurd rfl (sH _)|simp[Instr.typeAssert,run_underlying hu,hr]
  |false=>simp at he
 ·cases he
theorem JH:∀{cs:List SV} {s:List Nat} {vs:List Value},th cs=some s->aE φ cs vs->∃ns:List Int,vs=ns.map (Value.int .u8)/\ns=s.map (fun n:Nat=>(n:Int))/\∀n∈s,n<256
 |[],s,_,h,.nil=>by simp[th]at h;subst h;exact⟨[],rfl,rfl,by simp⟩
 |x::cs,s,_,h,.cons hx ht=>by
  unfold th at h;split at h
  ·rename_i e;cases e
  ·rename_i n rest e;cases e;split at h
   ·rename_i l hl;split at h
    ·rename_i m;split at h
     ·rename_i hm;cases h;obtain⟨ns,h1,h2,h3⟩:=JH hl ht;cases hx;refine⟨Int.ofNat m::ns,by simp[h1],by simp[h2],?_⟩;intro n hn;rcases List.mem_cons.1 hn with rfl|hn
      ·simpa[Nat.blt_eq]using hm
      ·exact h3 n hn
     ·cases h
    ·cases h
   ·cases h
  ·cases h
theorem S8:∀(l:List Nat) (r:ByteArray),(∀n∈l,n<256)->((l.map (fun n:Nat=>(n:Int))).foldl (fun r n=>r.push (UInt8.ofNat n.toNat)) r).data.toList.map UInt8.toNat=r.data.toList.map UInt8.toNat++l
 |[],r,_=>by simp
 |n::l,r,h=>by
  simp only[List.map_cons,List.foldl_cons];rw[S8 l _ (fun m hm=>h m (List.mem_cons_of_mem _ hm))];have hn:=h n (List.mem_cons_self ..);simp[ByteArray.push];omega
theorem ahu {s d e:TypeId} {x:Operand} {y:X} (hs:P.underlying s=some (.slice e)) (hd:P.underlying d=some .string) (vh:P.underlying e=some (.int .u8)) (hc:aR x=some y) (ho:o.op=.convert s d x)
 (ht:aE φ ts a.tmps.toList) (hh:HR φ B H w) (he:evalOp (.yV y) ts H=some (v,H')):aK P φ B H w (execOp a.eval o) v H':=by
 have h0:=bF hc ht;simp only[evalOp]at he;split at he
 ·rename_i e1;cases he;rw[e1]at h0;generalize hp:a.eval x=p at h0;cases h0;refine aK.pure (u:=.string .empty) ?_ (.str rfl) hh;simp only[execOp,ho,hp];refine eD ?_;simp[convert,run_underlying hs,run_underlying hd,run_underlying vh,Conv.bytesToString]
 ·rename_i b off n c e1;split at he
  ·rename_i cs hcs;split at he
   ·rename_i s' cX;cases he;rw[e1]at h0;obtain⟨ad,cap,hp,hn,_⟩:=h0.uD;rw[hp]at h0;have kJ:∃vs,aE φ cs vs/\(loadCells ad n).run P w=.ok vs.toArray w:=by
     rcases h0.Ay with⟨l,hl,rfl,_,_,_⟩|⟨h1,_,_⟩
     ·obtain⟨vs,hv,hlen,hcell,_⟩:=hh.load hl hcs;have:=run_loadCells_list (P:=P) w ⟨l.rb,l.base+off,none⟩ vs (fun j u hu=>by rw[rX];exact hcell j u hu);rw[hlen]at this;exact⟨vs,hv,this⟩
     ·subst h1;have:cs=[]:=by
       unfold eK at hcs;split at hcs
       ·split at hcs
        ·cases hcs;simp
        ·cases hcs
       ·cases hcs
      subst this;exact⟨[],.nil,by simp[loadCells,loadCellsFrom]⟩
    obtain⟨vs,hv,dK⟩:=kJ;obtain⟨ns,rfl,UM,hlt⟩:=JH cX hv;have hb:=run_bytesToString w ad n cap ns dK;refine aK.pure (u:=.string (ns.foldl (fun r n=>r.push (UInt8.ofNat n.toNat)) ByteArray.empty)) ?_ (.str ?_) hh
    ·simp only[execOp,ho,hp];refine eD ?_;simp only[convert,Sem.run_bind,run_underlying hs,run_underlying hd,run_underlying vh,Result.andThen_ok];exact hb
    ·subst UM;rw[S8 _ _ hlt];rfl
   ·cases he
  ·cases he
 ·cases he
theorem ahy {s d e:TypeId} {x:Operand} {y:X} (hs:P.underlying s=some .string) (hd:P.underlying d=some (.slice e)) (vh:P.underlying e=some (.int .u8)) (hc:aR x=some y) (ho:o.op=.convert s d x)
 (ht:aE φ ts a.tmps.toList) (hh:HR φ B H w) (he:evalOp (.Bk e y) ts H=some (v,H')):aK P φ B H w (execOp a.eval o) v H':=by
 have h0:=bF hc ht;simp only[evalOp]at he;split at he
 ·rename_i l e1;cases he;rw[e1]at h0;generalize hp:a.eval x=p at h0;cases h0 with
  |str cX=>
   rename_i s';have dY:l.length=s'.size:=by rw[cX,List.length_map,Array.length_toList];rfl
   have dK:=run_bytes_of_string (P:=P) w s d e s' hs hd vh;have tS:s'.size<=grownCap w s'.size 0 e:=grownCap_ge _ _ _ _;have bj:(bytesRow s' (grownCap w s'.size 0 e)).size=grownCap w s'.size 0 e:=by simp[bytesRow];omega
   have uh:∀(i:Nat) (u:Value),(s'.data.map fun b=>Value.int .u8 b.toNat).toList[i]? =some u->(bytesRow s' (grownCap w s'.size 0 e))[i]? =some u:=by
    intro i u h;have hlt:=(List.getElem?_eq_some_iff.1 h).1;simp only[Array.getElem?_toList]at h;unfold bytesRow;rw[Array.getElem?_append_left (by simpa using hlt)];exact h
   refine aK.mk (bh:=φ.ins H.next ⟨w.heap.size,0,grownCap w s'.size 0 e,.bool false⟩) (w':=w.drew.alloc (.cells (bytesRow s' (grownCap w s'.size 0 e)) e ((bytesRow s' (grownCap w s'.size 0 e)).size,(bytesRow s' (grownCap w s'.size 0 e)).size+1))) (Nat.le_succ _) (aI.si hh.fresh) (u:=.slice (some ⟨w.heap.size,0,none⟩) s'.size (grownCap w s'.size 0 e)) ?_ ?_ ?_ (((Below.refl _ _).drew).alloc (by simpa using hh.sz) _)
   ·simp only[execOp,ho,hp];exact eD dK
   ·rw[dY];exact .slice (l:=⟨w.heap.size,0,grownCap w s'.size 0 e,.bool false⟩) (aI.qi _ _ _) (fun k hk=>by cases hk) tS (by simp)
   ·refine hh.push (l:=⟨w.heap.size,0,grownCap w s'.size 0 e,.bool false⟩) rfl (by simp) (fun k hk=>Below.heap_alloc _ _ _ hk) (fun hn=>?_) (heap_alloc_new w.drew _);have hv:aE φ (byteCells l) (s'.data.map fun b=>Value.int .u8 b.toNat).toList:=by subst cX;exact RL s'
    refine .row hn bj (fun i x hx=>?_) ?_ (fun h=>by cases h) (fun _=>hh.sz) (fun _ i _ h2=>by rw[bj];rcases h2 with h2|h2<;>first|(cases h2;done)|(simp only at h2;omega))
    ·obtain⟨u,h1,h2⟩:=hv.get i x hx;exact⟨u,by simpa using uh i u h1,h2.mono (aI.sO hh.fresh)⟩
    ·have:=hv.length;simp at this ⊢;omega
 ·cases he
theorem WL {str:Bool} {t u e:TypeId} {ti:TI} {d s:Operand} {d' s':X} (ht:P.underlying t=some (.slice e)) (bu:fq P e ti) (qf:str=true->ti.size=1)
 (hd:aR d=some d') (hs:aR s=some s') (ho:o.op=.call {callee:=.builtin .copy,args:=#[d,s],argTypes:=#[t,u]}) (vt:aE φ ts a.tmps.toList) (hh:HR φ B H w)
 (he:evalOp (.yU str ti.size d' s') ts H=some (v,H')):aK P φ B H w (execOp a.eval o) v H':=by
 have h1:=bF hd vt;have h2:=bF hs vt;have iE:∀{p q:Value} {r:Value} {w':World},a.eval d=p->a.eval s=q->(Builtin.copy_ #[t,u] o.type #[p,q]).run P w=.ok r w'->(execOp a.eval o).run P w=.ok (.value r) w':=by
  intro p q r w' e1 e2 hr;simp[execOp,ho,resolve,invoke,builtin,e1,e2,hr]
 simp only[evalOp]at he;cases ew:lT H str ti.size (s'.ev ts)with
 |none=>rw[ew]at he;cases he
 |some pr=>
  obtain⟨n,xs⟩:=pr;rw[ew]at he;obtain⟨news,hS,CH,kf⟩:=Yl (P:=P) ew h2 hh qf;generalize hp:a.eval d=p at h1;dsimp only at he;split at he
  ·rename_i e1;cases he;rw[e1]at h1;cases h1;refine aK.pure (u:=goInt 0) (iE hp rfl ?_) (.int _ _) hh;have hl:=hS.len w;have hc:=hS.take 0 w (Nat.zero_le _) rfl;simp[Builtin.copy_,run_underlying ht,hl,bu.run_sizeOf,hc]
  ·rename_i b off n' c z' e1;split at he
   ·cases he
   ·rename_i xL;have Na:=Nat.eq_of_beq_eq_true xL;subst Na;rw[e1]at h1;obtain⟨ad,cap,rfl,hlc,tS⟩:=h1.uD;have hl:=hS.len w;split at he
    ·rename_i Ci;cases he;refine aK.pure (u:=goInt 0) (iE hp rfl ?_) (.int _ _) hh;have hc:=hS.take 0 w (Nat.zero_le _) rfl;simp[Builtin.copy_,run_underlying ht,hl,bu.run_sizeOf,Ci,hc,storeCells]
    ·rename_i k Ci;split at he
     ·rename_i H1 aD;cases he;have kc:k+1<=n:=by have h3:Nat.min n n'=k+1:=Ci;have h4:=Nat.min_le_left n n';simp only[Nat.min_def]at*;omega
      have an3:k+1<=n':=by have h3:Nat.min n n'=k+1:=Ci;have h4:=Nat.min_le_right n n';simp only[Nat.min_def]at*;omega
      rcases h1.Ay with⟨l,lg,rfl,hc,hn,ry⟩|⟨h0,Tj,_⟩
      ·obtain⟨g1,g2,g3,g4,g5⟩:=hh.store lg aD (CH.take ((k+1)*ti.size));have hc:=hS.take (k+1) w kc rfl;have dK:=run_storeCells_cells (P:=P) l.rb (l.base+off) (news.take ((k+1)*ti.size)) 0 w (by simpa using g1) (by simpa using g2) g3;simp only[Nat.add_zero]at dK;refine aK.mk (u:=goInt (k+1:Nat)) (Nat.le_of_eq (ym aD).symm) (aI.ext.refl φ _) (iE hp rfl ?_) (.int _ _) g4 g5;simp[Builtin.copy_,run_underlying ht,hl,bu.run_sizeOf,Ci,hc,dK]
      ·omega
     ·cases he
  ·cases he
end
end
section
open Go.RowKit (Below)
section
variable {P:Program} {φ:aI} {B:Nat} {H H':ag} {w:World} {ts:T} {a:Act} {o:Oper} {v:SV}
theorem SL:∀{L:List (Nat×Nat)} {xs:List SV} {b:Bool},jX L xs xs=some b->(∀p∈L,∃x,xs[p.1]? =some x)/\b=true
 |[],xs,b,h=>by simp[jX]at h;exact⟨by simp,by first|exact h|exact h.symm⟩
 |(i,k)::L,xs,b,h=>by
  simp only[jX]at h;split at h
  ·cases h
  ·rename_i x hx;dsimp only at h;split at h
   ·obtain⟨h1,h2⟩:=SL h;exact⟨fun p hp=>by
     rcases List.mem_cons.1 hp with rfl|hp
     ·exact⟨x,hx⟩
     ·exact h1 p hp,h2⟩
   ·rename_i he;exfalso;unfold oS at he;split at he
    ·simp at he
    ·simp at he
    ·simp only[Option.some.injEq]at he;rw[EI.2 rfl]at he;cases he
    ·cases he
   ·cases h
def yO (empty:Bool) (n:Nat) (cs:Array Value):List Field->Sem Unit
 |[]=>pure ()
 |f::fs=>do
  if f.name≠ "_" then
   let v<-part f.type cs f.offset
   Instr.checkKey empty n f.type v
   yO empty n cs fs
  else yO empty n cs fs
theorem aj4 {empty:Bool} {n:Nat} {t:TypeId} {fs:Array Field} {cs:Array Value} (hu:P.underlying t=some (.struct fs)):
 (Instr.checkKey empty (n+1) t (.agg cs)).run P w=(yO empty n cs fs.toList).run P w:=by
 simp only[Instr.checkKey,Sem.run_bind,run_underlying hu,Result.andThen_ok];rw[<-Array.forIn_toList];generalize fs.toList=l;clear hu
 induction l generalizing w with
 |nil=>simp[yO]
 |cons f fs ih=>
  simp only[List.forIn_cons,yO,Sem.run_bind,Sem.run_ite];split
  ·generalize (part f.type cs f.offset).run P w=r1;cases r1 with
   |ok a w1=>
    simp only[Result.andThen_ok];generalize (Instr.checkKey empty n f.type a).run P w1=r2;cases r2 with
    |ok u w2=>simp only[Result.andThen_ok,Sem.run_pure];exact ih
    |halt x w2=>simp[Result.andThen]
   |halt x w1=>simp[Result.andThen]
  ·simp only[Sem.run_pure,Result.andThen_ok];exact ih
theorem XC:∀(n:Nat) (t:TypeId) (L:List (Nat×Nat)),leaves P n t=some L->∀(d:Nat) (dd:TypeDesc) (empty:Bool),P.underlying t=some dd->
 ∀(xs:List SV) (vs:List Value) (x:Value),aE φ xs vs->Ex (qj dd) x vs->(∀p∈L,∃y,xs[p.1]? =some y)->
 (Instr.checkKey empty (d+n) t x).run P w=.ok () w
 |0,t,L,h=>by simp[leaves]at h
 |n+1,t,L,h=>by
  intro d dd empty hd xs vs x hx cx cZ;unfold leaves at h;rw[hd]at h;cases dd with
  |bool=>rw[show d+(n+1)=(d+n)+1 from rfl];simp[Instr.checkKey,run_underlying hd]
  |int q=>rw[show d+(n+1)=(d+n)+1 from rfl];simp[Instr.checkKey,run_underlying hd]
  |string=>rw[show d+(n+1)=(d+n)+1 from rfl];simp[Instr.checkKey,run_underlying hd]
  |struct fs=>
   dsimp only at h;split at h
   ·cases h
   ·split at h
    ·rename_i Ls lB;cases h;obtain⟨va,rfl,xH⟩:=cx;rw[show d+(n+1)=(d+n)+1 from rfl,aj4 hd];generalize fs.toList=fl at lB;clear hd
     induction fl generalizing Ls with
     |nil=>rfl
     |cons f fl ih=>
      simp only[cj]at lB;split at lB
      ·rename_i Lf kC;split at lB
       ·rename_i Lr La;cases lB;split at kC
        ·cases kC
        ·rename_i aP;have Mn:f.name≠ "_" :=by simpa using aP
         split at kC
         ·rename_i L0 mZ;split at kC
          ·rename_i j hj;split at kC
           ·rename_i gS;cases kC;obtain⟨df,xn⟩:∃df,P.underlying f.type=some df:=by
             cases hu:P.underlying f.type with
             |none=>cases n<;>simp[leaves,hu]at mZ
             |some df=>exact⟨df,rfl⟩
            have eX:=(hx.drop f.offset).take j.size;have MA:∀p∈L0,∃y,((xs.drop f.offset).take j.size)[p.1]? =some y:=by
             intro p hp;obtain⟨y,hy⟩:=cZ (f.offset+p.1,p.2) (by simp only[List.flatten_cons,List.mem_append];exact .inl (List.mem_map.2 ⟨p,hp,rfl⟩));have hlt:=List.all_eq_true.1 gS p hp;simp only[Nat.blt_eq]at hlt;exact⟨y,by rw[List.getElem?_take,if_pos hlt,List.getElem?_drop];exact hy⟩
            have F6:=ih Lr (fun p hp=>cZ p (by simp only[List.flatten_cons,List.mem_append];exact .inr hp)) La;have key:=fun(p:Value)=>XC n f.type L0 mZ d df empty xn ((xs.drop f.offset).take j.size) ((vs.drop f.offset).take j.size) p eX
            simp only[yO,if_pos Mn,Sem.run_bind,XI hj xn];cases eG:qj df with
            |true=>
             have hk:=key (.agg (va.extract f.offset (f.offset+j.size))) (by rw[eG];exact⟨_,rfl,by simp[<-xH,List.extract,Nat.add_sub_cancel_left]⟩) MA;simp only[Result.andThen_ok,hk,F6]
            |false=>
             have K8:∃k,L0=[(0,k)]:=by
              cases n with
              |zero=>simp[leaves]at mZ
              |succ n=>
               unfold leaves at mZ;rw[xn]at mZ;cases df<;>simp[qj]at eG mZ<;>exact⟨_,mZ.symm⟩
             obtain⟨k,rfl⟩:=K8;obtain⟨y,hy⟩:=MA (0,k) (List.mem_cons_self ..);obtain⟨p,hp,_⟩:=eX.get _ _ hy;have Cn:va[f.offset]? =some p:=by
              rw[<-xH]at hp;rw[List.getElem?_take]at hp;split at hp
              ·simpa using hp
              ·cases hp
             have hk:=key p (by rw[eG];exact hp) MA;simp only[Cn,Result.andThen_ok,hk,F6]
           ·cases kC
          ·cases kC
         ·cases kC
       ·cases lB
      ·cases lB
    ·cases h
  |_=>cases h
theorem XD {t:TypeId} {L:List (Nat×Nat)} {x:SV} {x':Value} {b empty:Bool} (hL:leaves P 6 t=some L) (hx:VR φ x x') (he:hY (kj P t) L x x=some b):
 (Instr.checkKey empty 10000 t x').run P w=.ok () w:=by
 rcases NA hL with⟨fs,hu⟩|⟨k,rfl,hk⟩
 ·have eG:kj P t=true:=by simp[kj,hu]
  rw[eG]at he;simp only[hY]at he;split at he
  ·cases hx with
   |agg hx=>exact XC 6 t L hL 9994 _ empty hu _ _ _ hx ⟨_,rfl,rfl⟩ (SL he).1
  ·cases he
 ·have:∀d,P.underlying t=some d->(∀m,d≠ .interface m)->(∀n e,d≠ .array n e)->(∀f,d≠ .struct f)->(Instr.checkKey empty (9999+1) t x').run P w=.ok () w:=by
   intro d hd h1 h2 h3;generalize 9999=n;simp only[Instr.checkKey,Sem.run_bind,run_underlying hd,Result.andThen_ok];cases d<;>first
    |exact absurd rfl (h1 _)
    |exact absurd rfl (h2 _ _)
    |exact absurd rfl (h3 _)
    |rfl
  rcases hk with⟨h,_⟩|⟨⟨q,h⟩,_⟩|⟨h,_⟩<;>exact this _ h (by simp) (by simp) (by simp)
def ER (φ:aI) (es:List (SV×SV×Nat)) (ek:List MapEntry):Prop:=
 es.length=ek.length/\∀(i:Nat) (k v:SV) (n:Nat),es[i]? =some (k,v,n)->∃e,ek[i]? =some e/\VR φ k e.key/\VR φ v e.val/\e.born=n
theorem ER.cons_inv {k v:SV} {n:Nat} {es:List (SV×SV×Nat)} {e:MapEntry} {ek:List MapEntry} (h:ER φ ((k,v,n)::es) (e::ek)):VR φ k e.key/\VR φ v e.val/\e.born=n/\ER φ es ek:=by
 obtain⟨h1,h2⟩:=h;obtain⟨e0,nh,q1,q2,q3⟩:=h2 0 k v n rfl;simp at nh;subst nh;exact⟨q1,q2,q3,by simpa using h1,fun i k v n hi=>by simpa using h2 (i+1) k v n (by simpa using hi)⟩
def FR (φ:aI):Option (Nat×SV)->Option (Nat×Value)->Prop
 |none,none=>True
 |some (i,x),some (j,y)=>i=j/\VR φ x y
 |_,_=>False
theorem XE {t:TypeId} {L:List (Nat×Nat)} {k:SV} {k':Value} (hL:leaves P 6 t=some L) (hk:VR φ k k'):∀{es:List (SV×SV×Nat)} {ek:List MapEntry} {i:Nat} {r:Option (Nat×SV)},ER φ es ek->
 mT (kj P t) L k es i=some r->∃r',(Instr.findAsking t k' ek i).run P w=.ok r' w/\FR φ r r'
 |[],[],i,r,_,h=>by simp[mT]at h;subst h;exact⟨none,rfl,trivial⟩
 |[],_::_,i,r,hE,h=>by have:=hE.1;simp at this
 |_::_,[],i,r,hE,h=>by have:=hE.1;simp at this
 |(k2,v2,n)::es,e::ek,i,r,hE,h=>by
  obtain⟨q1,q2,q3,q4⟩:=hE.cons_inv;simp only[mT]at h;split at h
  ·rename_i he;cases h;have:=Ov (P:=P) (w:=w) hL hk q1 he;exact⟨some (i,e.val),by simp[Instr.findAsking,this],rfl,q2⟩
  ·rename_i he;have:=Ov (P:=P) (w:=w) hL hk q1 he;obtain⟨r',h1,h2⟩:=XE hL hk q4 h;exact⟨r',by simp[Instr.findAsking,this,h1],h2⟩
  ·cases h
theorem SY {d:TypeDesc} {kd:Nat} {k:SV} {k':Value} (hd:(d=.bool/\kd=0)\/((∃q,d=.int q)/\kd=1)\/(d=.string/\kd=2)) (hk:VR φ k k'):∀{es:List (SV×SV×Nat)} {ek:List MapEntry} {i:Nat} {r:Option (Nat×SV)},ER φ es ek->
 mT false [(0,kd)] k es i=some r->∃r',Instr.findNow d k' ek i=some r'/\FR φ r r'
 |[],[],i,r,_,h=>by simp[mT]at h;subst h;exact⟨none,rfl,trivial⟩
 |[],_::_,i,r,hE,h=>by have:=hE.1;simp at this
 |_::_,[],i,r,hE,h=>by have:=hE.1;simp at this
 |(k2,v2,n)::es,e::ek,i,r,hE,h=>by
  obtain⟨q1,q2,q3,q4⟩:=hE.cons_inv;have key:∀b,oS kd k k2=some b->Instr.sameNow d k' e.key=some b:=by
   intro b hb;unfold oS at hb;generalize e.key=ql at q1;split at hb
   ·cases hb;cases hk;cases q1;rcases hd with⟨rfl,_⟩|⟨_,h⟩|⟨_,h⟩<;>first|rfl|cases h
   ·cases hk;cases q1;rcases hd with⟨_,h⟩|⟨⟨q,rfl⟩,_⟩|⟨_,h⟩
    ·cases h
    ·simpa[Instr.sameNow]using hb
    ·cases h
   ·cases hb;cases hk with
    |str h1=>cases q1 with
     |str h2=>
      rcases hd with⟨_,h⟩|⟨_,h⟩|⟨rfl,_⟩
      ·cases h
      ·cases h
      ·subst h1 h2;simp only[Instr.sameNow,EH,Option.some.injEq];rw[beq_toListBytes,ByteArray.toList_eq,ByteArray.toList_eq]
   ·cases hb
  simp only[mT,hY]at h;split at h
  ·rename_i he;cases h;exact⟨some (i,e.val),by simp[Instr.findNow,key _ he],rfl,q2⟩
  ·rename_i he;obtain⟨r',h1,h2⟩:=SY hd hk q4 h;exact⟨r',by simp[Instr.findNow,key _ he,h1],h2⟩
  ·cases h
theorem Ow {t:TypeId} {L:List (Nat×Nat)} {k:SV} {k':Value} {es:List (SV×SV×Nat)} {ek:List MapEntry} {r:Option (Nat×SV)} (hL:leaves P 6 t=some L) (hk:VR φ k k') (hE:ER φ es ek)
 (h:mT (kj P t) L k es 0=some r):∃r',(Instr.findKey t k' ek).run P w=.ok r' w/\FR φ r r':=by
 rcases NA hL with⟨fs,hu⟩|⟨kd,rfl,Uu⟩
 ·obtain⟨r',h1,h2⟩:=XE (P:=P) (w:=w) hL hk hE h;simp only[Instr.findKey,Sem.run_bind,run_underlying hu,Result.andThen_ok];cases ek with
  |nil=>
   have:es=[]:=List.eq_nil_of_length_eq_zero (by simpa using hE.1);subst this;simp[mT]at h;subst h;exact⟨none,rfl,trivial⟩
  |cons e ek=>
   refine⟨r',?_,h2⟩;simp only[Instr.findNow,Instr.sameNow];exact h1
 ·have eG:kj P t=false:=by
   rcases Uu with⟨h,_⟩|⟨⟨q,h⟩,_⟩|⟨h,_⟩<;>simp[kj,h]
  rw[eG]at h;obtain⟨d,hu,hd⟩:∃d,P.underlying t=some d/\((d=.bool/\kd=0)\/((∃q,d=.int q)/\kd=1)\/(d=.string/\kd=2)):=by
   rcases Uu with⟨h,e⟩|⟨⟨q,h⟩,e⟩|⟨h,e⟩
   ·exact⟨_,h,.inl ⟨rfl,e⟩⟩
   ·exact⟨_,h,.inr (.inl ⟨⟨q,rfl⟩,e⟩)⟩
   ·exact⟨_,h,.inr (.inr ⟨rfl,e⟩)⟩
  obtain⟨r',h1,h2⟩:=SY hd hk hE h;exact⟨r',by simp[Instr.findKey,run_underlying hu,h1],h2⟩
theorem ahP {t key elem:TypeId} {L:List (Nat×Nat)} {ti:TI} {ok:Bool} {m k:Operand} {m' k':X} (hu:P.underlying t=some (.map key elem)) (hL:leaves P 6 key=some L) (bu:fq P elem ti)
 (hm:aR m=some m') (hk:aR k=some k') (ho:o.op=.lookup t m k ok) (ht:aE φ ts a.tmps.toList) (hh:HR φ B H w)
 (he:evalOp (.rG (kj P key) L ti.zeroV ok m' k') ts H=some (v,H')):aK P φ B H w (execOp a.eval o) v H':=by
 have h1:=bF hm ht;have h2:=bF hk ht;obtain⟨z,hz,CO⟩:=bu.yh w;simp only[evalOp]at he;have Uf:∀es,y9 H (m'.ev ts)=some es->∃ek:Array MapEntry,ER φ es ek.toList/\
  ((a.eval m=.map none/\ek=#[])\/∃r ck,a.eval m=.map (some r)/\w.heap[r]? =some (.map ek ck)):=by
  intro es tX;generalize a.eval m=p at h1;unfold y9 at tX;split at tX
  ·rename_i e1;rw[e1]at h1;cases h1;cases tX;exact⟨#[],⟨rfl,by simp⟩,.inl ⟨rfl,rfl⟩⟩
  ·rename_i b e1;rw[e1]at h1;split at tX
   ·rename_i es0 ck hg;cases tX;cases h1 with
    |map hl=>
     rename_i l;have vn:=hh.obj b l hl;rw[hg]at vn;cases vn with
     |map hb hlen hc hB=>
      rename_i ek;exact⟨ek,⟨by simpa using hlen,fun i k v n hi=>by obtain⟨e,q1,q2⟩:=hc i k v n hi;exact⟨e,by simpa using q1,q2⟩⟩,.inr ⟨_,_,rfl,hb⟩⟩
   ·cases tX
  ·cases tX
 generalize y9 H (m'.ev ts)=oes at he Uf;cases oes with
 |none=>cases he
 |some es=>
  obtain⟨ek,hE,dK⟩:=Uf es rfl;cases Cw:hY (kj P key) L (k'.ev ts) (k'.ev ts)with
  |none=>rw[Cw]at he;cases he
  |some bb=>
   rw[Cw]at he;dsimp only at he;have eV:=fun em=>XD (P:=P) (w:=w) (empty:=em) hL h2 Cw
   cases hf:mT (kj P key) L (k'.ev ts) es 0 with
   |none=>rw[hf]at he;cases he
   |some r=>
    rw[hf]at he;obtain⟨r',fc,oc⟩:=Ow (P:=P) (w:=w) hL h2 hE hf;have Vc:∀u,(match r' with|some (_,v)=>(pure (v,true):Sem (Value×Bool))|none=>do pure (<-zeroValue elem,false)).run P w=.ok u w->
     (execOp a.eval o).run P w=.ok (.value (if ok then .tuple #[u.1,.bool u.2]else u.1)) w:=by
     intro u lj;simp only[execOp,ho];refine eD ?_;rcases dK with⟨e1,e2⟩|⟨rr,ck,e1,hb⟩
     ·rw[e1];subst e2;have zL:=fc;simp only[Instr.lookup,Sem.run_bind,run_underlying hu,Result.andThen_ok,Sem.run_pure,eV,zL];cases r' with
      |none=>
       simp only[Sem.run_bind,CO,Result.andThen_ok,Sem.run_pure,Result.ok.injEq,and_true]at lj;subst lj;simp[CO]
      |some pr=>
       simp only[Sem.run_pure,Result.ok.injEq,and_true]at lj;subst lj;simp
     ·rw[e1];have hg:(getObj rr).run P w=.ok (.map ek ck) w:=by simp[getObj,Sem.run,hb]
      simp only[Instr.lookup,Sem.run_bind,run_underlying hu,Result.andThen_ok,Sem.run_pure,hg,eV,fc];cases r' with
      |none=>
       simp only[Sem.run_bind,CO,Result.andThen_ok,Sem.run_pure,Result.ok.injEq,and_true]at lj;subst lj;simp[CO]
      |some pr=>
       simp only[Sem.run_pure,Result.ok.injEq,and_true]at lj;subst lj;simp
    cases r with
    |none=>
     cases r' with
     |some _=>exact oc.elim
     |none=>
      have:=Vc (z,false) (by simp[CO]);cases ok with
      |true=>
       simp only[if_true,Option.some.injEq,Prod.mk.injEq]at he;obtain⟨rfl,rfl⟩:=he;exact aK.pure this (.aJ (.cons (hz φ) (.cons (.bool _) .nil))) hh
      |false=>
       simp only[Bool.false_eq_true,if_false,Option.some.injEq,Prod.mk.injEq]at he;obtain⟨rfl,rfl⟩:=he;exact aK.pure this (hz φ) hh
    |some pr=>
     obtain⟨i,x⟩:=pr;cases r' with
     |none=>exact oc.elim
     |some N5=>
      obtain⟨j,y⟩:=N5;obtain⟨_,rD⟩:=oc;have:=Vc (y,true) (by simp);cases ok with
      |true=>
       simp only[if_true,Option.some.injEq,Prod.mk.injEq]at he;obtain⟨rfl,rfl⟩:=he;exact aK.pure this (.aJ (.cons rD (.cons (.bool _) .nil))) hh
      |false=>
       simp only[Bool.false_eq_true,if_false,Option.some.injEq,Prod.mk.injEq]at he;obtain⟨rfl,rfl⟩:=he;exact aK.pure this rD hh
theorem XQ {x y:SV} {x' y':Value} (h:Hr x y=true) (hx:VR φ x x') (hy:VR φ y y') (n:Nat):Instr.sameBits n x' y'=true:=by
 unfold Hr at h;split at h
 ·cases hx;cases hy;simpa[Instr.sameBits]using h
 ·cases hx;cases hy;simpa[Instr.sameBits]using h
 ·cases hx with
  |str h1=>cases hy with
   |str h2=>
    subst h1 h2;rw[EH]at h;simp only[Instr.sameBits,beq_toListBytes,ByteArray.toList_eq];exact h
 ·cases h
theorem XP:∀{xs ys:List SV} {us vs:List Value},As xs ys=true->aE φ xs us->aE φ ys vs->∀n,us.length=vs.length/\(us.zip vs).all (fun p=>Instr.sameBits n p.1 p.2)=true
 |[],[],_,_,_,.nil,.nil,n=>by simp
 |x::xs,y::ys,_,_,h,.cons h1 t1,.cons h2 t2,n=>by
  simp only[As,Bool.and_eq_true]at h;obtain⟨q1,q2⟩:=XP h.2 t1 t2 n;exact⟨by simp[q1],by simp[List.zip_cons_cons,XQ h.1 h1 h2 n,q2]⟩
 |[],_::_,_,_,h,_,_,_=>by simp[As]at h
 |_::_,[],_,_,h,_,_,_=>by simp[As]at h
theorem akd {x y:SV} {x' y':Value} (h:Hq x y=true) (hx:VR φ x x') (hy:VR φ y y') (n:Nat):Instr.sameBits (n+1) x' y'=true:=by
 unfold Hq at h;split at h
 ·cases hx with
  |agg h1=>cases hy with
   |agg h2=>
    obtain⟨q1,q2⟩:=XP h h1 h2 n;simp only[Array.length_toList]at q1;simp only[Instr.sameBits,q1,beq_self_eq_true,Bool.true_and];exact q2
 ·exact XQ h hx hy _
theorem Wh {k v:SV}:∀{es:List (SV×SV×Nat)} {i j:Nat},(oA k v i es)[j]? =if j=i then es[j]?.map (fun e=>(k,v,e.2.2))else es[j]?
 |[],i,j=>by simp[oA]
 |e::es,0,0=>by obtain⟨a,b,c⟩:=e;simp[oA]
 |e::es,0,j+1=>by obtain⟨a,b,c⟩:=e;simp[oA]
 |e::es,i+1,0=>by simp[oA]
 |e::es,i+1,j+1=>by simp[oA,Wh (es:=es) (i:=i) (j:=j)]
theorem Wi {k v:SV}:∀{es:List (SV×SV×Nat)} {i:Nat},(oA k v i es).length=es.length
 |[],i=>by simp[oA]
 |e::es,0=>by obtain⟨a,b,c⟩:=e;simp[oA]
 |e::es,i+1=>by simp[oA,Wi (es:=es) (i:=i)]
theorem XL {r:Nat} {ob nb:Obj} (h:w.heap[r]? =some ob) (aP:∀c e f,ob≠ .cells c e f):(setObj r nb).run P w=.ok () {w with heap:=w.heap.setIfInBounds r nb}:=by
 cases ob<;>first|exact absurd rfl (aP _ _ _)|simp only[setObj,Sem.run,h]
theorem ahV {t key elem:TypeId} {L:List (Nat×Nat)} {m k x:Operand} {m' k' x':X} (hu:P.underlying t=some (.map key elem)) (hL:leaves P 6 key=some L)
 (hm:aR m=some m') (hk:aR k=some k') (hx:aR x=some x') (ho:o.op=.mapUpdate t m k x) (ht:aE φ ts a.tmps.toList) (hh:HR φ B H w)
 (he:evalOp (.sP (kj P key) L m' k' x') ts H=some (v,H')):aK P φ B H w (execOp a.eval o) v H':=by
 have h1:=bF hm ht;have h2:=bF hk ht;have h3:=bF hx ht;simp only[evalOp]at he;split at he
 ·rename_i b e1;rw[e1]at h1;generalize hp:a.eval m=p at h1;cases h1 with
  |map hl=>
   rename_i l;have vn:=hh.obj b l hl;split at he
   ·rename_i es ck bb hg Cw;have np:live (H.get b):=by rw[hg];trivial
    rw[hg]at vn;cases vn with
    |map hb hlen hc hB=>
     rename_i ek;have hE:ER φ es ek.toList:=⟨by simpa using hlen,fun i k v n hi=>by obtain⟨e,q1,q2⟩:=hc i k v n hi;exact⟨e,by simpa using q1,q2⟩⟩;have eV:=XD (P:=P) (w:=w) (empty:=false) hL h2 Cw;have B7:(getObj l.rb).run P w=.ok (.map ek ck) w:=by simp[getObj,Sem.run,hb]
     have mE:∀nb,(setObj l.rb nb).run P w=.ok () {w with heap:=w.heap.setIfInBounds l.rb nb}:=fun nb=>XL hb (by simp)
     have aef:=(hh.dD b l hl).2;have change:∀(Ky:List (SV×SV×Nat)) (EM:Array MapEntry) (Ey:Nat),ER φ Ky EM.toList->
      HR φ B (H.put b (.map Ky Ey)) {w with heap:=w.heap.setIfInBounds l.rb (.map EM Ey)}/\Below B w {w with heap:=w.heap.setIfInBounds l.rb (.map EM Ey)}:=by
      intro Ky EM Ey aF;refine⟨hh.change hl np (by simp) (fun k hk=>by show(w.heap.setIfInBounds l.rb _)[k]? =_;exact Array.getElem?_setIfInBounds_ne (Ne.symm hk)) ?_,⟨rfl,rfl,rfl,by simp,fun k hk=>by show(w.heap.setIfInBounds l.rb _)[k]? =_;exact Array.getElem?_setIfInBounds_ne (show l.rb≠k by omega)⟩⟩;exact .map (by show(w.heap.setIfInBounds l.rb _)[l.rb]? =_;rw[Array.getElem?_setIfInBounds,if_pos rfl,if_pos aef]) (by simpa using aF.1) (fun i k v n hi=>by obtain⟨e,q1,q2⟩:=aF.2 i k v n hi;exact⟨e,by simpa using q1,q2⟩) hB
     split at he
     ·cases he
     ·rename_i i vv hf;split at he
      ·rename_i k0 v0 n0 FF;split at he
       ·rename_i Cv;cases he;obtain⟨r',fc,oc⟩:=Ow (P:=P) (w:=w) hL h2 hE hf;cases r' with
        |none=>exact oc.elim
        |some N5=>
         obtain⟨j,y⟩:=N5;obtain⟨qZ,_⟩:=oc;subst qZ;obtain⟨e0,nh,re,_,kL⟩:=hE.2 i k0 v0 n0 FF;simp only[Array.getElem?_toList]at nh;have hkt:(Instr.keyThatStays e0.key (a.eval k)).run P w=.ok (a.eval k) w:=by
          have:=akd (φ:=φ) Cv re h2 9999;simp only[Instr.keyThatStays];rw[if_pos this];rfl
         have aF:ER φ (oA (k'.ev ts) (x'.ev ts) i es) (ek.modify i fun e=>{e with key:=a.eval k,val:=a.eval x}).toList:=by
          refine⟨by rw[Wi];simpa using hlen,fun q k v n hq=>?_⟩;rw[Wh]at hq;simp only[Array.getElem?_toList,Array.getElem?_modify];split at hq
          ·rename_i ME;subst ME;rw[FF]at hq;simp only[Option.map_some,Option.some.injEq,Prod.mk.injEq]at hq;obtain⟨rfl,rfl,rfl⟩:=hq;exact⟨{e0 with key:=a.eval k,val:=a.eval x},by rw[if_pos rfl,nh];rfl,h2,h3,kL⟩
          ·rename_i ME;obtain⟨e,q1,q2⟩:=hE.2 q k v n hq;simp only[Array.getElem?_toList]at q1;exact⟨e,by rw[if_neg (fun h=>ME h.symm)];exact q1,q2⟩
         obtain⟨g1,g2⟩:=change _ _ ck aF;refine aK.skip (Nat.le_refl _) ?_ g1 g2;simp only[execOp,ho,hp];refine Oz ?_;simp only[Instr.mapUpdate,Sem.run_bind,run_underlying hu,Result.andThen_ok,B7,eV,fc,nh,Option.map_some,Option.getD_some,hkt,mE]
       ·cases he
      ·cases he
     ·rename_i hf;cases he;obtain⟨r',fc,oc⟩:=Ow (P:=P) (w:=w) hL h2 hE hf;cases r' with
      |some _=>exact oc.elim
      |none=>
       have aF:ER φ (es++[(k'.ev ts,x'.ev ts,ck)]) (ek.push {key:=a.eval k,val:=a.eval x,born:=ck}).toList:=by
        refine⟨by simp[hlen],fun q k v n hq=>?_⟩;rw[List.getElem?_append]at hq;simp only[Array.toList_push];split at hq
        ·rename_i hlt;obtain⟨e,q1,q2⟩:=hE.2 q k v n hq;exact⟨e,by rw[List.getElem?_append_left (by simp;omega)];exact q1,q2⟩
        ·rename_i hlt;have xD:q-es.length=0:=by
          have:=(List.getElem?_eq_some_iff.1 hq).1;simp at this;omega
         rw[xD]at hq;simp only[List.getElem?_cons_zero,Option.some.injEq,Prod.mk.injEq]at hq;obtain⟨rfl,rfl,rfl⟩:=hq;refine⟨{key:=a.eval k,val:=a.eval x,born:=ck},?_,h2,h3,rfl⟩;rw[List.getElem?_append_right (by simp;omega)];have:q-ek.toList.length=0:=by simp;omega
         rw[this];rfl
       obtain⟨g1,g2⟩:=change _ _ (ck+1) aF;refine aK.skip (Nat.le_refl _) ?_ g1 g2;simp only[execOp,ho,hp];refine Oz ?_;simp only[Instr.mapUpdate,Sem.run_bind,run_underlying hu,Result.andThen_ok,B7,eV,fc,mE]
   ·cases he
 ·cases he
end
end
section
open Go.RowKit (Below)
theorem qJ (n:String) (e:Array Value->Sem Value) (h1:((Extern.allNextRows.lookup n).isNone&&(Extern.allGenericRows.lookup n).isNone&&(Extern.allTypedRows.lookup n).isNone)=true) (h2:Extern.allRows.lookup n=some e)
 (h3:(Extern.allNextRows.lookup "").isNone=true) (fn:Func) (hn:fn.name=n) (ho:fn.origin= ""):Extern.findNext fn=none/\Extern.find fn=some e:=by
 simp only[Bool.and_eq_true,Option.isNone_iff_eq_none]at h1 h3;obtain⟨⟨a,b⟩,c⟩:=h1;refine⟨?_,?_⟩
 ·simp[Extern.findNext,hn,ho,a,h3]
 ·simp[Extern.find,hn,b,c,h2]
theorem rJ:(Extern.allNextRows.lookup "").isNone=true:=by kernel_rfl
theorem ajN (fn:Func) (hn:fn.name= "internal/abi.NoEscape") (ho:fn.origin= ""):Extern.findNext fn=none/\Extern.find fn=some Extern.AbiNoEscape.same:=
 qJ _ _ (by kernel_rfl) (by kernel_rfl) rJ fn hn ho
theorem ajK (fn:Func) (hn:fn.name= "internal/bytealg.IndexByteString") (ho:fn.origin= ""):Extern.findNext fn=none/\Extern.find fn=some Extern.BytealgIndexByte.indexByte:=
 qJ _ _ (by kernel_rfl) (by kernel_rfl) rJ fn hn ho
theorem ajH (fn:Func) (hn:fn.name= "internal/bytealg.CountString") (ho:fn.origin= ""):Extern.findNext fn=none/\Extern.find fn=some Extern.BytealgCount.count:=
 qJ _ _ (by kernel_rfl) (by kernel_rfl) rJ fn hn ho
theorem ajE (fn:Func) (hn:fn.name= "internal/race.Acquire") (ho:fn.origin= ""):Extern.findNext fn=none/\Extern.find fn=some (Extern.Race.marked .acquire):=
 qJ _ _ (by kernel_rfl) (by kernel_rfl) rJ fn hn ho
theorem ajM (fn:Func) (hn:fn.name= "internal/race.ReleaseMerge") (ho:fn.origin= ""):Extern.findNext fn=none/\Extern.find fn=some (Extern.Race.marked .releaseMerge):=
 qJ _ _ (by kernel_rfl) (by kernel_rfl) rJ fn hn ho
theorem ajI (fn:Func) (hn:fn.name= "internal/race.Disable") (ho:fn.origin= ""):Extern.findNext fn=none/\Extern.find fn=some (fun _=>do mark .disable;pure Extern.Race.none_):=
 qJ _ _ (by kernel_rfl) (by kernel_rfl) rJ fn hn ho
theorem ajJ (fn:Func) (hn:fn.name= "internal/race.Enable") (ho:fn.origin= ""):Extern.findNext fn=none/\Extern.find fn=some (fun _=>do mark .enable;pure Extern.Race.none_):=
 qJ _ _ (by kernel_rfl) (by kernel_rfl) rJ fn hn ho
theorem ajL (fn:Func) (hn:fn.name= "sync/atomic.LoadUint32") (ho:fn.origin= ""):Extern.findNext fn=none/\Extern.find fn=some (Extern.Atomic.loadT (.int .u32)):=
 qJ _ _ (by kernel_rfl) (by kernel_rfl) rJ fn hn ho
theorem ajO (fn:Func) (hn:fn.name= "sync/atomic.StoreUint32") (ho:fn.origin= ""):Extern.findNext fn=none/\Extern.find fn=some Extern.Atomic.storeT:=
 qJ _ _ (by kernel_rfl) (by kernel_rfl) rJ fn hn ho
theorem ajG (fn:Func) (hn:fn.name= "sync/atomic.CompareAndSwapInt32") (ho:fn.origin= ""):Extern.findNext fn=none/\Extern.find fn=some (Extern.Atomic.casT (.int .i32)):=
 qJ _ _ (by kernel_rfl) (by kernel_rfl) rJ fn hn ho
theorem ajF (fn:Func) (hn:fn.name= "sync/atomic.AddInt32") (ho:fn.origin= ""):Extern.findNext fn=none/\Extern.find fn=some (Extern.Atomic.update (Op.intArith .add) .i32 true):=
 qJ _ _ (by kernel_rfl) (by kernel_rfl) rJ fn hn ho
section
variable {P:Program} {φ:aI} {B:Nat} {H H':ag} {w w':World} {ts:T} {a:Act} {o:Oper} {v:SV}
theorem aj6 {f:FuncId} {fn:Func} {e:Array Value->Sem Value} {args:Array Value} {u:Value} (hf:P.funcs[f]? =some fn) (hb:fn.body.isNone=true) (hn:(fn.name== "runtime.NumGoroutine")=false)
 (h:Extern.findNext fn=none/\Extern.find fn=some e) (he:(e args).run P w=.ok u w'):(callFunc f args).run P w=.ok (.value u) w':=by
 unfold callFunc;simp only[Sem.run_bind,run_program,Result.andThen_ok,hf];rw[hn,hb];simp only[Bool.false_eq_true,if_false,if_true,h.1,h.2];simp[mark,Sem.run,Sem.run_bind,he]
theorem yg {f:FuncId} {fn:Func} {e:Array Value->Sem Value} {c:Call} {u:Value} (ho:o.op=.call c) (db:c.callee=.value (.func f)) (hf:P.funcs[f]? =some fn) (hb:fn.body.isNone=true) (hn:(fn.name== "runtime.NumGoroutine")=false)
 (h:Extern.findNext fn=none/\Extern.find fn=some e) (he:(e (c.args.map a.eval)).run P w=.ok u w'):(execOp a.eval o).run P w=.ok (.value u) w':=by
 simp only[execOp,ho,resolve,db,Act.eval,Deferred.ofValue,invoke,Sem.run_bind,Sem.run_pure,Result.andThen_ok];have:=aj6 (args:=c.args.map a.eval) hf hb hn h he;simpa using this
theorem Rv {x c:UInt8}:Nat.beq x.toNat c.toNat=(x==c):=by
 by_cases h:x=c
 ·subst h;simp
 ·have h':Nat.beq x.toNat c.toNat=false:=by
   cases hb:Nat.beq x.toNat c.toNat with
   |false=>rfl
   |true=>exact absurd (UInt8.toNat_inj.1 (Nat.eq_of_beq_eq_true hb)) h
  have h'':(x==c)=false:=by simpa using h
  rw[h',h'']
theorem VO (c:UInt8):∀(l:List UInt8) (i:Nat),pk (l.map UInt8.toNat) c.toNat i=if Lib.indexByte l c== -1 then -1 else(i:Int)+Lib.indexByte l c
 |[],i=>rfl
 |x::xs,i=>by
  simp only[List.map_cons,pk,Rv,Lib.indexByte];by_cases jU:x=c
  ·subst jU;simp
  ·have afE:(x==c)=false:=by simpa using jU
   simp only[afE,Bool.false_eq_true,if_false];rw[VO c xs (i+1)];have o7:=Lib.indexByte_ge xs c;by_cases hm:Lib.indexByte xs c= -1
   ·simp[hm]
   ·have h1:(Lib.indexByte xs c== -1)=false:=by simpa using hm
    have h2:(Lib.indexByte xs c+1== -1)=false:=by
     simp only[beq_eq_false_iff_ne,ne_eq];omega
    simp only[h1,h2,Bool.false_eq_true,if_false];omega
theorem afS (c:UInt8) (l:List UInt8):pk (l.map UInt8.toNat) c.toNat 0=Lib.indexByte l c:=by
 rw[VO];split
 ·rename_i h;simp at h;exact h.symm
 ·omega
theorem R9 (c:UInt8):∀(l:List UInt8),kW (l.map UInt8.toNat) c.toNat=Lib.countByte l c
 |[]=>rfl
 |x::xs=>by
  simp only[List.map_cons,kW,Rv,Lib.countByte,List.count_cons,R9 c xs];cases h:(x==c)<;>simp
theorem RM (n:Int):n.toNat%256=n.toNat.toUInt8.toNat:=by simp
theorem aic {f:FuncId} {fn:Func} {c:Call} {x y:Operand} {x' y':X} (hx:aR x=some x') (hy:aR y=some y') (ho:o.op=.call c) (db:c.callee=.value (.func f)) (eH:c.args=#[x,y]) (hf:P.funcs[f]? =some fn) (hb:fn.body.isNone=true)
 (hn:fn.name= "internal/bytealg.IndexByteString") (iT:fn.origin= "") (ht:aE φ ts a.tmps.toList) (hh:HR φ B H w) (he:evalOp (.AY x' y') ts H=some (v,H')):aK P φ B H w (execOp a.eval o) v H':=by
 have h1:=bF hx ht;have h2:=bF hy ht;simp only[evalOp]at he;split at he
 ·rename_i l n e1 e2;cases he;rw[e1]at h1;rw[e2]at h2;generalize hp:a.eval x=p at h1;generalize hq:a.eval y=q at h2;cases h1 with
  |str hl=>
   cases h2;rename_i s;refine aK.pure (yg ho db hf hb (by rw[hn];rfl) (ajK fn hn iT) (by
    have hm:c.args.map a.eval=#[.string s,.int .u8 n]:=by rw[eH];simp[hp,hq]
    rw[hm];exact Lib.run_indexByteString s n w)) ?_ hh
   rw[hl,RM,afS];exact .int _ _
 ·cases he
theorem aib {f:FuncId} {fn:Func} {c:Call} {x y:Operand} {x' y':X} (hx:aR x=some x') (hy:aR y=some y') (ho:o.op=.call c) (db:c.callee=.value (.func f)) (eH:c.args=#[x,y]) (hf:P.funcs[f]? =some fn) (hb:fn.body.isNone=true)
 (hn:fn.name= "internal/bytealg.CountString") (iT:fn.origin= "") (ht:aE φ ts a.tmps.toList) (hh:HR φ B H w) (he:evalOp (.AX x' y') ts H=some (v,H')):aK P φ B H w (execOp a.eval o) v H':=by
 have h1:=bF hx ht;have h2:=bF hy ht;simp only[evalOp]at he;split at he
 ·rename_i l n e1 e2;cases he;rw[e1]at h1;rw[e2]at h2;generalize hp:a.eval x=p at h1;generalize hq:a.eval y=q at h2;cases h1 with
  |str hl=>
   cases h2;rename_i s;refine aK.pure (yg ho db hf hb (by rw[hn];rfl) (ajH fn hn iT) (by
    have hm:c.args.map a.eval=#[.string s,.int .u8 n]:=by rw[eH];simp[hp,hq]
    rw[hm];exact Lib.run_countString s n w)) ?_ hh
   rw[hl,RM,R9];exact .int _ _
 ·cases he
theorem ah0 {f:FuncId} {fn:Func} {c:Call} {x:Operand} {x':X} (hx:aR x=some x') (ho:o.op=.call c) (db:c.callee=.value (.func f)) (eH:c.args=#[x]) (hf:P.funcs[f]? =some fn) (hb:fn.body.isNone=true)
 (hn:fn.name= "internal/abi.NoEscape") (iT:fn.origin= "") (ht:aE φ ts a.tmps.toList) (hh:HR φ B H w) (he:evalOp (.mv x') ts H=some (v,H')):aK P φ B H w (execOp a.eval o) v H':=by
 have h1:=bF hx ht;simp only[evalOp,Option.some.injEq,Prod.mk.injEq]at he;obtain⟨rfl,rfl⟩:=he;refine aK.pure (yg ho db hf hb (by rw[hn];rfl) (ajN fn hn iT) (u:=a.eval x) ?_) h1 hh;have hm:c.args.map a.eval=#[a.eval x]:=by rw[eH];simp
 rw[hm];rfl
theorem XG {m:Addr->Mark} {ad:Addr}:(Extern.Race.marked m #[.pointer (some ad)]).run P w=.ok Go.undef w:=by
 simp[Extern.Race.marked,Extern.Race.at_,Extern.Race.none_,mark,Sem.run,Sem.run_bind,Go.undef]
theorem aif {f:FuncId} {fn:Func} {c:Call} {x:Operand} {x':X} (hx:aR x=some x') (ho:o.op=.call c) (db:c.callee=.value (.func f)) (eH:c.args=#[x]) (hf:P.funcs[f]? =some fn) (hb:fn.body.isNone=true)
 (hn:fn.name= "internal/race.Acquire" \/fn.name= "internal/race.ReleaseMerge") (iT:fn.origin= "") (ht:aE φ ts a.tmps.toList) (hh:HR φ B H w) (he:evalOp (.yD (some x')) ts H=some (v,H')):aK P φ B H w (execOp a.eval o) v H':=by
 have h1:=bF hx ht;simp only[evalOp]at he;split at he
 ·rename_i b off e1;cases he;rw[e1]at h1;generalize hp:a.eval x=p at h1;cases h1 with
  |ptr hl=>
   have hm:c.args.map a.eval=#[a.eval x]:=by rw[eH];simp
   rw[hp]at hm;rcases hn with hn|hn
   ·exact aK.pure (yg ho db hf hb (by rw[hn];rfl) (ajE fn hn iT) (u:=Go.undef) (by rw[hm];exact XG)) (VR.undef φ) hh
   ·exact aK.pure (yg ho db hf hb (by rw[hn];rfl) (ajM fn hn iT) (u:=Go.undef) (by rw[hm];exact XG)) (VR.undef φ) hh
 ·cases he
theorem aie {f:FuncId} {fn:Func} {c:Call} (ho:o.op=.call c) (db:c.callee=.value (.func f)) (hf:P.funcs[f]? =some fn) (hb:fn.body.isNone=true)
 (hn:fn.name= "internal/race.Disable" \/fn.name= "internal/race.Enable") (iT:fn.origin= "") (hh:HR φ B H w) (he:evalOp (.yD none) ts H=some (v,H')):aK P φ B H w (execOp a.eval o) v H':=by
 simp only[evalOp,Option.some.injEq,Prod.mk.injEq]at he;obtain⟨rfl,rfl⟩:=he;rcases hn with hn|hn
 ·exact aK.pure (yg ho db hf hb (by rw[hn];rfl) (ajI fn hn iT) (u:=Go.undef) (by simp[mark,Sem.run,Sem.run_bind,Extern.Race.none_,Go.undef])) (VR.undef φ) hh
 ·exact aK.pure (yg ho db hf hb (by rw[hn];rfl) (ajJ fn hn iT) (u:=Go.undef) (by simp[mark,Sem.run,Sem.run_bind,Extern.Race.none_,Go.undef])) (VR.undef φ) hh
theorem Hj {f:FuncId} {c:Call} {u:Value} (ho:o.op=.call c) (db:c.callee=.value (.func f)) (he:(callFunc f (c.args.map a.eval)).run P w=.ok (.value u) w'):(execOp a.eval o).run P w=.ok (.value u) w':=by
 simp only[execOp,ho,resolve,db,Act.eval,Deferred.ofValue,invoke,Sem.run_bind,Sem.run_pure,Result.andThen_ok];simpa using he
theorem HR.cell (hh:HR φ B H w) {b off:Nat} {l:Loc} {x y:SV} {u:Value} (hl:φ b=some l) (h1:eK H b off 1=some [x]) (h2:gN H b off [y]=some H') (hy:VR φ y u):
 ∃v,w.cell? ⟨l.rb,l.base+off,none⟩=some v/\VR φ x v/\w.frozen? ⟨l.rb,l.base+off,none⟩=false/\HR φ B H' (w.setCell ⟨l.rb,l.base+off,none⟩ u)/\Below B w (w.setCell ⟨l.rb,l.base+off,none⟩ u):=by
 obtain⟨vs,hv,hlen,hcell,_⟩:=hh.load hl h1;cases hv with
 |cons hv0 CC=>
  rename_i v us;have hu:=hcell 0 _ rfl;simp only[Nat.add_zero]at hu;obtain⟨g1,g2,g3,g4,g5⟩:=hh.store hl h2 (.cons hy .nil);have hf:=g2 0 (by simp);simp only[Nat.add_zero]at hf;exact⟨v,hu,hv0,hf,g4,g5⟩
section
variable {f:FuncId} {fn:Func} {c:Call} {x y z:Operand} {x' y' z':X} {k:IntKind}
theorem aid (hx:aR x=some x') (ho:o.op=.call c) (db:c.callee=.value (.func f)) (eH:c.args=#[x]) (hf:P.funcs[f]? =some fn) (hb:fn.body.isNone=true)
 (hn:(fn.name== "runtime.NumGoroutine")=false) (bj:Extern.findNext fn=none/\Extern.find fn=some (Extern.Atomic.loadT (.int k))) (ht:aE φ ts a.tmps.toList) (hh:HR φ B H w) (he:evalOp (.D3 k x') ts H=some (v,H')):aK P φ B H w (execOp a.eval o) v H':=by
 have h1:=bF hx ht;simp only[evalOp]at he;split at he
 ·rename_i b off e1;split at he
  ·rename_i k' n hl;split at he
   ·rename_i hk;subst hk;cases he;rw[e1]at h1;generalize hp:a.eval x=p at h1;cases h1 with
    |ptr xy=>
     rename_i l;obtain⟨vs,hv,hlen,hcell,_⟩:=hh.load xy hl;cases hv with
     |cons hv0 CC=>
      rename_i u us;cases hv0;have hu:=hcell 0 _ rfl;simp only[Nat.add_zero]at hu;have hm:c.args.map a.eval=#[.pointer (some ⟨l.rb,l.base+off,none⟩)]:=by rw[eH];simp[hp]
      refine aK.pure (Hj ho db (u:=.int k n) ?_) (.int _ _) hh;rw[hm];exact run_call_load hf hn hb bj.1 k bj.2 hu
   ·cases he
  ·cases he
 ·cases he
theorem aih (hx:aR x=some x') (hy:aR y=some y') (ho:o.op=.call c) (db:c.callee=.value (.func f)) (eH:c.args=#[x,y]) (hf:P.funcs[f]? =some fn) (hb:fn.body.isNone=true)
 (hn:(fn.name== "runtime.NumGoroutine")=false) (bj:Extern.findNext fn=none/\Extern.find fn=some Extern.Atomic.storeT) (ht:aE φ ts a.tmps.toList) (hh:HR φ B H w) (he:evalOp (.D4 x' y') ts H=some (v,H')):aK P φ B H w (execOp a.eval o) v H':=by
 have h1:=bF hx ht;have h2:=bF hy ht;simp only[evalOp]at he;split at he
 ·rename_i b off k n e1 e2;split at he
  ·rename_i x0 hl;split at he
   ·rename_i H1 aD;cases he;rw[e1]at h1;rw[e2]at h2;generalize hp:a.eval x=p at h1;generalize hq:a.eval y=q at h2;cases h2;cases h1 with
    |ptr xy=>
     rename_i l;obtain⟨u,g1,g2,g3,g4,g5⟩:=hh.cell xy hl aD (.int k n);have hm:c.args.map a.eval=#[.pointer (some ⟨l.rb,l.base+off,none⟩),.int k n]:=by rw[eH];simp[hp,hq]
     refine aK.mk (Nat.le_of_eq (ym aD).symm) (aI.ext.refl φ _) (Hj ho db (u:=.tuple #[]) ?_) (VR.undef φ) g4 g5
     rw[hm];exact run_call_store hf hn hb bj.1 bj.2 g1 g3
   ·cases he
  ·cases he
 ·cases he
theorem aia (hx:aR x=some x') (hy:aR y=some y') (hz:aR z=some z') (ho:o.op=.call c) (db:c.callee=.value (.func f)) (eH:c.args=#[x,y,z]) (hf:P.funcs[f]? =some fn) (hb:fn.body.isNone=true)
 (hn:(fn.name== "runtime.NumGoroutine")=false) (bj:Extern.findNext fn=none/\Extern.find fn=some (Extern.Atomic.casT (.int k))) (ht:aE φ ts a.tmps.toList) (hh:HR φ B H w) (he:evalOp (.D0 k x' y' z') ts H=some (v,H')):aK P φ B H w (execOp a.eval o) v H':=by
 have h1:=bF hx ht;have h2:=bF hy ht;have h3:=bF hz ht;simp only[evalOp]at he;split at he
 ·rename_i b off kx m ky n e1 e2 e3;split at he
  ·rename_i k' n' hl;split at he
   ·rename_i hk;obtain⟨rfl,rfl,rfl,rfl⟩:=hk;split at he
    ·rename_i H1 aD;cases he;rw[e1]at h1;rw[e2]at h2;rw[e3]at h3;generalize hp:a.eval x=p at h1;generalize hq:a.eval y=q at h2;generalize hs:a.eval z=s at h3;cases h2;cases h3;cases h1 with
     |ptr xy=>
      rename_i l;obtain⟨u,g1,g2,g3,g4,g5⟩:=hh.cell xy hl aD (.int _ n);cases g2;have hm:c.args.map a.eval=#[.pointer (some ⟨l.rb,l.base+off,none⟩),.int ky n',.int ky n]:=by rw[eH];simp[hp,hq,hs]
      refine aK.mk (Nat.le_of_eq (ym aD).symm) (aI.ext.refl φ _) (Hj ho db (u:=.bool true) ?_) (.bool true) g4 g5;rw[hm];exact run_call_cas_hit hf hn hb bj.1 _ bj.2 g1 g3
    ·cases he
   ·cases he
  ·cases he
 ·cases he
theorem ah9 (hx:aR x=some x') (hy:aR y=some y') (ho:o.op=.call c) (db:c.callee=.value (.func f)) (eH:c.args=#[x,y]) (hf:P.funcs[f]? =some fn) (hb:fn.body.isNone=true)
 (hn:(fn.name== "runtime.NumGoroutine")=false) (bj:Extern.findNext fn=none/\Extern.find fn=some (Extern.Atomic.update (Op.intArith .add) k true)) (ht:aE φ ts a.tmps.toList) (hh:HR φ B H w) (he:evalOp (.DZ k x' y') ts H=some (v,H')):aK P φ B H w (execOp a.eval o) v H':=by
 have h1:=bF hx ht;have h2:=bF hy ht;simp only[evalOp]at he;split at he
 ·rename_i b off kx n e1 e2;split at he
  ·rename_i k' n' hl;split at he
   ·rename_i hk;obtain⟨rfl,rfl⟩:=hk;split at he
    ·rename_i H1 aD;cases he;rw[e1]at h1;rw[e2]at h2;generalize hp:a.eval x=p at h1;generalize hq:a.eval y=q at h2;cases h2;cases h1 with
     |ptr xy=>
      rename_i l;obtain⟨u,g1,g2,g3,g4,g5⟩:=hh.cell xy hl aD (.int kx (kx.wrap (n'+n)));cases g2;have hm:c.args.map a.eval=#[.pointer (some ⟨l.rb,l.base+off,none⟩),.int kx n]:=by rw[eH];simp[hp,hq]
      refine aK.mk (Nat.le_of_eq (ym aD).symm) (aI.ext.refl φ _) (Hj ho db (u:=.int kx (kx.wrap (n'+n))) ?_) (.int _ _) g4 g5;rw[hm];exact run_call_add hf hn hb bj.1 _ bj.2 g1 g3 (by simp[Op.intArith]<;>rfl)
    ·cases he
   ·cases he
  ·cases he
 ·cases he
theorem Ab {α β:Type} {g:α->Option β} {l:List α} {y:β} {ys:List β} (h:cj g l=some (y::ys)):∃x xs,l=x::xs/\g x=some y/\cj g xs=some ys:=by
 cases l with
 |nil=>simp[cj]at h
 |cons x xs=>
  simp only[cj]at h;split at h
  ·rename_i y' h1;split at h
   ·rename_i QC h2;cases h;exact⟨x,xs,rfl,h1,h2⟩
   ·cases h
  ·cases h
theorem GB {α β:Type} {g:α->Option β} {l:List α} (h:cj g l=some []):l=[]:=by
 cases l with
 |nil=>rfl
 |cons x xs=>
  simp only[cj]at h;split at h
  ·split at h<;>cases h
  ·cases h
theorem Eo {α:Type} {xs:Array α} {l:List α} (h:xs.toList=l):xs=l.toArray:=by cases xs;simp_all
theorem abS {so:cJ} (hc:JR P f c.args=some so) (ho:o.op=.call c) (db:c.callee=.value (.func f)) (ht:aE φ ts a.tmps.toList) (hh:HR φ B H w)
 (he:evalOp so ts H=some (v,H')):aK P φ B H w (execOp a.eval o) v H':=by
 unfold JR at hc;split at hc
 ·rename_i fn hf;split at hc
  ·rename_i T0;simp only[Bool.and_eq_true,beq_iff_eq]at T0;obtain⟨hb,iT⟩:=T0;split at hc
   ·rename_i hm;have eH:=Eo (GB hm);split at hc
    ·rename_i hn;cases hc;simp only[Bool.or_eq_true,beq_iff_eq]at hn;exact aie ho db hf hb hn iT hh he
    ·cases hc
   ·rename_i x1 hm;obtain⟨o1,r1,e1,c1,hm⟩:=Ab hm;have:=GB hm;subst this;have eH:=Eo e1;split at hc
    ·rename_i hn;cases hc;exact ah0 c1 ho db eH hf hb (by simpa using hn) iT ht hh he
    ·split at hc
     ·rename_i hn;cases hc;simp only[Bool.or_eq_true,beq_iff_eq]at hn;exact aif c1 ho db eH hf hb hn iT ht hh he
     ·split at hc
      ·rename_i hn;cases hc;have hn:=eq_of_beq hn;exact aid c1 ho db eH hf hb (by rw[hn];rfl) (ajL fn hn iT) ht hh he
      ·cases hc
   ·rename_i x1 x2 hm;obtain⟨o1,r1,e1,c1,hm⟩:=Ab hm;obtain⟨o2,r2,e2,c2,hm⟩:=Ab hm;have:=GB hm;subst this;subst e2;have eH:=Eo e1;split at hc
    ·rename_i hn;cases hc;exact aic c1 c2 ho db eH hf hb (by simpa using hn) iT ht hh he
    ·split at hc
     ·rename_i hn;cases hc;exact aib c1 c2 ho db eH hf hb (by simpa using hn) iT ht hh he
     ·split at hc
      ·rename_i hn;cases hc;have hn:=eq_of_beq hn;exact aih c1 c2 ho db eH hf hb (by rw[hn];rfl) (ajO fn hn iT) ht hh he
      ·split at hc
       ·rename_i hn;cases hc;have hn:=eq_of_beq hn;exact ah9 c1 c2 ho db eH hf hb (by rw[hn];rfl) (ajF fn hn iT) ht hh he
       ·cases hc
   ·rename_i x1 x2 x3 hm;obtain⟨o1,r1,e1,c1,hm⟩:=Ab hm;obtain⟨o2,r2,e2,c2,hm⟩:=Ab hm;obtain⟨o3,r3,e3,c3,hm⟩:=Ab hm;have:=GB hm;subst this;subst e3;subst e2;have eH:=Eo e1;split at hc
    ·rename_i hn;cases hc;have hn:=eq_of_beq hn;exact aia c1 c2 c3 ho db eH hf hb (by rw[hn];rfl) (ajG fn hn iT) ht hh he
    ·cases hc
   ·cases hc
  ·cases hc
 ·cases hc
end
end
end
section
open Go.RowKit (Below)
section
variable {P:Program} {φ:aI} {B:Nat} {H H':ag} {w:World} {ts:T} {a:Act} {o:Oper} {v:SV}
theorem Hz (w:World) (b:Nat) (C:Array Value) (e:TypeId) (f:Nat×Nat) (h:w.heap[b]? =some (.cells C e f)):w.shape? b=some (e,C.size):=by
 simp[World.shape?,h]
theorem ah7 {t:TypeId} {x:Operand} {x':X} (hx:aR x=some x') (ho:o.op=.call {callee:=.builtin .unsafeSliceData,args:=#[x],argTypes:=#[t]})
 (ht:aE φ ts a.tmps.toList) (hh:HR φ B H w) (he:evalOp (.yw x') ts H=some (v,H')):aK P φ B H w (execOp a.eval o) v H':=by
 have h0:=bF hx ht;simp only[evalOp]at he;have iE:∀{p r:Value},a.eval x=p->(Builtin.unsafeSliceData_ #[t] o.type #[p]).run P w=.ok r w->(execOp a.eval o).run P w=.ok (.value r) w:=by
  intro p r e1 hr;simp[execOp,ho,resolve,invoke,builtin,e1,hr]
 split at he
 ·rename_i e1;cases he;rw[e1]at h0;generalize hp:a.eval x=p at h0;cases h0;exact aK.pure (iE hp rfl) .cM hh
 ·rename_i b off n c z e1;cases he;rw[e1]at h0;generalize hp:a.eval x=p at h0;cases h0 with
  |slice hl hc hn htt=>
   exact aK.pure (iE hp (Lib.run_unsafeSliceData_row w #[t] o.type _ _ _ om)) (.ptr hl) hh
 ·cases he
theorem agJ {e:TypeId} (hc:P.cellsOf e=1) (count off n:Nat) (hn:off+n<=count):liesAt P P.depth e count off e n=true:=by
 have hd:P.depth=(2*(P.types.size+Made.depth)+1)+1:=rfl;rw[hd];simp only[liesAt,Bool.or_eq_true];left;rw[hd];simp[rowAt,hc,hn,sameLayout,Nat.mod_one]
theorem abp {s:List Nat} (h:∀n∈s,n<256):∃l:List UInt8,s=l.map UInt8.toNat:=by
 induction s with
 |nil=>exact⟨[],rfl⟩
 |cons n s ih=>
  obtain⟨l,hl⟩:=ih fun m hm=>h m (List.mem_cons_of_mem _ hm)
  refine⟨UInt8.ofNat n::l,?_⟩;have:n<256:=h n (List.mem_cons_self ..);simp[hl];omega
theorem aka {pt it ty e:TypeId} {k:IntKind} {g off cells:Nat} (hp:P.underlying pt=some (.pointer e)) (hc:P.cellsOf e=1) (hsh:w.shape? g=some (e,cells)) (l:List UInt8) (h0:l≠[]) (hn:off+l.length<=cells) (ze:l.length<=9223372036854775807)
 (hcell:∀j x,l[j]? =some x->w.cell? ((⟨g,off,none⟩:Addr).add j)=some (.int .u8 x.toNat)):
 (Builtin.unsafeString_ #[pt,it] ty #[.pointer (some ⟨g,off,none⟩),.int k l.length]).run P w=.ok (.string ⟨l.toArray⟩) (w.freeze ⟨g,off,none⟩ l.length):=by
 have hl:l.length≠0:=by simpa using h0
 have jO:=Lib.run_loadBytes (P:=P) w l ⟨g,off,none⟩ .empty hcell;have Mc:=agJ (P:=P) hc (cells/P.cellsOf e) off l.length (by rw[hc];simpa using hn);have Bw:¬(9223372036854775807:Int)<(l.length:Int):=om;obtain⟨m1,m2,m3,B2⟩:∃m1 m2 m3:String,Builtin.unsafeString_ #[pt,it] ty #[.pointer (some ⟨g,off,none⟩),.int k l.length]=
  (do
   let n<-asInt (.int k l.length)
   if n<0 then runtimePanic (.error m1)
   if n>IntKind.i64.max then unsupported (.unsafePointer m2)
   if n=0 then pure (.string .empty)
   else if<-variablesAt ⟨g,off,none⟩ (<-elemOf pt) n.toNat then do
    let s<-loadBytes ⟨g,off,none⟩ .empty n.toNat
    freeze ⟨g,off,none⟩ n.toNat
    pure (.string s)
   else unsupported (.unsafePointer m3)):=⟨_,_,_,rfl⟩
 rw[B2];have FQ:IntKind.i64.max=9223372036854775807:=rfl;have aeU:¬(l.length:Int)<0:=om;simp[asInt,asIntOf,FQ,Bw,aeU,hl,variablesAt,hsh,elemOf,run_underlying hp,Mc,jO]
theorem akb {pt it ty:TypeId} {k:IntKind} (p:Option Addr):(Builtin.unsafeString_ #[pt,it] ty #[.pointer p,.int k 0]).run P w=.ok (.string .empty) w:=by
 have FQ:IntKind.i64.max=9223372036854775807:=rfl;cases p with
 |none=>
  obtain⟨m1,m2,m3,B2⟩:∃m1 m2 m3:String,Builtin.unsafeString_ #[pt,it] ty #[.pointer none,.int k 0]=
   (do
    let n<-asInt (.int k 0)
    if n<0 then runtimePanic (.error m1)
    if n>IntKind.i64.max then unsupported (.unsafePointer m2)
    if n=0 then pure (.string .empty)
    else runtimePanic (.error m3)):=⟨_,_,_,rfl⟩
  rw[B2];simp[asInt,asIntOf,FQ]
 |some a=>
  obtain⟨m1,m2,m3,B2⟩:∃m1 m2 m3:String,Builtin.unsafeString_ #[pt,it] ty #[.pointer (some a),.int k 0]=
   (do
    let n<-asInt (.int k 0)
    if n<0 then runtimePanic (.error m1)
    if n>IntKind.i64.max then unsupported (.unsafePointer m2)
    if n=0 then pure (.string .empty)
    else if<-variablesAt a (<-elemOf pt) n.toNat then do
     let s<-loadBytes a .empty n.toNat
     freeze a n.toNat
     pure (.string s)
    else unsupported (.unsafePointer m3)):=⟨_,_,_,rfl⟩
  rw[B2];simp[asInt,asIntOf,FQ]
theorem ah8 {t u e:TypeId} {ti:TI} {p n:Operand} {p' n':X} (hu:P.underlying t=some (.pointer e)) (bu:fq P e ti) (hz:ti.size=1) (hp:aR p=some p') (hn:aR n=some n')
 (ho:o.op=.call {callee:=.builtin .unsafeString,args:=#[p,n],argTypes:=#[t,u]})
 (ht:aE φ ts a.tmps.toList) (hh:HR φ B H w) (he:evalOp (.yx e p' n') ts H=some (v,H')):aK P φ B H w (execOp a.eval o) v H':=by
 have h1:=bF hp ht;have h2:=bF hn ht;obtain⟨info,d,z,i1,_,_,i4,_⟩:=bu.ex;have sB:P.cellsOf e=1:=by simp[Program.cellsOf,i1,i4,hz]
 have iE:∀{x y r:Value} {w':World},a.eval p=x->a.eval n=y->(Builtin.unsafeString_ #[t,u] o.type #[x,y]).run P w=.ok r w'->(execOp a.eval o).run P w=.ok (.value r) w':=by
  intro x y r w' e1 e2 hr;simp[execOp,ho,resolve,invoke,builtin,e1,e2,hr]
 simp only[evalOp]at he;split at he
 ·rename_i k e2;rw[e2]at h2;generalize hy:a.eval n=y at h2;cases h2;have:∃q,a.eval p=.pointer q/\v=.str []/\H'=H:=by
   split at he
   ·rename_i e1;cases he;rw[e1]at h1;generalize hx:a.eval p=x at h1;cases h1;exact⟨_,rfl,rfl,rfl⟩
   ·rename_i e1;cases he;rw[e1]at h1;generalize hx:a.eval p=x at h1;cases h1;exact⟨_,rfl,rfl,rfl⟩
   ·cases he
  obtain⟨q,hq,rfl,rfl⟩:=this;exact aK.pure (iE hq hy (akb q)) (.str rfl) hh
 ·rename_i kk k e2;rw[e2]at h2;generalize hy:a.eval n=y at h2;cases h2;split at he
  ·rename_i b off e1;rw[e1]at h1;generalize hx:a.eval p=x at h1;cases h1 with
   |ptr hl=>
    rename_i l;split at he
    ·rename_i cs e' ex frz hg;split at he
     ·rename_i mu;simp only[Bool.and_eq_true]at mu;obtain⟨hle,xq,nt⟩:=mu;have hle:=Nat.le_of_ble_eq_true hle;have xq:=Nat.eq_of_beq_eq_true xq;have nt:=Nat.le_of_ble_eq_true nt;subst xq;split at he
      ·rename_i s hs;cases he;have mC:=hh.obj b l hl;rw[hg]at mC;have np:=HR.ND hg;cases mC with
       |row hb dY bO hlen hex iU jh=>
        rename_i C lo hi;have hv:aE φ ((cs.drop off).take (k+1)) ((C.toList.drop (l.base+off)).take (k+1)):=aE.WG bO hle om;obtain⟨ns,UN,UO,hlt⟩:=JH hs hv;obtain⟨bs,rfl⟩:=abp hlt;have jO:bs.length=k+1:=by
         have:=congrArg List.length UN;simp[UO]at this;omega
        have o5:∀j x,bs[j]? =some x->w.cell? ((⟨l.rb,l.base+off,none⟩:Addr).add j)=some (.int .u8 x.toNat):=by
         intro j x hj;rw[rX,wy w _ _ C _ _ hb];have:((C.toList.drop (l.base+off)).take (k+1))[j]? =some (.int .u8 x.toNat):=by
          rw[UN,UO];simp[hj]
         rw[List.getElem?_take]at this;split at this
         ·rw[List.getElem?_drop,Array.getElem?_toList]at this;exact this
         ·cases this
        have dK:=aka (P:=P) (w:=w) (pt:=t) (it:=u) (ty:=o.type) (k:=kk) (off:=l.base+off) hu sB (Hz w l.rb C _ _ hb) bs (by intro h;simp[h]at jO) om (by have:vB=4611686018427387904:=rfl;omega) o5;have e3:(Int.ofNat (k+1))=((bs.length:Nat):Int):=by rw[jO];rfl
        have aP:k+1≠0:=om;have kL:bs.length≠0:=om;have Cv:∃f,(w.freeze ⟨l.rb,l.base+off,none⟩ bs.length).heap[l.rb]? =some (.cells C e' f):=by
         unfold World.freeze;rw[if_neg kL];refine⟨if lo==hi then(l.base+off,l.base+off+bs.length)else(min lo (l.base+off),max hi (l.base+off+bs.length)),?_⟩;simp only[Array.getElem?_modify,if_true,hb,Option.map_some]
        have ae5:∀q,q≠l.rb->(w.freeze ⟨l.rb,l.base+off,none⟩ bs.length).heap[q]? =w.heap[q]? :=by
         intro q hq;unfold World.freeze;rw[if_neg kL];simp only[Array.getElem?_modify];rw[if_neg (Ne.symm hq)]
        have Cx:(w.freeze ⟨l.rb,l.base+off,none⟩ bs.length).heap.size=w.heap.size:=by
         unfold World.freeze;rw[if_neg kL];simp
        refine aK.mk (bh:=φ) (u:=.string ⟨bs.toArray⟩) (w':=w.freeze ⟨l.rb,l.base+off,none⟩ bs.length) (Nat.le_refl _) (aI.ext.refl φ _) (iE hx (by rw[hy,e3]) dK) (.str (by simp)) ?_ (Lib.below_freeze (Below.refl _ _) (iU rfl) _);obtain⟨⟨eA,cu⟩,eo⟩:=Cv;refine hh.change hl np Cx ae5 ?_;exact .row eo dY bO hlen hex (fun h=>by cases h) (fun h=>by cases h)
      ·cases he
     ·cases he
    ·cases he
  ·cases he
 ·cases he
theorem XK {C:Array Value} {e:TypeId} {f:Nat×Nat} {g off:Nat} (hb:w.heap[g]? =some (.cells C e f)):(Conv.seenAt ⟨g,off,none⟩).run P w=.ok ⟨g,off,none⟩ w:=by
 simp[Conv.seenAt,viewAt,Hz w g C e f hb]
theorem ahz {s d e:TypeId} {ti:TI} {x:Operand} {x':X} (hs:P.underlying s=some (.pointer e)) (hd:P.underlying d=some .unsafePointer) (bu:fq P e ti) (hx:aR x=some x') (ho:o.op=.convert s d x)
 (ht:aE φ ts a.tmps.toList) (hh:HR φ B H w) (he:evalOp (.uW x') ts H=some (v,H')):aK P φ B H w (execOp a.eval o) v H':=by
 have h0:=bF hx ht;obtain⟨info,dd,z,i1,_,_,i4,_⟩:=bu.ex;have sB:P.cellsOf e≠0:=by have:=bu.pos;simp[Program.cellsOf,i1,i4];omega
 simp only[evalOp]at he;split at he
 ·rename_i e1;cases he;rw[e1]at h0;generalize hp:a.eval x=p at h0;cases h0;refine aK.pure (u:=.pointer none) ?_ .cM hh;simp only[execOp,ho,hp];refine eD ?_;simp[convert,run_underlying hs,run_underlying hd,Conv.unsafePointer]
 ·rename_i b off e1;split at he
  ·rename_i cs e' ex ro frz hg;split at he
   ·rename_i hlt;cases he;have hlt:=Nat.le_of_ble_eq_true hlt;rw[e1]at h0;generalize hp:a.eval x=p at h0;cases h0 with
    |ptr hl=>
     rename_i l;have mC:=hh.obj b l hl;rw[hg]at mC;cases mC with
     |row hb dY bO hlen hex iU jh=>
      rename_i C lo hi;refine aK.pure (u:=.pointer (some ⟨l.rb,l.base+off,none⟩)) ?_ (.ptr hl) hh;simp only[execOp,ho,hp];refine eD ?_;have lH:¬(C.size<=l.base+off):=om;simp[convert,run_underlying hs,run_underlying hd,Conv.unsafePointer,XK hb,cellsIn,Hz w l.rb C _ _ hb,run_sizeOf w i1,sB,lH]
   ·cases he
  ·cases he
 ·cases he
theorem aht {s d e:TypeId} {x:Operand} {x':X} (hs:P.underlying s=some .unsafePointer) (hd:P.underlying d=some (.pointer e)) (hi:∃i,P.info? e=some i) (hx:aR x=some x') (ho:o.op=.convert s d x)
 (ht:aE φ ts a.tmps.toList) (hh:HR φ B H w) (he:evalOp (.uV (EB P e) x') ts H=some (v,H')):aK P φ B H w (execOp a.eval o) v H':=by
 have h0:=bF hx ht;obtain⟨info,i1⟩:=hi;simp only[evalOp]at he;split at he
 ·rename_i e1;cases he;rw[e1]at h0;generalize hp:a.eval x=p at h0;cases h0;refine aK.pure (u:=.pointer none) ?_ .cM hh;simp only[execOp,ho,hp];refine eD ?_;simp[convert,run_underlying hs,run_underlying hd,Conv.unsafePointer]
 ·rename_i b off e1;split at he
  ·rename_i cs e' ro frz hg;split at he
   ·rename_i Mc;cases he;rw[e1]at h0;generalize hp:a.eval x=p at h0;cases h0 with
    |ptr hl=>
     rename_i l;have mC:=hh.obj b l hl;rw[hg]at mC;cases mC with
     |row hb dY bO hlen hex iU jh=>
      rename_i C lo hi;obtain⟨gT,ry⟩:=hex rfl;refine aK.pure (u:=.pointer (some ⟨l.rb,l.base+off,none⟩)) ?_ (.ptr hl) hh;simp only[execOp,ho,hp];refine eD ?_;have nU:liesAt P P.depth e' (C.size/P.cellsOf e') (l.base+off) e 1=true:=by rw[dY,ry,gT,Nat.zero_add];exact Mc
      simp[convert,run_underlying hs,run_underlying hd,Conv.unsafePointer,XK hb,Hz w l.rb C _ _ hb,run_sizeOf w i1,variablesAt,nU]
   ·cases he
  ·cases he
 ·cases he
theorem Hh (d:Nat) {t e:TypeId} {i:TypeInfo} {p q:Option Addr} (hu:P.underlying t=some (.pointer e)) (i1:P.info? e=some i) (sB:P.cellsOf e≠0)
 (hs:∀x y,p=some x->q=some y->x.block=y.block):(Op.equalIn (d+1) t (.pointer p) (.pointer q)).run P w=.ok (p==q) w:=by
 cases p with
 |none=>cases q<;>simp[Op.equalIn,run_underlying hu]
 |some x=>
  cases q with
  |none=>simp[Op.equalIn,run_underlying hu]
  |some y=>
   have:=hs x y rfl rfl;simp[Op.equalIn,run_underlying hu,run_sizeOf w i1,sB,sameAddr,this]
theorem ahD {neg:Bool} {op:BinOp} {t yt e:TypeId} {ti:TI} {x y:Operand} {x' y':X} (b8:op=if neg then .neq else .eql) (hu:P.underlying t=some (.pointer e)) (bu:fq P e ti)
 (hx:aR x=some x') (hy:aR y=some y') (ho:o.op=.binOp op t x y yt) (ht:aE φ ts a.tmps.toList) (hh:HR φ B H w)
 (he:evalOp (.tw neg x' y') ts H=some (v,H')):aK P φ B H w (execOp a.eval o) v H':=by
 have h1:=bF hx ht;have h2:=bF hy ht;obtain⟨info,dd,z,i1,_,_,i4,_⟩:=bu.ex;have sB:P.cellsOf e≠0:=by have:=bu.pos;simp[Program.cellsOf,i1,i4];omega
 have key:∀(p q:Option Addr) (b:Bool),a.eval x=.pointer p->a.eval y=.pointer q->(Op.equalIn (9999+1) t (.pointer p) (.pointer q)).run P w=.ok b w->v=.bool (b !=neg)->H'=H->aK P φ B H w (execOp a.eval o) v H':=by
  intro p q b e1 e2 xD hv hH;subst hv hH;have hq:(Op.equal t (.pointer p) (.pointer q)).run P w=.ok b w:=xD;have mz:∀op,(eqGuard op t x y (.pointer p) (.pointer q)).run P w=.ok () w:=fun op=>Kv trivial
  refine aK.pure (u:=.bool (b !=neg)) ?_ (.bool _) hh;simp only[execOp,ho,e1,e2];refine eD ?_;subst b8;cases neg<;>simp[mz,binOp,hq]
 simp only[evalOp]at he;split at he
 ·rename_i e1 e2;rw[e1]at h1;rw[e2]at h2;cases he;generalize hp:a.eval x=p at h1;generalize hq:a.eval y=q at h2;cases h1;cases h2;exact key _ _ true hp hq (Hh 9999 hu i1 sB (fun x y h=>by cases h)) rfl rfl
 ·rename_i e1 e2;rw[e1]at h1;rw[e2]at h2;cases he;generalize hp:a.eval x=p at h1;generalize hq:a.eval y=q at h2;cases h1;cases h2;exact key _ _ false hp hq (Hh 9999 hu i1 sB (fun x y h h'=>by first|cases h;done|cases h';done)) rfl rfl
 ·rename_i e1 e2;rw[e1]at h1;rw[e2]at h2;cases he;generalize hp:a.eval x=p at h1;generalize hq:a.eval y=q at h2;cases h1;cases h2;exact key _ _ false hp hq (Hh 9999 hu i1 sB (fun x y h h'=>by first|cases h;done|cases h';done)) rfl rfl
 ·rename_i b off b' xW e1 e2;split at he
  ·rename_i dz;have dz:=Nat.eq_of_beq_eq_true dz;subst dz;rw[e1]at h1;rw[e2]at h2;cases he;generalize hp:a.eval x=p at h1;generalize hq:a.eval y=q at h2;cases h1 with
   |ptr hl=>
    rename_i l;cases h2 with
    |ptr nU=>
     rename_i l2;rw[hl]at nU;cases nU;refine key _ _ (Nat.beq off xW) hp hq ?_ rfl rfl;have:((⟨l.rb,l.base+off,none⟩:Addr)==⟨l.rb,l.base+xW,none⟩)=Nat.beq off xW:=by
      by_cases h:off=xW
      ·subst h;simp
      ·have h3:Nat.beq off xW=false:=by
        cases h4:Nat.beq off xW with
        |true=>exact absurd (Nat.eq_of_beq_eq_true h4) h
        |false=>rfl
       rw[h3];simp
     have h5:=Hh (P:=P) (w:=w) 9999 (p:=some ⟨l.rb,l.base+off,none⟩) (q:=some ⟨l.rb,l.base+xW,none⟩) hu i1 sB (fun x y h h'=>by cases h;cases h';rfl);rw[h5,<-this];rfl
  ·cases he
 ·cases he
theorem ahw {s d:TypeId} {k:IntKind} {x:Operand} {y:X} (hs:P.underlying s=some (.int k)) (hd:P.underlying d=some .string) (hc:aR x=some y) (ho:o.op=.convert s d x)
 (ht:aE φ ts a.tmps.toList) (hh:HR φ B H w) (he:evalOp (.yW y) ts H=some (v,H')):aK P φ B H w (execOp a.eval o) v H':=by
 have h0:=bF hc ht;simp only[evalOp]at he;split at he
 ·rename_i k' n e1;cases he;rw[e1]at h0;generalize hp:a.eval x=p at h0;cases h0;refine aK.pure (u:=.string (Utf8.encode n)) ?_ (.str rfl) hh;simp only[execOp,ho,hp];refine eD ?_;simp[convert,run_underlying hs,run_underlying hd,Conv.intToString]
 ·cases he
theorem ahZ {t:TypeId} {x:Operand} {y:X} (hu:P.underlying t=some .string) (hc:aR x=some y) (ho:o.op=.range t x)
 (ht:aE φ ts a.tmps.toList) (hh:HR φ B H w) (he:evalOp (.Aq y) ts H=some (v,H')):aK P φ B H w (execOp a.eval o) v H':=by
 have h0:=bF hc ht;simp only[evalOp]at he;split at he
 ·rename_i s e1;cases he;rw[e1]at h0;generalize hp:a.eval x=p at h0;cases h0 with
  |str hs=>
   rename_i t';refine aK.mk (bh:=φ.ins H.next ⟨w.heap.size,0,0,.bool false⟩) (w':=w.alloc (.stringIter t' 0)) (Nat.le_succ _) (aI.si hh.fresh) (u:=.pointer (some ⟨w.heap.size,0,none⟩)) ?_ (.ptr (aI.qi _ _ _)) ?_ ((Below.refl _ _).alloc hh.sz _)
   ·simp only[execOp,ho,hp];refine eD ?_;simp[Instr.range,run_underlying hu]
   ·refine hh.push (l:=⟨w.heap.size,0,0,.bool false⟩) (o:=.stringIter t' 0) rfl (by simp) (fun k hk=>Below.heap_alloc _ _ _ hk) (fun hn=>?_) (heap_alloc_new w _);exact .ko hn hs hh.sz rfl
 ·cases he
theorem ade (t:ByteArray) (i:Nat):(t.data.toList.map UInt8.toNat).getD i 0=(t.get! i).toNat:=by
 by_cases h:i<t.data.size
 ·have e:t.get! i=t.data[i]:=by
   exact getElem!_pos t.data i h
  rw[e,List.getD_eq_getElem?_getD,List.getElem?_map,Array.getElem?_toList,Array.getElem?_eq_getElem h];rfl
 ·have e:t.get! i=default:=by
   exact getElem!_neg t.data i h
  rw[e,List.getD_eq_getElem?_getD,List.getElem?_map,Array.getElem?_toList,Array.getElem?_eq_none om];rfl
theorem acd (t:ByteArray) (i:Nat):tp (t.data.toList.map UInt8.toNat) i=Utf8.decode t i:=by
 have hlen:(t.data.toList.map UInt8.toNat).length=t.size:=by rw[List.length_map,Array.length_toList];rfl
 unfold tp Utf8.decode;simp only[ade,hlen]
theorem ahX {x:Operand} {y:X} (hc:aR x=some y) (ho:o.op=.next x true)
 (ht:aE φ ts a.tmps.toList) (hh:HR φ B H w) (he:evalOp (.rK y) ts H=some (v,H')):aK P φ B H w (execOp a.eval o) v H':=by
 have h0:=bF hc ht;simp only[evalOp]at he;split at he
 ·rename_i b e1;rw[e1]at h0;generalize hp:a.eval x=p at h0;cases h0 with
  |ptr hl=>
   rename_i l;split at he
   ·rename_i s pos hg;have mC:=hh.obj b l hl;rw[hg]at mC;have np:live (H.get b):=by rw[hg];trivial
    cases mC with
    |ko hb hs hB gT=>
     rename_i t;have hlen:s.length=t.size:=by rw[hs,List.length_map,Array.length_toList];rfl
     have j9:(getObj l.rb).run P w=.ok (.stringIter t pos) w:=by simp[getObj,Sem.run,hb]
     have vo:l.rb=l.rb:=rfl;split at he
     ·rename_i hlt;cases he;have hlt:=Nat.le_of_ble_eq_true hlt;have FP:pos<t.size:=by rw[<-hlen];exact hlt
      have hd:=acd t pos;rw[<-hs]at hd;have mE:=XL (P:=P) (w:=w) (nb:=.stringIter t (pos+(Utf8.decode t pos).2)) hb (by intro c e f h;cases h);refine aK.mk (bh:=φ) (w':={w with heap:=w.heap.setIfInBounds l.rb (.stringIter t (pos+(Utf8.decode t pos).2))}) (u:=.tuple #[.bool true,goInt pos,.int .i32 (Utf8.decode t pos).1]) (Nat.le_refl _) (aI.ext.refl φ _) ?_ ?_ ?_ ?_
      ·simp only[execOp,ho,hp,gT,Nat.add_zero];refine eD ?_;simp only[Instr.next,Sem.run_bind,j9,Result.andThen_ok,FP,if_true,mE,Sem.run_pure]
      ·refine .aJ ?_;rw[hd];exact .cons (.bool true) (.cons (.int _ _) (.cons (.int _ _) .nil))
      ·have Cg:=(hh.dD b l hl).2;refine hh.change hl np (by simp) (fun k hk=>by simp[Array.getElem?_setIfInBounds,Ne.symm hk]) ?_;rw[hd];exact .ko (by simp[Array.getElem?_setIfInBounds,Cg]) hs hB gT
      ·refine⟨rfl,rfl,rfl,by simp,fun k hk=>?_⟩;have:l.rb≠k:=om;simp[Array.getElem?_setIfInBounds,this]
     ·rename_i hlt;cases he;have o7:¬pos<t.size:=by
       intro h;rw[<-hlen]at h;rw[show Nat.blt pos s.length=true from Nat.ble_eq_true_of_le h]at hlt;cases hlt
      refine aK.pure (u:=.tuple #[.bool false]) ?_ (.aJ (.cons (.bool false) .nil)) hh
      simp only[execOp,ho,hp,gT,Nat.add_zero];refine eD ?_;simp only[Instr.next,Sem.run_bind,j9,Result.andThen_ok,o7,if_false,Sem.run_pure]
   ·cases he
 ·cases he
end
end
section
open Go.RowKit (Below)
section
variable {P:Program} {w:World}
theorem aj2 {t u ty e:TypeId} {i:TypeInfo} {k k2:IntKind} (ht:P.underlying t=some (.slice e)) (hi:P.info? e=some i) (hu:P.underlying u=some (.int k)):
 (Builtin.append_ #[t,u] ty #[.slice none 0 0,.int k2 0]).run P w=.ok (.slice none 0 0) w:=by
 have w0:IntKind.i64.wrap 0=0:=by decide
 simp[Builtin.append_,run_underlying ht,run_underlying hu,sizeOf,typeInfo,hi,asInt,asIntOf,w0]
theorem aj1 {t u ty e:TypeId} {i:TypeInfo} {z:Value} {k k2:IntKind} {n:Nat} (ht:P.underlying t=some (.slice e)) (hi:P.info? e=some i) (hz:i.zero=some z)
 (hu:P.underlying u=some (.int k)) (hn:0<n) (dY:0<i.size) (ze:(n:Int)<=35184372088832) (LP:n*i.bytes<=35184372088832):
 (Builtin.append_ #[t,u] ty #[.slice none 0 0,.int k2 (n:Int)]).run P w=
  .ok (.slice (some ⟨w.heap.size,0,none⟩) n (grownCap w n 0 e))
   (w.drew.alloc (.cells (Builtin.zeroCells z.cells n++Builtin.zeroCells z.cells (grownCap w n 0 e-n)) e)):=by
 have wn:IntKind.i64.wrap (n:Int)=(n:Int):=IntWalk.i64_in _ om;have nk:¬((n:Int)<0):=om;have hb:¬(281474976710656<(n:Int)*(i.bytes:Int)):=by
  have h:((n*i.bytes:Nat):Int)<=35184372088832:=Int.ofNat_le.2 LP;rw[Int.natCast_mul]at h;omega
 have kL:¬n<=0:=om;have hnz:¬(n=0):=om;have aoj:¬(i.size=0):=om;have Bw:¬(9223372036854775807<(n:Int)):=om;have aen:=growslice_fits (need:=n) (old:=0) (bytes:=i.bytes) hn om;have KS:¬(281474976710656<Builtin.nextslicecap n 0*i.bytes):=om;simp only[Builtin.append_,List.getElem?_toArray,List.getElem?_cons_zero,List.getElem?_cons_succ,Sem.run_bind,run_underlying ht,run_underlying hu,Result.andThen_ok,sizeOf,typeInfo,hi,run_program,Sem.run_pure];simp[asInt,asIntOf,wn,nk,hb,hnz,Bw,KS,zeroValue,typeInfo,hi,hz,Question.forced,Builtin.firstCells,newRow,grownCap];intro h0;rcases Nat.mul_eq_zero.1 h0 with h1|h1<;>omega
end
section
variable {P:Program} {φ:aI} {B:Nat} {H H':ag} {w:World} {ts:T} {a:Act} {o:Oper} {v:SV}
theorem Ze {e:TypeId} {ti:TI} {z:Value} (bu:fq P e ti) (hz:∀φ,VR φ ti.zeroV z) (m:Nat):aE φ (List.replicate m ti.zero).flatten (Builtin.zeroCells z.cells m).toList:=by
 have hv0:aE φ ti.zero z.cells.toList:=by rw[bu.zero];exact(hz φ).cells
 have hv:=hv0.repeat (by rw[bu.len];exact bu.pos) m;have hl:=hv0.length;rw[Array.length_toList]at hl;rw[hl]at hv;exact hv
theorem ahr {t e:TypeId} {x:Operand} {x':X} (hu:P.underlying t=some (.slice e)) (hx:aR x=some x') (ho:o.op=.call {callee:=.builtin .cap,args:=#[x],argTypes:=#[t]}) (ht:aE φ ts a.tmps.toList) (hh:HR φ B H w)
 (he:evalOp (.Bc x') ts H=some (v,H')):aK P φ B H w (execOp a.eval o) v H':=by
 have h0:=bF hx ht;have iE:∀{p r:Value},a.eval x=p->(Builtin.cap_ #[t] o.type #[p]).run P w=.ok r w->(execOp a.eval o).run P w=.ok (.value r) w:=by
  intro p r e1 hr;simp[execOp,ho,resolve,invoke,builtin,e1,hr]
 generalize hp:a.eval x=p at h0;simp only[evalOp]at he;split at he
 ·rename_i e1;cases he;rw[e1]at h0;cases h0;exact aK.pure (u:=goInt 0) (iE hp (by simp[Builtin.cap_,run_underlying hu])) (.int _ _) hh
 ·rename_i b off n c z e1;cases he;rw[e1]at h0;obtain⟨ad,cap,rfl,hle,hc⟩:=h0.uD;obtain rfl:cap=c:=by rcases hc c rfl with h|⟨_,h1,h2⟩<;>omega
  exact aK.pure (u:=goInt (cap:Nat)) (iE hp (by simp[Builtin.cap_,run_underlying hu])) (.int _ _) hh
 ·cases he
theorem ahs {t e:TypeId} {ti:TI} {x:Operand} {x':X} (hu:P.underlying t=some (.slice e)) (bu:fq P e ti) (hx:aR x=some x') (ho:o.op=.call {callee:=.builtin .clear,args:=#[x],argTypes:=#[t]}) (ht:aE φ ts a.tmps.toList) (hh:HR φ B H w)
 (he:evalOp (.wz ti.size ti.zero x') ts H=some (v,H')):aK P φ B H w (execOp a.eval o) v H':=by
 have h0:=bF hx ht;obtain⟨info,d,z,pZ,hd,hz,dY,qU,eG,zQ⟩:=bu.ex;have iE:∀{p r:Value} {w':World},a.eval x=p->(Builtin.clear_ #[t] o.type #[p]).run P w=.ok r w'->(execOp a.eval o).run P w=.ok (.value r) w':=by
  intro p r w' e1 hr;simp[execOp,ho,resolve,invoke,builtin,e1,hr]
 have rA:VR φ SV.undef (.tuple #[]):=.aJ .nil
 generalize hp:a.eval x=p at h0;simp only[evalOp]at he;split at he
 ·rename_i e1;cases he;rw[e1]at h0;cases h0;exact aK.pure (iE hp (by simp[Builtin.clear_,run_underlying hu])) rA hh
 ·rename_i b off n c z' e1;rw[e1]at h0;split at he
  ·cases he;obtain⟨ad,cap,rfl,hle,hc⟩:=h0.uD;exact aK.pure (iE hp (by simp[Builtin.clear_,run_underlying hu])) rA hh
  ·rename_i n;split at he
   ·rename_i xL;have Na:=Nat.eq_of_beq_eq_true xL;subst Na;split at he
    ·rename_i H1 aD;cases he;obtain⟨ad,cap,rfl,hle,hc⟩:=h0.uD;rcases h0.Ay with⟨l,hl,rfl,_,_,_⟩|⟨h1,_,_⟩
     ·obtain⟨g1,g2,g3,g4,g5⟩:=hh.store hl aD (Ze bu zQ (n+1));have dK:=run_storeCells_cells (P:=P) l.rb (l.base+off) (Builtin.zeroCells z.cells (n+1)).toList 0 w (by simpa using g1) (by simpa using g2) g3;simp only[Nat.add_zero]at dK;refine aK.mk (u:=.tuple #[]) (Nat.le_of_eq (ym aD).symm) (aI.ext.refl φ _) (iE hp ?_) rA g4 g5
      simp[Builtin.clear_,run_underlying hu,zeroValue,typeInfo,pZ,hz,dK]
     ·omega
    ·cases he
   ·cases he
 ·cases he
theorem ahm {t u e:TypeId} {k:IntKind} {ti:TI} {s x:Operand} {s' x':X} (ht:P.underlying t=some (.slice e)) (bu:fq P e ti) (hu:P.underlying u=some (.int k)) (hs:aR s=some s') (hx:aR x=some x')
 (ho:o.op=.call {callee:=.builtin .append,args:=#[s,x],argTypes:=#[t,u]}) (vt:aE φ ts a.tmps.toList) (hh:HR φ B H w)
 (he:evalOp (.Ba e ti.size ti.bytes ti.zero s' x') ts H=some (v,H')):aK P φ B H w (execOp a.eval o) v H':=by
 have h1:=bF hs vt;have h2:=bF hx vt;obtain⟨info,d,z,pZ,hd,hz,dY,qU,eG,zQ⟩:=bu.ex;have iE:∀{p q:Value} {r:Value} {w':World},a.eval s=p->a.eval x=q->(Builtin.append_ #[t,u] o.type #[p,q]).run P w=.ok r w'->(execOp a.eval o).run P w=.ok (.value r) w':=by
  intro p q r w' e1 e2 hr;simp[execOp,ho,resolve,invoke,builtin,e1,e2,hr]
 generalize hp:a.eval s=p at h1;generalize hq:a.eval x=q at h2;simp only[evalOp]at he;split at he
 ·rename_i k2 n e1 e2;rw[e1]at h1;rw[e2]at h2;cases h1;cases h2;split at he
  ·cases he;exact aK.pure (iE hp hq (aj2 ht pZ hu)) .ao hh
  ·rename_i n;split at he
   ·rename_i hb;cases he;simp only[Bool.and_eq_true]at hb;have b1:=Nat.le_of_ble_eq_true hb.1;have b2:=Nat.le_of_ble_eq_true hb.2;simp only[dR]at b1 b2;have dK:=aj1 (P:=P) (w:=w) (t:=t) (u:=u) (ty:=o.type) (k2:=k2) (n:=n+1) ht pZ hz hu (Nat.succ_pos _) (by rw[dY];exact bu.pos) om (by rw[qU];omega);have hle:n+1<=grownCap w (n+1) 0 e:=grownCap_ge _ _ _ _;have hzl:z.cells.size=ti.size:=by
     have:=(zQ φ).cells.length;rw[<-bu.zero,bu.len]at this;simpa using this.symm
    have Cx:(Builtin.zeroCells z.cells (n+1)++Builtin.zeroCells z.cells (grownCap w (n+1) 0 e-(n+1))).size=grownCap w (n+1) 0 e*ti.size:=by
     simp only[Array.size_append,size_zeroCells,hzl];rw[<-Nat.add_mul];congr 1;omega
    obtain⟨g1,g2⟩:=hh.Rq (vs:=Builtin.zeroCells z.cells (n+1)++Builtin.zeroCells z.cells (grownCap w (n+1) 0 e-(n+1))) (e:=e) (Ze bu zQ (n+1)) (fun i u h=>by
     rw[Array.getElem?_toList]at h;rw[Array.getElem?_append_left (Array.getElem?_eq_some_iff.1 h).1];exact h) (by simp) (w0:=w.drew) rfl (Below.refl _ _).drew
    refine aK.mk (Nat.le_succ _) (aI.si hh.fresh) (iE hp hq dK) (.slice (l:=⟨w.heap.size,0,_,.bool false⟩) (aI.qi _ _ _) (fun k hk=>by cases hk) hle ?_) g1 g2;simp only[Nat.zero_add,Cx];exact Nat.le_refl _
   ·cases he
 ·cases he
end
end
section
open Go.RowKit (Below)
section
variable {P:Program} {φ:aI} {B:Nat} {H H':ag} {w:World} {ts:T} {a:Act} {o:Oper} {v:SV}
theorem abL {op:BinOp} {t yt:TypeId} {x y:Operand} {so:cJ} (hc:JO P op t x y=some so) (ho:o.op=.binOp op t x y yt) (ht:aE φ ts a.tmps.toList) (hh:HR φ B H w)
 (he:evalOp so ts H=some (v,H')):aK P φ B H w (execOp a.eval o) v H':=by
 unfold JO at hc;split at hc
 ·rename_i x' y' hx hy;have SQ:∀neg,op=(if neg then .neq else .eql)->(match P.underlying t with
   |some (.int _)=>some (.bin op x' y')
   |some .string=>some (.bin op x' y')
   |some .bool=>some (.hZ neg false [(0,0)] x' y')
   |some (.struct _)=>match leaves P 6 t,P.eqGuardType P.depth t with
    |some L,false=>some (.hZ neg true L x' y')
    |_,_=>none
   |some d=>match CU d,sM x||sM y with
    |some k,true=>some (.tu neg k x' y')
    |_,false=>match d with
     |.pointer e=>match iu P e with
      |some _=>some (.tw neg x' y')
      |none=>none
     |_=>none
    |_,_=>none
   |none=>none)=some so->aK P φ B H w (execOp a.eval o) v H':=by
   intro neg b8 hq;split at hq
   ·cases hq;exact NX hx hy ho ht hh he
   ·cases hq;exact NX hx hy ho ht hh he
   ·rename_i hu;cases hq;exact ahA b8 hu hx hy ho ht hh he
   ·rename_i fs hu;split at hq
    ·rename_i L hL hg;cases hq;exact ahB b8 hu hL hg hx hy ho ht hh he
    ·cases hq
   ·rename_i d _ _ _ _ hu;split at hq
    ·rename_i k hk hn;cases hq;exact ahC b8 hu hk hn hx hy ho ht hh he
    ·split at hq
     ·split at hq
      ·rename_i ti bu;cases hq;exact ahD b8 hu (gZ bu) hx hy ho ht hh he
      ·cases hq
     ·cases hq
    ·cases hq
   ·cases hq
  cases op
  case eql=>exact SQ false rfl hc
  case neq=>exact SQ true rfl hc
  all_goals
   cases hc;exact NX hx hy ho ht hh he
 ·cases hc
theorem abP {s d:TypeId} {x:Operand} {so:cJ} (hc:JQ P s d x=some so) (ho:o.op=.convert s d x) (ht:aE φ ts a.tmps.toList) (hh:HR φ B H w)
 (he:evalOp so ts H=some (v,H')):aK P φ B H w (execOp a.eval o) v H':=by
 unfold JQ at hc;split at hc
 ·cases hc
 ·rename_i x' hx;split at hc
  ·rename_i hs hd;cases hc;exact ahv hs hd hx ho ht hh he
  ·rename_i hs hd;cases hc;exact ahx hs hd hx ho ht hh he
  ·rename_i e hs hd;split at hc
   ·rename_i vh;cases hc;exact ahy hs hd vh hx ho ht hh he
   ·cases hc
  ·rename_i e hs hd;split at hc
   ·rename_i vh;cases hc;exact ahu hs hd vh hx ho ht hh he
   ·cases hc
  ·rename_i e hs hd;split at hc
   ·rename_i ti bu;cases hc;exact ahz hs hd (gZ bu) hx ho ht hh he
   ·cases hc
  ·rename_i e hs hd;split at hc
   ·rename_i ti bu;cases hc;obtain⟨info,_,_,i1,_⟩:=(gZ bu).ex;exact aht hs hd ⟨info,i1⟩ hx ho ht hh he
   ·cases hc
  ·rename_i hs hd;cases hc;exact ahw hs hd hx ho ht hh he
  ·cases hc
theorem abV {t:TypeId} {x:Operand} {lo hi mx:Option Operand} {so:cJ} (hc:JS P t x lo hi mx=some so) (aP:mx≠none->∃h0,hi=some h0) (ho:o.op=.slice t x lo hi mx) (ht:aE φ ts a.tmps.toList) (hh:HR φ B H w)
 (he:evalOp so ts H=some (v,H')):aK P φ B H w (execOp a.eval o) v H':=by
 unfold JS at hc;split at hc
 ·rename_i x' eA cu uv hx fA jM nt;split at hc
  ·rename_i hu;split at hc
   ·cases hc;have:mx=none:=by
     cases mx with
     |none=>rfl
     |some m=>simp only[jW]at nt;split at nt<;>cases nt
    subst this;exact ah2 hu hx fA jM ho ht hh he
   ·cases hc
  ·rename_i e hu;split at hc
   ·rename_i ti bu;cases hc;exact ah3 hu (gZ bu) hx fA jM nt aP ho ht hh he
   ·cases hc
  ·rename_i n e hu;split at hc
   ·rename_i ti bu;cases hc;have:mx=none:=by
     cases mx with
     |none=>rfl
     |some m=>simp only[jW]at nt;split at nt<;>cases nt
    subst this;exact ah1 hu (gZ bu) hx fA jM ho ht hh he
   ·cases hc
  ·cases hc
 ·cases hc
theorem uR {α:Type} {xs:Array α} {x:α} (h:xs.toList=[x]):xs=#[x]:=by cases xs;simp_all
theorem yL {α:Type} {xs:Array α} {x y:α} (h:xs.toList=[x,y]):xs=#[x,y]:=by cases xs;simp_all
theorem abM {c:Call} {b:Builtin} {so:cJ} (hc:JP P b c.args c.argTypes=some so) (db:c.callee=.builtin b) (ho:o.op=.call c) (ht:aE φ ts a.tmps.toList) (hh:HR φ B H w)
 (he:evalOp so ts H=some (v,H')):aK P φ B H w (execOp a.eval o) v H':=by
 obtain⟨callee,args,Es⟩:=c;simp only at db;subst db;unfold JP at hc;split at hc
 ·rename_i x t oY fQ;obtain rfl:=uR oY;obtain rfl:=uR fQ;split at hc
  ·rename_i x' hu hx;cases hc;exact ahO hu hx ho ht hh he
  ·rename_i e x' hu hx;cases hc;exact ahM hu hx ho ht hh he
  ·rename_i k e x' hu hx;cases hc;exact ahN hu hx ho ht hh he
  ·rename_i n e x' hu hx;cases hc;exact ahL hu ho hh he
  ·cases hc
 ·rename_i s x t u oY fQ;obtain rfl:=yL oY;obtain rfl:=yL fQ;split at hc
  ·rename_i e s' x' hu hs hx;split at hc
   ·rename_i ti e' bu lj;cases hc;exact WK hu (gZ bu) lj (by simp) (by simp) hs hx ho ht hh he
   ·rename_i ti bu lj;split at hc
    ·rename_i h1;cases hc;exact WK hu (gZ bu) lj (by simp) (fun _=>Nat.eq_of_beq_eq_true h1) hs hx ho ht hh he
    ·cases hc
   ·rename_i ti k bu lj;cases hc;exact ahm hu (gZ bu) lj hs hx ho ht hh he
   ·cases hc
  ·cases hc
 ·split at hc
  ·rename_i ys hy;cases hc;exact WM (isMax:=false) hy ho ht hh he
  ·cases hc
 ·split at hc
  ·rename_i ys hy;cases hc;exact WM (isMax:=true) hy ho ht hh he
  ·cases hc
 ·rename_i d s t u oY fQ;obtain rfl:=yL oY;obtain rfl:=yL fQ;split at hc
  ·rename_i e d' s' hu hd hs;split at hc
   ·rename_i ti e' bu lj;cases hc;exact WL hu (gZ bu) (by simp) hd hs ho ht hh he
   ·rename_i ti bu lj;split at hc
    ·rename_i h1;cases hc;exact WL hu (gZ bu) (fun _=>Nat.eq_of_beq_eq_true h1) hd hs ho ht hh he
    ·cases hc
   ·cases hc
  ·cases hc
 ·rename_i x t oY fQ;obtain rfl:=uR oY;obtain rfl:=uR fQ;split at hc
  ·rename_i e x' hu hx;cases hc;exact ahr hu hx ho ht hh he
  ·cases hc
 ·rename_i x t oY fQ;obtain rfl:=uR oY;obtain rfl:=uR fQ;split at hc
  ·rename_i e x' hu hx;split at hc
   ·rename_i ti bu;cases hc;exact ahs hu (gZ bu) hx ho ht hh he
   ·cases hc
  ·cases hc
 ·rename_i x t oY fQ;obtain rfl:=uR oY;obtain rfl:=uR fQ;split at hc
  ·rename_i e x' hu hx;cases hc;exact ah7 hx ho ht hh he
  ·cases hc
 ·rename_i p n t u oY fQ;obtain rfl:=yL oY;obtain rfl:=yL fQ;split at hc
  ·rename_i e p' n' hu hp hn;split at hc
   ·rename_i ti bu;split at hc
    ·rename_i h1;cases hc;exact ah8 hu (gZ bu) (Nat.eq_of_beq_eq_true h1) hp hn ho ht hh he
    ·cases hc
   ·cases hc
  ·cases hc
 ·cases hc
theorem Si {so:cJ} (hc:Ez P o=some so) (xu:HJ o=true) (ht:aE φ ts a.tmps.toList) (hh:HR φ B H w)
 (he:evalOp so ts H=some (v,H')):aK P φ B H w (execOp a.eval o) v H':=by
 unfold Ez at hc;split at hc
 ·rename_i x ho;split at hc
  ·rename_i y hy;cases hc;exact WN hy (.inl ho) ht hh he
  ·cases hc
 ·rename_i x ho;split at hc
  ·rename_i y hy;cases hc;exact WN hy (.inr ho) ht hh he
  ·cases hc
 ·rename_i c x y ho;split at hc
  ·rename_i c' x' y' h1 h2 h3;cases hc;exact ahY h1 h2 h3 ho ht hh he
  ·cases hc
 ·rename_i e ho;split at hc
  ·rename_i ti bu;cases hc;exact ahl (gZ bu) ho hh he
  ·cases hc
 ·rename_i e x ho;split at hc
  ·rename_i y hy;cases hc;exact ahn hy ho ht hh he
  ·cases hc
 ·rename_i t parts ho;split at hc
  ·rename_i ti fs bu hu;split at hc
   ·rename_i ps nw gS;cases hc;exact ahp (gZ bu) hu nw gS ho ht hh he
   ·cases hc
  ·rename_i ti n e bu hu;split at hc
   ·rename_i j hj;split at hc
    ·rename_i ps nw;cases hc;exact ahq (gZ bu) hu hj nw ho ht hh he
    ·cases hc
   ·cases hc
  ·cases hc
 ·rename_i t len parts ho;split at hc
  ·rename_i e hu;split at hc
   ·rename_i ti bu;split at hc
    ·rename_i ps nw xE;cases hc;exact aho (gZ bu) hu nw (Nat.le_of_ble_eq_true xE) ho ht hh he
    ·cases hc
   ·cases hc
  ·cases hc
 ·rename_i t x ho;split at hc
  ·rename_i ti y bu hy;cases hc;exact ahQ (gZ bu) hy ho ht hh he
  ·cases hc
 ·rename_i t x y ho;split at hc
  ·rename_i ti x' y' bu h1 h2;cases hc;exact ah4 (gZ bu) h1 h2 ho ht hh he
  ·cases hc
 ·rename_i x ho;split at hc
  ·rename_i y hy;cases hc;exact ahW hy ho ht hh he
  ·cases hc
 ·rename_i op t x y yt ho;split at hc
  ·rename_i gF hb;cases hc;exact abL hb ho ht hh he
  ·cases hc
 ·rename_i op t x ho;split at hc
  ·rename_i y hy;cases hc;exact ah6 hy ho ht hh he
  ·cases hc
 ·rename_i s d x ho;split at hc
  ·rename_i gF hb;cases hc;exact abP hb ho ht hh he
  ·cases hc
 ·rename_i t x ho;split at hc
  ·cases hc
  ·rename_i d y sH hu hy;cases hc;exact ahS hu (fun ms h=>sH ms h) hy ho ht hh he
  ·cases hc
 ·rename_i f xs ys ho;split at hc
  ·rename_i us vs h1 h2;cases hc;exact ahR h1 h2 ho ht hh he
  ·cases hc
 ·rename_i t ho;cases hc;exact ahT ho hh he
 ·rename_i t l c ho;split at hc
  ·rename_i e hu;split at hc
   ·rename_i ti l' c' bu h1 h2;cases hc;exact ahU (gZ bu) hu h1 h2 ho ht hh he
   ·cases hc
  ·cases hc
 ·rename_i t x lo hi mx ho;split at hc
  ·rename_i gF hb;cases hc;refine abV hb (fun hm=>?_) ho ht hh he;simp only[HJ,ho,Bool.or_eq_true]at xu;rcases xu with h|h
   ·exact absurd (Option.isNone_iff_eq_none.1 h) hm
   ·exact Option.isSome_iff_exists.1 h
  ·cases hc
 ·rename_i s x f ho;split at hc
  ·rename_i fs y hu hy;split at hc
   ·rename_i fd vi;split at hc
    ·rename_i ti bu;cases hc;exact ahF hu vi (gZ bu) hy ho ht hh he
    ·cases hc
   ·cases hc
  ·cases hc
 ·rename_i t x f ho;split at hc
  ·rename_i fs y hu hy;split at hc
   ·rename_i fd vi;split at hc
    ·rename_i ti bu;cases hc;exact ahG hu vi (gZ bu) hy ho ht hh he
    ·cases hc
   ·cases hc
  ·cases hc
 ·rename_i t x i ho;split at hc
  ·rename_i e x' i' hu h1 h2;split at hc
   ·rename_i ti bu;cases hc;exact ahI hu (gZ bu) h1 h2 ho ht hh he
   ·cases hc
  ·rename_i n e x' i' hu h1 h2;split at hc
   ·rename_i ti bu;cases hc;exact ahH hu (gZ bu) h1 h2 ho ht hh he
   ·cases hc
  ·cases hc
 ·rename_i t x i ho;split at hc
  ·rename_i x' i' hu h1 h2;cases hc;exact ahK hu h1 h2 ho ht hh he
  ·rename_i n e x' i' hu h1 h2;split at hc
   ·rename_i ti bu;cases hc;exact ahJ hu (gZ bu) h1 h2 ho ht hh he
   ·cases hc
  ·cases hc
 ·rename_i t m k ok ho;split at hc
  ·rename_i key elem hu;split at hc
   ·rename_i L ti m' k' hL bu h1 h2;cases hc;exact ahP hu hL (gZ bu) h1 h2 ho ht hh he
   ·cases hc
  ·cases hc
 ·rename_i t m k x ho;split at hc
  ·rename_i key elem hu;split at hc
   ·rename_i L m' k' x' hL h1 h2 h3;cases hc;exact ahV hu hL h1 h2 h3 ho ht hh he
   ·cases hc
  ·cases hc
 ·rename_i x i ho;split at hc
  ·rename_i y hy;cases hc;exact ahE hy ho ht hh he
  ·cases hc
 ·rename_i x xt t ok ho;split at hc
  ·cases hc
  ·rename_i d sH hu;split at hc
   ·rename_i ti y bu hy;cases hc;exact ah5 (gZ bu) hu (fun ms h=>sH ms h) hy ho ht hh he
   ·cases hc
  ·cases hc
 ·rename_i t x ho;split at hc
  ·rename_i y hu hy;cases hc;exact ahZ hu hy ho ht hh he
  ·cases hc
 ·rename_i x b ho;split at hc
  ·rename_i y hy;cases hc;exact ahX hy ho ht hh he
  ·cases hc
 ·rename_i c ho;split at hc
  ·rename_i b db;split at hc
   ·rename_i gF hb;cases hc;exact abM hb db ho ht hh he
   ·cases hc
  ·rename_i f db;split at hc
   ·rename_i gF hb;cases hc;exact abS hb ho db ht hh he
   ·cases hc
  ·cases hc
 ·cases hc
theorem G9 {f:FuncId} {fn:Func} {args:Array Value} (hf:P.funcs[f]? =some fn) (hn:(fn.name== "runtime.NumGoroutine")=false) (hb:fn.body.isNone=false):
 (callFunc f args).run P w=.ok (.enter f args) w:=by
 unfold callFunc;simp only[Sem.run_bind,run_program,Result.andThen_ok,hf];rw[hn,hb];rfl
theorem abN {c:Call} {f:FuncId} {xs:List X} (ho:o.op=.call c) (hc:tk P c=some (.call f xs)) (ht:aE φ ts a.tmps.toList):
 ∃args,aE φ (fi ts xs) args.toList/\(execOp a.eval o).run P w=.ok (.enter f args) w:=by
 unfold tk at hc;split at hc
 ·rename_i f' db;split at hc
  ·rename_i fn oM hf hx;split at hc
   ·rename_i hb;cases hc;simp only[Bool.and_eq_true,Bool.not_eq_true']at hb;refine⟨c.args.map a.eval,wB hx ht,?_⟩;have bU:fn.body.isNone=false:=by cases h:fn.body<;>simp_all
    simp only[execOp,ho,resolve,db,Act.eval,Deferred.ofValue,invoke,Sem.run_bind,Sem.run_pure,Result.andThen_ok];rw[G9 hf hb.2 bU];simp
   ·cases hc
  ·cases hc
 ·split at hc<;>cases hc
 ·split at hc<;>cases hc
 ·cases hc
def jF (P:Program) (f:FuncId):Bool:=
 match P.funcs[f]? with
 |some fn=>fn.body.isSome&&!(fn.name== "runtime.NumGoroutine")
 |none=>false
theorem abO {c:Call} {y:X} {xs:List X} {f:FuncId} {first captured:List SV} (ho:o.op=.call c) (hc:tk P c=some (.tj y xs)) (ht:aE φ ts a.tmps.toList)
 (hy:y.ev ts=.func f first captured) (hf:jF P f=true):
 ∃args,aE φ (first++(fi ts xs++captured)) args.toList/\(execOp a.eval o).run P w=.ok (.enter f args) w:=by
 unfold tk at hc;split at hc
 ·rename_i f' db;split at hc
  ·split at hc<;>cases hc
  ·cases hc
 ·rename_i x aP db;split at hc
  ·rename_i y' oM h1 h2;cases hc;have h3:=bF h1 ht;rw[hy]at h3;generalize hp:a.eval x=p at h3;cases h3 with
   |func q1 q2=>
    rename_i us vs;refine⟨us++c.args.map a.eval++vs,?_,?_⟩
    ·simp only[Array.toList_append,List.append_assoc];exact q1.append ((wB h2 ht).append q2)
    ·unfold jF at hf;split at hf
     ·rename_i fn hfn;simp only[Bool.and_eq_true,Bool.not_eq_true']at hf;have bU:fn.body.isNone=false:=by cases h:fn.body<;>simp_all
      simp only[execOp,ho,resolve,db,hp,Deferred.ofValue,invoke,Sem.run_bind,Sem.run_pure,Result.andThen_ok];rw[G9 hfn hf.2 bU]
     ·cases hf
  ·cases hc
 ·split at hc<;>cases hc
 ·cases hc
theorem aj7 {m:String} {t:TypeId} {f:FuncId} {u:Value} (h:Gl P m t=some f) (n:Nat):(method (n+1) t u m).run P w=.ok (f,u) w:=by
 unfold Gl at h;split at h
 ·cases h
 ·rename_i i hi;split at h
  ·cases h
  ·rename_i r hr;split at h
   ·rename_i f' e hp hf hu;cases h;simp[method,run_typeInfo w hi,hr,hp,hf,follow,receiverAt,run_underlying hu,Place.get]
   ·cases h
   ·rename_i f' d aP hp hf hu;cases h;have:∀e,d≠ .pointer e:=fun e h=>aP e h
    cases d<;>simp[method,run_typeInfo w hi,hr,hp,hf,follow,receiverAt,run_underlying hu,Place.get]
    ·exact absurd rfl (this _)
   ·cases h
theorem abT {c:Call} {y:X} {cH:TypeId->Option FuncId} {xs:List X} {t:TypeId} {x0:SV} {f:FuncId} (ho:o.op=.call c) (hc:tk P c=some (.inv y cH xs)) (ht:aE φ ts a.tmps.toList)
 (hy:y.ev ts=.iface t x0) (rp:cH t=some f) (hf:jF P f=true):
 ∃args,aE φ (x0::fi ts xs) args.toList/\(execOp a.eval o).run P w=.ok (.enter f args) w:=by
 unfold tk at hc;split at hc
 ·rename_i f' db;split at hc
  ·split at hc<;>cases hc
  ·cases hc
 ·split at hc<;>cases hc
 ·rename_i x m db;split at hc
  ·rename_i y' oM h1 h2;cases hc;have h3:=bF h1 ht;rw[hy]at h3;generalize hp:a.eval x=p at h3;cases h3 with
   |iface q1=>
    rename_i u;refine⟨#[u]++c.args.map a.eval,?_,?_⟩
    ·simp only[Array.toList_append];exact aE.append (.cons q1 .nil) (wB h2 ht)
    ·unfold jF at hf;split at hf
     ·rename_i fn hfn;simp only[Bool.and_eq_true,Bool.not_eq_true']at hf;have bU:fn.body.isNone=false:=by cases h:fn.body<;>simp_all
      have hm:=aj7 (P:=P) (w:=w) (u:=u) rp;have T7:(callMethod (.iface t u) m (c.args.map a.eval)).run P w=.ok (.enter f (#[u]++c.args.map a.eval)) w:=by
       simp only[callMethod,Sem.run_bind,run_program,Result.andThen_ok]
       rw[show P.types.size+Made.depth=(P.types.size+Made.depth-1)+1 by have:Made.depth≠0:=by decide
                                                                        omega]
       rw[hm];simp only[Result.andThen_ok];exact G9 hfn hf.2 bU
      have e0:(#[Value.iface t u]++c.args.map a.eval:Array Value)[0]? =some (Value.iface t u):=by
       rw[<-Array.getElem?_toList,Array.toList_append];rfl
      have e1:(#[Value.iface t u]++c.args.map a.eval).extract 1 (#[Value.iface t u]++c.args.map a.eval).size=c.args.map a.eval:=by
       apply Array.ext';simp[List.extract];exact List.take_of_length_le (by simp)
      simp only[execOp,ho,resolve,db,hp,invoke,Sem.run_bind,Sem.run_pure,Result.andThen_ok,e0,e1];exact T7
     ·cases hf
  ·cases hc
 ·cases hc
end
end
end Go.Sh
