/-
  The relation between a shadow heap and a world is kept by reads, writes and the first operations of the evaluator. No conditions beyond those that stand in the theorems.
-/
import Derived.Test.YtfgpklidnkdahaaGreatDoorShA1
import Derived.WalkKit
import Derived.IntWalk
set_option linter.all false
set_option maxHeartbeats 20000000
namespace Go.Sh
section
open Go.RowKit (Below)
structure Loc where
 rb:Nat
 base:Nat
 pA:Nat
 val:Value
abbrev aI:=Nat->Option Loc
def aI.le (φ ψ:aI):Prop:=∀b l,φ b=some l->ψ b=some l
theorem aI.le.refl (φ:aI):φ.le φ:=fun _ _ h=>h
theorem aI.le.trans {φ ψ χ:aI} (h:φ.le ψ) (k:ψ.le χ):φ.le χ:=fun b l e=>k b l (h b l e)
def aI.ins (φ:aI) (b:Nat) (l:Loc):aI:=fun x=>if x=b then some l else φ x
theorem aI.qi (φ:aI) (b:Nat) (l:Loc):φ.ins b l b=some l:=by simp[aI.ins]
theorem aI.sO {φ:aI} {b:Nat} {l:Loc} (h:φ b=none):φ.le (φ.ins b l):=by
 intro x m hx;unfold aI.ins;split
 ·rename_i e;subst e;rw[h]at hx;cases hx
 ·exact hx
def aI.ext (φ ψ:aI) (m:Nat):Prop:=φ.le ψ/\∀b l,ψ b=some l->φ b=some l\/m<=b
theorem aI.ext.refl (φ:aI) (m:Nat):φ.ext φ m:=⟨aI.le.refl φ,fun _ _ h=>.inl h⟩
theorem aI.ext.trans {φ ψ χ:aI} {m n:Nat} (h:φ.ext ψ m) (k:ψ.ext χ n) (hmn:m<=n):φ.ext χ m:=
 ⟨h.1.trans k.1,fun b l e=>by
  rcases k.2 b l e with h1|h1
  ·exact h.2 b l h1
  ·exact .inr (Nat.le_trans hmn h1)⟩
theorem aI.si {φ:aI} {b:Nat} {l:Loc} (h:φ b=none):φ.ext (φ.ins b l) b:=
 ⟨aI.sO h,fun x m hx=>by
  unfold aI.ins at hx;split at hx
  ·rename_i e;subst e;exact .inr (Nat.le_refl _)
  ·exact .inl hx⟩
def WO:Value->Bool
 |.slice _ _ _=>true
 |.int _ _=>true
 |_=>false
mutual
inductive VR (φ:aI):SV->Value->Prop where
 |bool (b:Bool):VR φ (.bool b) (.bool b)
 |int (k:IntKind) (n:Int):VR φ (.int k n) (.int k n)
 |str {l:List Nat} {s:ByteArray} (h:l=s.data.toList.map UInt8.toNat):VR φ (.str l) (.string s)
 |ptr {b o:Nat} {l:Loc} (h:φ b=some l):VR φ (.ptr b o) (.pointer (some ⟨l.rb,l.base+o,none⟩))
 |cM:VR φ .cM (.pointer none)
 |slice {b o n z cap:Nat} {c:Option Nat} {l:Loc} (h:φ b=some l) (hc:∀k,c=some k->cap=k) (hn:n<=cap)
  (ht:l.base+o+cap*z<=l.pA):VR φ (.slice b o n c z) (.slice (some ⟨l.rb,l.base+o,none⟩) n cap)
 |kQ {b o z:Nat} {c:Option Nat} {a:Addr} (hc:∀k,c=some k->k=0):VR φ (.slice b o 0 c z) (.slice (some a) 0 0)
 |ao:VR φ .ao (.slice none 0 0)
 |map {b:Nat} {l:Loc} (h:φ b=some l):VR φ (.map b) (.map (some l.rb))
 |lP:VR φ .lP (.map none)
 |func {f:FuncId} {xs ys:List SV} {us vs:Array Value} (h:aE φ xs us.toList) (k:aE φ ys vs.toList):VR φ (.func f xs ys) (.func (.func f) us vs)
 |lO:VR φ .lO .nilFunc
 |iface {t:TypeId} {x:SV} {v:Value} (h:VR φ x v):VR φ (.iface t x) (.iface t v)
 |lq:VR φ .lq .nilIface
 |agg {xs:List SV} {vs:Array Value} (h:aE φ xs vs.toList):VR φ (.agg xs) (.agg vs)
 |aJ {xs:List SV} {vs:Array Value} (h:aE φ xs vs.toList):VR φ (.aJ xs) (.tuple vs)
 |rM {b:Nat} {l:Loc} {v:Value} (h:φ b=some l) (hv:l.val=v) (h1:WO v=true):VR φ (.rM b) v
inductive aE (φ:aI):List SV->List Value->Prop where
 |nil:aE φ [] []
 |cons {x:SV} {v:Value} {xs:List SV} {vs:List Value} (h:VR φ x v) (t:aE φ xs vs):aE φ (x::xs) (v::vs)
end
theorem VR.mono {φ ψ:aI} (hle:φ.le ψ) {x:SV} {v:Value} (h:VR φ x v):VR ψ x v:=by
 refine VR.rec (motive_1:=fun x v _=>VR ψ x v) (motive_2:=fun xs vs _=>aE ψ xs vs) ?_ ?_ ?_ ?_ ?_ ?_ ?_ ?_ ?_ ?_ ?_ ?_ ?_ ?_ ?_ ?_ ?_ ?_ ?_ h
 ·exact fun b=>.bool b
 ·exact fun k n=>.int k n
 ·exact fun h=>.str h
 ·exact fun h=>.ptr (hle _ _ h)
 ·exact .cM
 ·exact fun h hc hn ht=>.slice (hle _ _ h) hc hn ht
 ·exact fun hc=>.kQ hc
 ·exact .ao
 ·exact fun h=>.map (hle _ _ h)
 ·exact .lP
 ·exact fun _ _ h k=>.func h k
 ·exact .lO
 ·exact fun _ h=>.iface h
 ·exact .lq
 ·exact fun _ h=>.agg h
 ·exact fun _ h=>.aJ h
 ·exact fun h hv h1=>.rM (hle _ _ h) hv h1
 ·exact .nil
 ·exact fun _ _ h k=>.cons h k
theorem aE.mono {φ ψ:aI} (hle:φ.le ψ):∀{xs:List SV} {vs:List Value},aE φ xs vs->aE ψ xs vs
 |_,_,.nil=>.nil
 |_,_,.cons h t=>.cons (h.mono hle) (aE.mono hle t)
theorem aE.length {φ:aI}:∀{xs:List SV} {vs:List Value},aE φ xs vs->xs.length=vs.length
 |_,_,.nil=>rfl
 |_,_,.cons _ t=>by simp[t.length]
theorem aE.get {φ:aI}:∀{xs:List SV} {vs:List Value},aE φ xs vs->∀(i:Nat) (x:SV),xs[i]? =some x->∃v,vs[i]? =some v/\VR φ x v
 |_,_,.nil,i,x,h=>by simp at h
 |_,_,.cons (v:=v) h t,0,x,e=>by simp at e;subst e;exact⟨v,rfl,h⟩
 |_,_,.cons h t,i+1,x,e=>by simpa using t.get i x (by simpa using e)
theorem aE.mk {φ:aI}:∀{xs:List SV} {vs:List Value},xs.length=vs.length->(∀(i:Nat) (x:SV),xs[i]? =some x->∃v,vs[i]? =some v/\VR φ x v)->aE φ xs vs
 |[],[],_,_=>.nil
 |[],_::_,h,_=>by simp at h
 |_::_,[],h,_=>by simp at h
 |x::xs,v::vs,h,k=>by
  obtain⟨u,hu,hr⟩:=k 0 x rfl;simp at hu;subst hu;exact .cons hr (aE.mk (by simpa using h) fun i y hy=>by simpa using k (i+1) y (by simpa using hy))
theorem aE.append {φ:aI}:∀{xs:List SV} {vs:List Value} {ys:List SV} {us:List Value},aE φ xs vs->aE φ ys us->aE φ (xs++ys) (vs++us)
 |_,_,_,_,.nil,k=>k
 |_,_,_,_,.cons h t,k=>.cons h (t.append k)
theorem aE.take {φ:aI}:∀{xs:List SV} {vs:List Value} (n:Nat),aE φ xs vs->aE φ (xs.take n) (vs.take n)
 |_,_,0,_=>by simpa using .nil
 |_,_,_+1,.nil=>by simpa using .nil
 |_,_,n+1,.cons h t=>.cons h (t.take n)
theorem aE.drop {φ:aI}:∀{xs:List SV} {vs:List Value} (n:Nat),aE φ xs vs->aE φ (xs.drop n) (vs.drop n)
 |_,_,0,h=>by simpa using h
 |_,_,_+1,.nil=>by simpa using .nil
 |_,_,n+1,.cons _ t=>by simpa using t.drop n
theorem VR.one {φ:aI} {x:SV} {v:Value} (h:VR φ x v) (hx:x.one=true):v.oneCell'=true:=by
 cases h
 case rM ho=>cases v<;>first|rfl|cases ho
 all_goals first|rfl|simp[SV.one]at hx
theorem aE.one {φ:aI}:∀{xs:List SV} {vs:List Value},aE φ xs vs->xs.all SV.one=true->∀v∈vs,v.oneCell'=true
 |_,_,.nil,_,v,h=>by simp at h
 |_,_,.cons h t,k,v,hv=>by
  simp only[List.all_cons,Bool.and_eq_true]at k;rcases List.mem_cons.1 hv with rfl|hv
  ·exact h.one k.1
  ·exact t.one k.2 v hv
theorem aE.abz {φ:aI} {b:Nat} {l:Loc} {v:Value} (h:φ b=some l) (hv:l.val=v) (h1:WO v=true):aE φ [.rM b] v.cells.toList:=by
 have e:v.cells=#[v]:=by
  cases v<;>first|rfl|cases h1
 rw[e];exact .cons (.rM h hv h1) .nil
theorem VR.cells {φ:aI} {x:SV} {v:Value} (h:VR φ x v):aE φ x.cells v.cells.toList:=by
 cases h with
 |agg h=>exact h
 |rM h1 h2 h3=>exact aE.abz h1 h2 h3
 |_=>exact .cons (by constructor<;>assumption) .nil
inductive OR (φ:aI) (B:Nat) (w:World) (l:Loc):Option cz->Prop where
 |none:OR φ B w l none
 |dead:OR φ B w l (some .dead)
 |row {cs:List SV} {e:TypeId} {ex ro:Bool} {frz:Nat} {C:Array Value} {lo hi:Nat}
  (hb:w.heap[l.rb]? =some (.cells C e (lo,hi))) (hs:C.size=l.pA)
  (hc:∀(i:Nat) (x:SV),cs[i]? =some x->∃v,C[l.base+i]? =some v/\VR φ x v)
  (hl:l.base+cs.length<=l.pA)
  (hex:ex=true->l.base=0/\l.pA=cs.length)
  (iU:ro=false->B<=l.rb)
  (jh:ro=false->∀i,l.base+frz<=i->(i<l.pA\/ex=true)->¬(lo<=i/\i<hi)):OR φ B w l (some (.row cs e ex ro frz))
 |map {es:List (SV×SV×Nat)} {ek:Array MapEntry} {ck:Nat}
  (hb:w.heap[l.rb]? =some (.map ek ck)) (hl:es.length=ek.size)
  (hc:∀(i:Nat) (k v:SV) (n:Nat),es[i]? =some (k,v,n)->∃e,ek[i]? =some e/\VR φ k e.key/\VR φ v e.val/\e.born=n)
  (hB:B<=l.rb):OR φ B w l (some (.map es ck))
 |ko {s:List Nat} {t:ByteArray} {p:Nat} (hb:w.heap[l.rb]? =some (.stringIter t p)) (hs:s=t.data.toList.map UInt8.toNat) (hB:B<=l.rb) (h0:l.base=0):OR φ B w l (some (.ko s p))
def live:Option cz->Prop
 |some .dead=>False
 |none=>False
 |_=>True
structure HR (φ:aI) (B:Nat) (H:ag) (w:World):Prop where
 dD:∀b l,φ b=some l->b<H.next/\l.rb<w.heap.size
 inj:∀b b' l l',φ b=some l->φ b'=some l'->l.rb=l'.rb->live (H.get b)->live (H.get b')->b=b'
 obj:∀b l,φ b=some l->OR φ B w l (H.get b)
 sz:B<=w.heap.size
theorem OR.mono {φ ψ:aI} (hle:φ.le ψ) {B:Nat} {w w':World} {l:Loc} {o:Option cz} (h:OR φ B w l o) (hw:w'.heap[l.rb]? =w.heap[l.rb]?):OR ψ B w' l o:=by
 cases h with
 |none=>exact .none
 |dead=>exact .dead
 |row hb hs hc hl hex iU jh=>exact .row (hw.trans hb) hs (fun i x hx=>let ⟨v,h1,h2⟩:=hc i x hx;⟨v,h1,h2.mono hle⟩) hl hex iU jh
 |map hb hl hc hB=>exact .map (hw.trans hb) hl (fun i k v n hx=>let ⟨e,h1,h2,h3,h4⟩:=hc i k v n hx;⟨e,h1,h2.mono hle,h3.mono hle,h4⟩) hB
 |ko hb hs hB h0=>exact .ko (hw.trans hb) hs hB h0
theorem HR.fresh {φ:aI} {B:Nat} {H:ag} {w:World} (h:HR φ B H w):φ H.next=none:=by
 cases e:φ H.next with
 |none=>rfl
 |some l=>exact absurd (h.dD _ _ e).1 (Nat.lt_irrefl _)
theorem HR.world {φ:aI} {B:Nat} {H:ag} {w w':World} (h:HR φ B H w) (hs:w.heap.size<=w'.heap.size) (hw:∀k,k<w.heap.size->w'.heap[k]? =w.heap[k]?):HR φ B H w' where
 dD b l e:=⟨(h.dD b l e).1,Nat.lt_of_lt_of_le (h.dD b l e).2 hs⟩
 inj:=h.inj
 obj b l e:=(h.obj b l e).mono (aI.le.refl φ) (hw _ (h.dD b l e).2)
 sz:=Nat.le_trans h.sz hs
theorem HR.push {φ:aI} {B:Nat} {H:ag} {w w':World} (h:HR φ B H w) {so:cz} {o:Obj} {l:Loc} (hl:l.rb=w.heap.size)
 (hs:w'.heap.size=w.heap.size+1) (hw:∀k,k<w.heap.size->w'.heap[k]? =w.heap[k]?)
 (ho:w'.heap[w.heap.size]? =some o->OR (φ.ins H.next l) B w' l (some so)) (hn:w'.heap[w.heap.size]? =some o):
 HR (φ.ins H.next l) B (H.push so) w' where
 dD b m e:=by
  unfold aI.ins at e;split at e
  ·cases e;subst_vars;simp only[ag.push];omega
  ·have:=h.dD b m e;simp only[ag.push];omega
 inj b b' m m' e e' hr hb dP:=by
  unfold aI.ins at e e';split at e<;>split at e'
  ·subst_vars;rfl
  ·cases e;have:=(h.dD _ _ e').2;omega
  ·cases e';have:=(h.dD _ _ e).2;omega
  ·rename_i n n';rw[ag.mU,if_neg n]at hb;rw[ag.mU,if_neg n']at dP;exact h.inj b b' m m' e e' hr hb dP
 obj b m e:=by
  unfold aI.ins at e;split at e
  ·rename_i eb;cases e;rw[ag.mU,if_pos eb];exact ho hn
  ·rename_i n;rw[ag.mU,if_neg n];exact(h.obj b m e).mono (aI.sO h.fresh) (hw _ (h.dD b m e).2)
 sz:=by have:=h.sz;omega
theorem HR.change {φ:aI} {B:Nat} {H:ag} {w w':World} (h:HR φ B H w) {b:Nat} {l:Loc} (hb:φ b=some l) (np:live (H.get b)) {so:cz}
 (hs:w'.heap.size=w.heap.size) (hw:∀k,k≠l.rb->w'.heap[k]? =w.heap[k]?)
 (ho:OR φ B w' l (some so)):HR φ B (H.put b so) w' where
 dD c m e:=by have:=h.dD c m e;simp only[ag.put];omega
 inj c c' m m' e e' hr hc fk:=by
  rw[ag.mV]at hc fk;refine h.inj c c' m m' e e' hr ?_ ?_
  ·by_cases k:c=b
   ·rw[k];exact np
   ·rwa[if_neg k]at hc
  ·by_cases k:c'=b
   ·rw[k];exact np
   ·rwa[if_neg k]at fk
 obj c m e:=by
  rw[ag.mV];split
  ·rename_i k;subst k;rw[hb]at e;cases e;exact ho
  ·rename_i k;by_cases hr:m.rb=l.rb
   ·cases hg:H.get c with
    |none=>exact .none
    |some o=>
     cases o with
     |dead=>exact .dead
     |_=>exact absurd (h.inj c b m l e hb hr (by rw[hg];trivial) np) k
   ·exact(h.obj c m e).mono (aI.le.refl φ) (hw _ hr)
 sz:=by have:=h.sz;omega
end
section
open Go.RowKit (Below)
def rQ (C:Array Value):Nat->List Value->Array Value
 |_,[]=>C
 |o,v::r=>rQ (C.setIfInBounds o v) (o+1) r
theorem OH:∀(vs:List Value) (C:Array Value) (o:Nat),(rQ C o vs).size=C.size
 |[],_,_=>rfl
 |v::r,C,o=>by rw[rQ,OH r];simp
theorem Hy:∀(vs:List Value) (C:Array Value) (o i:Nat),o+vs.length<=C.size->(rQ C o vs)[i]? =if o<=i/\i<o+vs.length then vs[i-o]? else C[i]?
 |[],C,o,i,_=>by
  have:¬(o<=i/\i<o+([]:List Value).length):=by simp
  rw[if_neg this];rfl
 |v::r,C,o,i,h=>by
  simp only[List.length_cons]at h ⊢;rw[rQ,Hy r _ (o+1) i (by simp;omega),Array.getElem?_setIfInBounds];by_cases e:o=i
  ·subst e;rw[if_neg om,if_pos rfl,if_pos om,if_pos om];simp
  ·by_cases g:o+1<=i/\i<o+1+r.length
   ·rw[if_pos g,if_pos om];obtain⟨k,rfl⟩:∃k,i=o+1+k:=⟨i-(o+1),by omega⟩;rw[show o+1+k-(o+1)=k by omega,show o+1+k-o=k+1 by omega];simp
   ·rw[if_neg g,if_neg e,if_neg om]
theorem World.LK (b k:Nat) (h:k≠b):∀(vs:List Value) (o:Nat) (w:World),(w.setCells b o vs).heap[k]? =w.heap[k]?
 |[],_,_=>rfl
 |v::r,o,w=>by rw[World.setCells,World.LK b k h r];exact Below.heap_setCell _ _ _ _ h
theorem World.LL (b:Nat):∀(vs:List Value) (o:Nat) (w:World) (C:Array Value) (e:TypeId) (f:Nat×Nat),w.heap[b]? =some (.cells C e f)->
 (w.setCells b o vs).heap[b]? =some (.cells (rQ C o vs) e f)
 |[],_,_,_,_,_,h=>h
 |v::r,o,w,C,e,f,h=>by
  rw[World.setCells,rQ];refine World.LL b r (o+1) _ _ e f ?_;simp[World.setCell,Array.getElem?_modify,h]
theorem World.HF (b:Nat):∀(vs:List Value) (o:Nat) (w:World),(w.setCells b o vs).heap.size=w.heap.size
 |[],_,_=>rfl
 |v::r,o,w=>by rw[World.setCells,World.HF b r];simp
theorem Below.setCells {B b:Nat} (hB:B<=b):∀(vs:List Value) (o:Nat) (w:World),Below B w (w.setCells b o vs)
 |[],_,w=>Below.refl B w
 |v::r,o,w=>by rw[World.setCells];exact((Below.refl B w).setCell hB v).trans (Below.setCells hB r (o+1) _)
theorem wy (w:World) (b o:Nat) (C:Array Value) (e:TypeId) (f:Nat×Nat) (h:w.heap[b]? =some (.cells C e f)):w.cell? ⟨b,o,none⟩=C[o]? :=by
 simp[World.cell?,h]
theorem S9 (w:World) (b o:Nat) (C:Array Value) (e:TypeId) (lo hi:Nat) (h:w.heap[b]? =some (.cells C e (lo,hi))):w.frozen? ⟨b,o,none⟩=(decide (lo<=o)&&decide (o<hi)):=by
 simp[World.frozen?,h]
theorem aE.WG {φ:aI} {cs:List SV} {C:Array Value} {base o n:Nat} (hc:∀(i:Nat) (x:SV),cs[i]? =some x->∃v,C[base+i]? =some v/\VR φ x v) (hn:o+n<=cs.length) (hs:base+cs.length<=C.size):
 aE φ ((cs.drop o).take n) ((C.toList.drop (base+o)).take n):=by
 refine aE.mk ?_ fun i x hx=>?_
 ·simp;omega
 ·rw[List.getElem?_take]at hx ⊢;split at hx
  ·rename_i hi;rw[List.getElem?_drop]at hx;obtain⟨v,hv,hr⟩:=hc _ _ hx;exact⟨v,by rw[if_pos hi,List.getElem?_drop,Array.getElem?_toList,Nat.add_assoc];exact hv,hr⟩
  ·cases hx
theorem ym {H H':ag} {b o:Nat} {vs:List SV} (h:gN H b o vs=some H'):H'.next=H.next:=by
 unfold gN at h;split at h
 ·split at h
  ·cases h;rfl
  ·cases h
 ·cases h
section
variable {φ:aI} {B:Nat} {H H':ag} {w:World} {b o n:Nat} {l:Loc} {cs:List SV}
theorem HR.load (hh:HR φ B H w) (hl:φ b=some l) (h:eK H b o n=some cs):
 ∃vs:List Value,aE φ cs vs/\vs.length=n/\(∀(j:Nat) (v:Value),vs[j]? =some v->w.cell? ⟨l.rb,l.base+o+j,none⟩=some v)/\l.base+o+n<=l.pA:=by
 have ho:=hh.obj b l hl;unfold eK at h;split at h
 ·rename_i xs e ex ro frz hg;rw[hg]at ho;cases ho with
  |row hb hs hc hlen hex iU jh=>
   rename_i C lo hi;split at h
   ·rename_i hle;cases h;have aeJ:=Nat.le_of_ble_eq_true hle;refine⟨_,aE.WG hc aeJ om,by simp;omega,fun j v hv=>?_,by omega⟩;rw[wy w _ _ C e _ hb];rw[List.getElem?_take]at hv;split at hv
    ·rw[List.getElem?_drop,Array.getElem?_toList]at hv;exact hv
    ·cases hv
   ·cases h
 ·cases h
theorem HR.ND {xs:List SV} {e:TypeId} {ex ro:Bool} {frz:Nat} (h:H.get b=some (.row xs e ex ro frz)):live (H.get b):=by rw[h];trivial
theorem HR.store (hh:HR φ B H w) (hl:φ b=some l) (h:gN H b o cs=some H') {vs:List Value} (hv:aE φ cs vs):
 (∀j,j<vs.length->(w.cell? ⟨l.rb,l.base+o+j,none⟩).isSome=true)/\(∀j,j<vs.length->w.frozen? ⟨l.rb,l.base+o+j,none⟩=false)/\(∀v∈vs,v.oneCell'=true)/\
 HR φ B H' (w.setCells l.rb (l.base+o) vs)/\Below B w (w.setCells l.rb (l.base+o) vs):=by
 have ho:=hh.obj b l hl;unfold gN at h;split at h
 ·rename_i xs e ex frz hg;have np:=HR.ND hg;rw[hg]at ho;cases ho with
  |row hb hs hc hlen hex iU jh=>
   rename_i C lo hi;split at h
   ·rename_i mu;cases h;simp only[Bool.and_eq_true]at mu;obtain⟨⟨hle,hf⟩,bV⟩:=mu;have hle:=Nat.le_of_ble_eq_true hle;have hf:=Nat.le_of_ble_eq_true hf;have xA:=hv.length;have hB:=iU rfl;refine⟨fun j hj=>?_,fun j hj=>?_,hv.one bV,?_,Below.setCells hB _ _ _⟩
    ·rw[wy w _ _ C e _ hb];simp;omega
    ·rw[S9 w _ _ C e lo hi hb];have:=jh rfl (l.base+o+j) om (.inl om);simp at this ⊢;omega
    ·refine hh.change hl np (World.HF _ _ _ _) (fun k hk=>World.LK _ _ hk _ _ _) ?_;have dP:=World.LL l.rb vs (l.base+o) w C e (lo,hi) hb;refine .row dP (by rw[OH,hs]) (fun i x hx=>?_) ?_ ?_ iU jh
     ·rw[Hy _ _ _ _ om];rw[List.getElem?_append]at hx;split at hx
      ·rename_i gf;rw[List.getElem?_take]at hx;simp only[List.length_take]at gf;rw[if_pos om]at hx;rw[if_neg om];exact hc i x hx
      ·rename_i gf;simp only[List.length_take]at gf hx;rw[List.getElem?_append]at hx;split at hx
       ·rename_i FG;rw[if_pos om];obtain⟨v,h1,h2⟩:=hv.get _ _ hx;exact⟨v,by rw[<-h1];congr 1;omega,h2⟩
       ·rename_i FG;rw[List.getElem?_drop]at hx;rw[if_neg om];obtain⟨v,h1,h2⟩:=hc _ _ hx;exact⟨v,by rw[<-h1];congr 1;omega,h2⟩
     ·simp;omega
     ·intro hx;obtain⟨h1,h2⟩:=hex hx;exact⟨h1,by simp;omega⟩
   ·cases h
 ·cases h
theorem HR.alloc (hh:HR φ B H w) {vs:Array Value} {e:TypeId} (hv:aE φ cs vs.toList):
 HR (φ.ins H.next ⟨w.heap.size,0,vs.size,.bool false⟩) B (H.push (.row cs e true false 0)) (w.alloc (.cells vs e))/\Below B w (w.alloc (.cells vs e)):=by
 refine⟨hh.push (l:=⟨w.heap.size,0,vs.size,.bool false⟩) (o:=.cells vs e) rfl (by simp) (fun k hk=>Below.heap_alloc _ _ _ hk) (fun hn=>?_) (heap_alloc_new w _),(Below.refl _ _).alloc hh.sz _⟩;have hlen:=hv.length;simp only[Array.length_toList]at hlen;refine .row (lo:=0) (hi:=0) hn rfl (fun i x hx=>?_) (by simp[hlen]) (fun _=>⟨rfl,hlen.symm⟩) (fun _=>hh.sz) (fun _ i _ _=>by omega);obtain⟨v,h1,h2⟩:=hv.get i x hx;exact⟨v,by simpa using h1,h2.mono (aI.sO hh.fresh)⟩
theorem HR.Rq (hh:HR φ B H w) {vs:Array Value} {us:List Value} {e:TypeId} (hv:aE φ cs us) (uh:∀(i:Nat) (v:Value),us[i]? =some v->vs[i]? =some v) (dY:us.length<=vs.size) {w0:World} (ny:w0.heap=w.heap) (gT:Below B w w0):
 HR (φ.ins H.next ⟨w.heap.size,0,vs.size,.bool false⟩) B (H.push (.row cs e false false 0)) (w0.alloc (.cells vs e))/\Below B w (w0.alloc (.cells vs e)):=by
 have MK:w0.heap.size=w.heap.size:=by rw[ny]
 refine⟨hh.push (l:=⟨w.heap.size,0,vs.size,.bool false⟩) (o:=.cells vs e) rfl (by simp[MK]) (fun k hk=>by rw[Below.heap_alloc _ _ _ om,ny]) (fun hn=>?_) (by rw[<-MK];exact heap_alloc_new w0 _),gT.alloc (by rw[MK];exact hh.sz) _⟩;have hlen:=hv.length;refine .row (lo:=0) (hi:=0) hn rfl (fun i x hx=>?_) (by simp;omega) (fun h=>by cases h) (fun _=>hh.sz) (fun _ i _ _=>by omega);obtain⟨v,h1,h2⟩:=hv.get i x hx;exact⟨v,by simpa using uh i v h1,h2.mono (aI.sO hh.fresh)⟩
theorem HR.frz {ψ:aI} {cs:List SV} {e:TypeId} {frz:Nat} (h:HR ψ B (H.push (.row cs e false false 0)) w):HR ψ B (H.push (.row cs e false false frz)) w where
 dD:=h.dD
 inj b b' l l' e1 e2 hr hb dP:=by
  have key:∀c,live ((H.push (.row cs e false false frz)).get c)->live ((H.push (.row cs e false false 0)).get c):=by
   intro c hc;rw[ag.mU]at hc ⊢;split at hc
   ·rw[if_pos ‹_›];trivial
   ·rw[if_neg ‹_›];exact hc
  exact h.inj b b' l l' e1 e2 hr (key _ hb) (key _ dP)
 obj b l e1:=by
  have:=h.obj b l e1;rw[ag.mU]at this ⊢;split at this
  ·rw[if_pos ‹_›];cases this with
   |row hb hs hc hl hex iU jh=>exact .row hb hs hc hl (fun h=>by cases h) iU (fun h0 i h1 h2=>jh h0 i om (h2.elim .inl (fun h=>by cases h)))
  ·rw[if_neg ‹_›];exact this
 sz:=h.sz
end
end
section
open Go.RowKit (Below)
theorem NI {α β:Type} {f:α->Option β}:∀{xs:List α} {ys:List β},cj f xs=some ys->xs.length=ys.length/\∀(i:Nat) (x:α),xs[i]? =some x->∃y,ys[i]? =some y/\f x=some y
 |[],ys,h=>by simp[cj]at h;subst h;simp
 |x::xs,ys,h=>by
  simp only[cj]at h;split at h
  ·rename_i y hy;split at h
   ·rename_i zs hz;cases h;obtain⟨h1,h2⟩:=NI hz;refine⟨by simp[h1],fun i x' hx=>?_⟩;cases i with
    |zero=>simp at hx;subst hx;exact⟨y,rfl,hy⟩
    |succ i=>simpa using h2 i x' (by simpa using hx)
   ·cases h
  ·cases h
theorem aE.C4 {φ:aI} {f:Value->Option SV} (hf:∀v x,f v=some x->VR φ x v):∀{vs:List Value} {xs:List SV},cj f vs=some xs->aE φ xs vs
 |[],xs,h=>by simp[cj]at h;subst h;exact .nil
 |v::vs,xs,h=>by
  simp only[cj]at h;split at h
  ·rename_i y hy;split at h
   ·rename_i zs hz;cases h;exact .cons (hf _ _ hy) (aE.C4 hf hz)
   ·cases h
  ·cases h
theorem wE {φ:aI}:∀(n:Nat) (v:Value) (x:SV),cv n v=some x->VR φ x v
 |0,v,x,h=>by simp[cv]at h
 |n+1,v,x,h=>by
  unfold cv at h;split at h
  ·cases h;exact .bool _
  ·cases h;exact .int _ _
  ·cases h;exact .str rfl
  ·cases h;exact .cM
  ·cases h;exact .ao
  ·cases h;exact .lP
  ·cases h;exact .lO
  ·cases h;exact .lq
  ·split at h
   ·cases h;rename_i hx;exact .iface (wE n _ _ hx)
   ·cases h
  ·split at h
   ·cases h;rename_i hx;exact .agg (aE.C4 (wE n) hx)
   ·cases h
  ·split at h
   ·cases h;rename_i hx;exact .aJ (aE.C4 (wE n) hx)
   ·cases h
  ·split at h
   ·cases h;rename_i hx hy;exact .func (aE.C4 (wE n) hx) (aE.C4 (wE n) hy)
   ·cases h
  ·cases h
theorem VR.undef (φ:aI):VR φ SV.undef Go.undef:=.aJ .nil
theorem bF {φ:aI} {x:Operand} {y:X} (h:aR x=some y) {ts:T} {a:Act} (ht:aE φ ts a.tmps.toList):VR φ (y.ev ts) (a.eval x):=by
 cases x with
 |tmp t=>
  simp only[aR]at h;cases h;simp only[X.ev,Act.eval];by_cases hl:t<ts.length
  ·obtain⟨v,hv,hr⟩:=ht.get t ts[t] (List.getElem?_eq_getElem hl);simp only[Array.getElem?_toList]at hv;simpa[List.getD,List.getElem?_eq_getElem hl,hv]using hr
  ·have lg:¬t<a.tmps.size:=by
    have e:List.length ts=a.tmps.size:=ht.length.trans (by simp);intro hx;exact hl (by rw[e];exact hx)
   simp[List.getD,List.getElem?_eq_none (Nat.le_of_not_lt hl),Array.getElem?_eq_none (Nat.le_of_not_lt lg)];exact VR.undef φ
 |const v=>
  simp only[aR]at h;split at h
  ·cases h;rename_i hx;exact wE _ _ _ hx
  ·cases h
 |global g=>simp[aR]at h
 |func f=>simp only[aR]at h;cases h;exact .func .nil .nil
theorem wB {φ:aI} {xs:Array Operand} {ys:List X} (h:qD xs=some ys) {ts:T} {a:Act} (ht:aE φ ts a.tmps.toList):aE φ (fi ts ys) (xs.map a.eval).toList:=by
 unfold qD at h;obtain⟨l,hl⟩:∃l,xs.toList=l:=⟨_,rfl⟩;rw[hl]at h;have:(xs.map a.eval).toList=l.map a.eval:=by simp[hl]
 rw[this];clear this hl
 induction l generalizing ys with
 |nil=>simp[cj]at h;subst h;exact .nil
 |cons x l ih=>
  simp only[cj]at h;split at h
  ·rename_i y hy;split at h
   ·rename_i zs hz;cases h;exact .cons (bF hy ht) (ih hz)
   ·cases h
  ·cases h
def aK (P:Program) (φ:aI) (B:Nat) (H:ag) (w:World) (s:Sem Next) (v:SV) (H':ag):Prop:=
 H.next<=H'.next/\∃bh nx u w',φ.ext bh H.next/\s.run P w=.ok nx w'/\(nx=.value u\/(nx=.skip/\u=Go.undef))/\VR bh v u/\HR bh B H' w'/\Below B w w'
theorem aK.pure {P:Program} {φ:aI} {B:Nat} {w:World} {s:Sem Next} {v:SV} {u:Value} {H:ag} (hr:s.run P w=.ok (.value u) w) (hv:VR φ v u) (hh:HR φ B H w):aK P φ B H w s v H:=
 ⟨Nat.le_refl _,φ,_,u,w,aI.ext.refl φ _,hr,.inl rfl,hv,hh,Below.refl _ _⟩
theorem eD {P:Program} {w w':World} {s:Sem Value} {u:Value} (h:s.run P w=.ok u w'):(do pure (Next.value (<-s)):Sem Next).run P w=.ok (.value u) w':=by
 simp[h]
structure fq (P:Program) (t:TypeId) (i:TI):Prop where
 ex:∃(info:TypeInfo) (d:TypeDesc) (z:Value),P.info? t=some info/\P.underlying t=some d/\info.zero=some z/\info.size=i.size/\info.bytes=i.bytes/\
  i.agg=(match d with|.struct _=>true|.array _ _=>true|_=>false)/\(∀φ,VR φ i.zeroV z)
 zero:i.zero=i.zeroV.cells
 len:i.zero.length=i.size
 pos:0<i.size
 one:i.zero.all SV.one=true
theorem gZ {P:Program} {t:TypeId} {i:TI} (h:iu P t=some i):fq P t i:=by
 unfold iu at h;split at h
 ·cases h
 ·rename_i info hi;split at h
  ·cases h
  ·rename_i d hd;split at h
   ·cases h
   ·rename_i z hz;split at h
    ·cases h
    ·rename_i z' hz';dsimp only at h;split at h
     ·rename_i hb;cases h;simp only[Bool.and_eq_true]at hb;obtain⟨⟨h1,h2⟩,h3⟩:=hb;exact⟨⟨info,d,z,hi,hd,hz,rfl,rfl,rfl,fun φ=>wE _ _ _ hz'⟩,rfl,Nat.eq_of_beq_eq_true h1,by simpa[Nat.blt_eq]using h2,h3⟩
     ·cases h
section
variable {P:Program} {w:World}
theorem fq.run_sizeOf {t:TypeId} {i:TI} (h:fq P t i) (w:World):(sizeOf t).run P w=.ok i.size w:=by
 obtain⟨info,d,z,hi,hd,hz,hs,hb,ha,hv⟩:=h.ex;simp[sizeOf,typeInfo,hi,hs]
theorem fq.De {t:TypeId} {i:TI} (h:fq P t i) (w:World):(isAgg t).run P w=.ok i.agg w:=by
 obtain⟨info,d,z,hi,hd,hz,hs,hb,ha,hv⟩:=h.ex;simp only[isAgg,Sem.run_bind,run_underlying hd,Result.andThen_ok,ha];cases d<;>rfl
theorem fq.yh {t:TypeId} {i:TI} (h:fq P t i) (w:World):∃z,(∀φ,VR φ i.zeroV z)/\(zeroValue t).run P w=.ok z w:=by
 obtain⟨info,d,z,hi,hd,hz,hs,hb,ha,hv⟩:=h.ex;exact⟨z,hv,by simp[zeroValue,typeInfo,hi,hz]⟩
theorem fq.XH {t:TypeId} {i:TI} (h:fq P t i) (w:World) {φ:aI} {cs:List SV} {vs:Array Value} {off:Nat} {v:SV} (hv:aE φ cs vs.toList)
 (hp:qp i.agg i.size off cs=some v):∃u,(part t vs off).run P w=.ok u w/\VR φ v u:=by
 unfold qp at hp;simp only[part,Sem.run_bind,h.De,Result.andThen_ok];cases hg:i.agg with
 |true=>
  rw[hg]at hp;simp only[Option.some.injEq]at hp;subst hp;refine⟨_,by simp[h.run_sizeOf];rfl,.agg ?_⟩;have:=(hv.drop off).take i.size;simpa[Array.toList_extract,List.extract,List.drop_take,Nat.add_sub_cancel_left]using this
 |false=>
  rw[hg]at hp;obtain⟨u,hu,hr⟩:=hv.get _ _ hp;simp only[Array.getElem?_toList]at hu;exact⟨u,by simp[hu],hr⟩
end
section
variable {P:Program} {φ:aI} {B:Nat} {H H':ag} {w:World} {ts:T} {a:Act} {o:Oper} {v:SV}
theorem WN {x:Operand} {y:X} (hc:aR x=some y) (ho:o.op=.move x\/o.op=.assign x) (ht:aE φ ts a.tmps.toList) (hh:HR φ B H w)
 (he:evalOp (.mv y) ts H=some (v,H')):aK P φ B H w (execOp a.eval o) v H':=by
 simp only[evalOp,Option.some.injEq,Prod.mk.injEq]at he;obtain⟨rfl,rfl⟩:=he;refine aK.pure (u:=a.eval x) ?_ (bF hc ht) hh;rcases ho with ho|ho<;>simp[execOp,ho]
theorem ahY {c x y:Operand} {c' x' y':X} (hc:aR c=some c') (hx:aR x=some x') (hy:aR y=some y') (ho:o.op=.pick c x y) (ht:aE φ ts a.tmps.toList) (hh:HR φ B H w)
 (he:evalOp (.pick c' x' y') ts H=some (v,H')):aK P φ B H w (execOp a.eval o) v H':=by
 simp only[evalOp]at he;have h1:=bF hc ht;have h2:=bF hx ht;have h3:=bF hy ht;split at he
 ·rename_i hb;cases he;rw[hb]at h1;generalize hg:a.eval c=u at h1;cases h1;exact aK.pure (u:=a.eval x) (by simp[execOp,ho,hg,asBool]) h2 hh
 ·rename_i hb;cases he;rw[hb]at h1;generalize hg:a.eval c=u at h1;cases h1;exact aK.pure (u:=a.eval y) (by simp[execOp,ho,hg,asBool]) h3 hh
 ·cases he
theorem ahW {x:Operand} {y:X} (hc:aR x=some y) (ho:o.op=.nilCheck x) (ht:aE φ ts a.tmps.toList) (hh:HR φ B H w)
 (he:evalOp (.jk y) ts H=some (v,H')):aK P φ B H w (execOp a.eval o) v H':=by
 have h1:=bF hc ht;simp only[evalOp]at he;split at he
 ·cases he
 ·cases he
 ·cases he
 ·cases he
 ·rename_i n1 n2 n3 n4;simp only[Option.some.injEq,Prod.mk.injEq]at he;obtain⟨rfl,rfl⟩:=he;refine aK.pure (u:=a.eval x) ?_ h1 hh;simp only[execOp,ho];generalize a.eval x=u at h1 ⊢;generalize y.ev ts=s at h1 n1 n2 n3 n4;cases h1<;>first|rfl|exact absurd rfl n1|exact absurd rfl n2|exact absurd rfl n3|exact absurd rfl (n4 _)
theorem ahS {t:TypeId} {x:Operand} {y:X} {d:TypeDesc} (hd:P.underlying t=some d) (sH:∀ms,d≠ .interface ms) (hc:aR x=some y) (ho:o.op=.makeInterface t x) (ht:aE φ ts a.tmps.toList) (hh:HR φ B H w)
 (he:evalOp (.Ac t y) ts H=some (v,H')):aK P φ B H w (execOp a.eval o) v H':=by
 have h1:=bF hc ht;simp only[evalOp,Option.some.injEq,Prod.mk.injEq]at he;obtain⟨rfl,rfl⟩:=he;refine aK.pure (u:=.iface t (a.eval x)) ?_ (.iface h1) hh;simp only[execOp,ho];refine eD ?_;simp only[Instr.makeInterface,Sem.run_bind,run_underlying hd,Result.andThen_ok];cases d<;>first|rfl|exact absurd rfl (sH _)
theorem ahR {f:FuncId} {xs ys:Array Operand} {us vs:List X} (hx:qD xs=some us) (hy:qD ys=some vs) (ho:o.op=.makeFunc (.func f) xs ys) (ht:aE φ ts a.tmps.toList) (hh:HR φ B H w)
 (he:evalOp (.vF f us vs) ts H=some (v,H')):aK P φ B H w (execOp a.eval o) v H':=by
 simp only[evalOp,Option.some.injEq,Prod.mk.injEq]at he;obtain⟨rfl,rfl⟩:=he;exact aK.pure (by simp[execOp,ho,Instr.makeFunc]<;>rfl) (.func (wB hx ht) (wB hy ht)) hh
theorem ahE {x:Operand} {y:X} {i:Nat} (hc:aR x=some y) (ho:o.op=.extract x i) (ht:aE φ ts a.tmps.toList) (hh:HR φ B H w)
 (he:evalOp (.ext i y) ts H=some (v,H')):aK P φ B H w (execOp a.eval o) v H':=by
 have h1:=bF hc ht;simp only[evalOp]at he;split at he
 ·rename_i vs hb;rw[hb]at h1;split at he
  ·rename_i x' eX;cases he;generalize hg:a.eval x=u at h1;cases h1 with
   |aJ hv=>
    obtain⟨u,hu,hr⟩:=hv.get _ _ eX;simp only[Array.getElem?_toList]at hu;exact aK.pure (u:=u) (by simp[execOp,ho,hg,Instr.extract,hu]) hr hh
  ·cases he
 ·cases he
theorem ah6 {op:UnOp} {t:TypeId} {x:Operand} {y:X} (hc:aR x=some y) (ho:o.op=.unOp op t x) (ht:aE φ ts a.tmps.toList) (hh:HR φ B H w)
 (he:evalOp (.un op y) ts H=some (v,H')):aK P φ B H w (execOp a.eval o) v H':=by
 have h1:=bF hc ht;simp only[evalOp]at he;split at he
 ·rename_i v' hb;cases he;unfold yv at hb;split at hb
  ·cases hb;rename_i hy;rw[hy]at h1;generalize hg:a.eval x=u at h1;cases h1;exact aK.pure (by simp[execOp,ho,hg,Op.unary,Op.intArith]<;>rfl) (.int _ _) hh
  ·cases hb;rename_i hy;rw[hy]at h1;generalize hg:a.eval x=u at h1;cases h1;exact aK.pure (by simp[execOp,ho,hg,Op.unary,Op.intBits]<;>rfl) (.int _ _) hh
  ·cases hb;rename_i hy;rw[hy]at h1;generalize hg:a.eval x=u at h1;cases h1;exact aK.pure (by simp[execOp,ho,hg,Op.unary]<;>rfl) (.bool _) hh
  ·cases hb
 ·cases he
theorem ahv {s d:TypeId} {k:IntKind} {x:Operand} {y:X} {ds:TypeDesc} (hs:P.underlying s=some ds) (hd:P.underlying d=some (.int k)) (hc:aR x=some y) (ho:o.op=.convert s d x) (ht:aE φ ts a.tmps.toList) (hh:HR φ B H w)
 (he:evalOp (.wF k y) ts H=some (v,H')):aK P φ B H w (execOp a.eval o) v H':=by
 have h1:=bF hc ht;simp only[evalOp]at he;split at he
 ·rename_i hb;cases he;rw[hb]at h1;generalize hg:a.eval x=u at h1;cases h1;exact aK.pure (by simp[execOp,ho,hg,convert,run_underlying hs,run_underlying hd,Conv.intToInt]<;>rfl) (.int _ _) hh
 ·cases he
theorem ahx {s d:TypeId} {x:Operand} {y:X} (hs:P.underlying s=some .string) (hd:P.underlying d=some .string) (hc:aR x=some y) (ho:o.op=.convert s d x) (ht:aE φ ts a.tmps.toList) (hh:HR φ B H w)
 (he:evalOp (.yX y) ts H=some (v,H')):aK P φ B H w (execOp a.eval o) v H':=by
 have h1:=bF hc ht;simp only[evalOp]at he;split at he
 ·rename_i hb;cases he;rw[hb]at h1;generalize hg:a.eval x=u at h1;cases h1 with
  |str hl=>exact aK.pure (by simp[execOp,ho,hg,convert,run_underlying hs,run_underlying hd]<;>rfl) (.str hl) hh
 ·cases he
theorem ahF {s:TypeId} {fs:Array Field} {f:Nat} {fd:Field} {i:TI} {x:Operand} {y:X} (hs:P.underlying s=some (.struct fs)) (hf:fs[f]? =some fd) (hi:fq P fd.type i) (hc:aR x=some y)
 (ho:o.op=.fieldAddr s x f) (ht:aE φ ts a.tmps.toList) (hh:HR φ B H w)
 (he:evalOp (.cC fd.offset y) ts H=some (v,H')):aK P φ B H w (execOp a.eval o) v H':=by
 have h1:=bF hc ht;simp only[evalOp]at he;split at he
 ·rename_i b off hb;cases he;rw[hb]at h1;generalize hg:a.eval x=u at h1;cases h1 with
  |ptr hl=>
   rename_i l;refine aK.pure (u:=.pointer (some ⟨l.rb,l.base+(off+fd.offset),none⟩)) ?_ (.ptr hl) hh;have hp:i.size≠0:=Nat.ne_of_gt hi.pos;simp only[execOp,ho,hg];refine eD ?_;simp[Instr.fieldAt,run_underlying hs,hf,Instr.sureAddr,fieldPlace,hi.run_sizeOf,hp,Addr.add];split
   ·simp_all
   ·simp[Nat.add_assoc]
 ·cases he
theorem ahG {t:TypeId} {fs:Array Field} {f:Nat} {fd:Field} {i:TI} {x:Operand} {y:X} (hs:P.underlying t=some (.struct fs)) (hf:fs[f]? =some fd) (hi:fq P fd.type i) (hc:aR x=some y)
 (ho:o.op=.field t x f) (ht:aE φ ts a.tmps.toList) (hh:HR φ B H w)
 (he:evalOp (.wL i.agg i.size fd.offset y) ts H=some (v,H')):aK P φ B H w (execOp a.eval o) v H':=by
 have h1:=bF hc ht;simp only[evalOp]at he;split at he
 ·rename_i cs hb;rw[hb]at h1;generalize hg:a.eval x=u at h1;split at he
  ·rename_i v' kh;cases he;cases h1 with
   |agg hv=>
    obtain⟨u,hu,hr⟩:=hi.XH w hv kh;exact aK.pure (by simp only[execOp,ho,hg];exact eD (by simp[Instr.field,run_underlying hs,hf,asAgg,hu])) hr hh
  ·cases he
 ·cases he
end
end
section
open Go.RowKit (Below)
theorem EI:∀{x y:List Nat},jG x y=true↔x=y
 |[],[]=>by simp[jG]
 |[],_::_=>by simp[jG]
 |_::_,[]=>by simp[jG]
 |a::x,b::y=>by simp[jG,EI (x:=x) (y:=y)]
theorem toNat_map_inj {x y:List UInt8} (h:x.map UInt8.toNat=y.map UInt8.toNat):x=y:=by
 induction x generalizing y with
 |nil=>cases y<;>simp_all
 |cons a x ih=>
  cases y with
  |nil=>simp at h
  |cons b y=>
   simp only[List.map_cons,List.cons.injEq]at h;rw[UInt8.toNat_inj.1 h.1,ih h.2]
theorem EH (x y:List UInt8):jG (x.map UInt8.toNat) (y.map UInt8.toNat)=(x==y):=by
 rw[Bool.eq_iff_iff,EI,beq_iff_eq];exact⟨toNat_map_inj,fun h=>by rw[h]⟩
theorem Wc:∀(x y:List UInt8),ou (x.map UInt8.toNat) (y.map UInt8.toNat)=Op.bytesLess x y
 |_,[]=>by simp[ou,Op.bytesLess]
 |[],_::_=>by simp[ou,Op.bytesLess]
 |a::x,b::y=>by
  simp only[List.map_cons,ou,Op.bytesLess,Wc x y];congr 1
  ·rw[Bool.eq_iff_iff];simp[Nat.blt_eq,UInt8.lt_iff_toNat_lt]
  ·congr 1;rw[Bool.eq_iff_iff];simp[<-UInt8.toNat_inj]
section
variable {P:Program} {φ:aI} {B:Nat} {H H':ag} {w:World} {ts:T} {a:Act} {o:Oper} {v:SV}
theorem aj3 {op:BinOp} {t:TypeId} {x y v:SV} {x' y':Value} (h:bX op x y=some v) (hx:VR φ x x') (hy:VR φ y y'):
 ∃u,(binOp op t x' y').run P w=.ok u w/\VR φ v u:=by
 unfold bX at h;split at h
 ·cases hx;cases hy;rename_i k a k' b;cases op
  case shl|shr=>
   dsimp only at h;split at h
   ·cases h
   ·cases h;rename_i hb;exact⟨_,by simp[binOp,Op.shift,hb]<;>rfl,.int _ _⟩
  all_goals
   dsimp only at h;split at h
   ·cases h
   ·rename_i hk;have nT:k=k':=by simpa using hk
    subst nT
    first
     |(split at h
       ·cases h
       ·cases h;rename_i hb;exact⟨_,by simp[binOp,Op.intDiv,hb]<;>rfl,.int _ _⟩)
     |(cases h;exact⟨_,by simp only[binOp,ne_eq,not_true_eq_false,if_false,Op.intArith];rfl,.int _ _⟩)
     |(cases h;exact⟨_,by simp only[binOp,ne_eq,not_true_eq_false,if_false];rfl,.int _ _⟩)
     |(cases h;exact⟨_,by simp only[binOp,ne_eq,not_true_eq_false,if_false,Op.intCmp];rfl,.bool _⟩)
 ·cases hx with
  |str hl=>
   cases hy with
   |str lg=>
    rename_i s s';subst hl lg;have he:(s.toList==s'.toList)=jG (s.data.toList.map UInt8.toNat) (s'.data.toList.map UInt8.toNat):=by
     rw[EH,ByteArray.toList_eq,ByteArray.toList_eq]
    have hlt:Op.bytesLess s.toList s'.toList=ou (s.data.toList.map UInt8.toNat) (s'.data.toList.map UInt8.toNat):=by
     rw[Wc,ByteArray.toList_eq,ByteArray.toList_eq]
    cases op
    case add=>
     dsimp only at h;split at h
     ·rename_i hb;cases h;have dP:=Nat.le_of_ble_eq_true hb;simp only[List.length_map,vB]at dP;have e1:s.data.toList.length=s.size:=by rw[Array.length_toList];rfl
      have e2:s'.data.toList.length=s'.size:=by rw[Array.length_toList];rfl
      refine⟨.string (s++s'),?_,.str ?_⟩
      ·have:=run_string_add_sum (P:=P) w s s' om;simpa[binOp]using this
      ·simp
     ·cases h
    all_goals
     first
      |(cases h;exact⟨_,by simp[binOp,Op.stringOp,he,hlt]<;>rfl,.bool _⟩)
      |cases h
 ·cases h
theorem Kv {op:BinOp} {t:TypeId} {x y:Operand} {u v:Value} (h:match u,v with|.nilIface,.nilIface=>False|.agg _,.agg _=>False|_,_=>True):
 (eqGuard op t x y u v).run P w=.ok () w:=by
 unfold eqGuard;cases op<;>first
  |rfl
  |(simp only[Bool.not_true,Bool.false_eq_true,if_false]
    split
    ·exact h.elim
    ·exact h.elim
    ·rfl)
theorem NX {op:BinOp} {t yt:TypeId} {x y:Operand} {x' y':X} (hx:aR x=some x') (hy:aR y=some y') (ho:o.op=.binOp op t x y yt) (ht:aE φ ts a.tmps.toList) (hh:HR φ B H w)
 (he:evalOp (.bin op x' y') ts H=some (v,H')):aK P φ B H w (execOp a.eval o) v H':=by
 have h1:=bF hx ht;have h2:=bF hy ht;simp only[evalOp]at he;split at he
 ·rename_i v' hb;cases he;obtain⟨u,hu,hr⟩:=aj3 (P:=P) (w:=w) (t:=t) hb h1 h2;refine aK.pure (u:=u) ?_ hr hh;simp only[execOp,ho];refine eD ?_;have:(eqGuard op t x y (a.eval x) (a.eval y)).run P w=.ok () w:=by
   apply Kv;generalize x'.ev ts=s at h1 hb;generalize y'.ev ts=s' at h2 hb;generalize a.eval x=p at h1 ⊢;generalize a.eval y=q at h2 ⊢;unfold bX at hb;split at hb
   ·cases h1;trivial
   ·cases h1;trivial
   ·cases hb
  simp[this,hu]
 ·cases he
theorem Ou {x y:SV} {x' y':Value} {b:Bool} {t:TypeId} {kind:Nat} (d:Nat) (h:oS kind x y=some b) (hx:VR φ x x') (hy:VR φ y y')
 (ht:(P.underlying t=some .bool/\kind=0)\/((∃k,P.underlying t=some (.int k))/\kind=1)\/(P.underlying t=some .string/\kind=2)):
 (Op.equalIn (d+1) t x' y').run P w=.ok b w:=by
 unfold oS at h;split at h
 ·cases h;cases hx;cases hy;obtain⟨hu,_⟩|⟨_,hk⟩|⟨_,hk⟩:=ht
  ·simp[Op.equalIn,run_underlying hu]
  ·cases hk
  ·cases hk
 ·cases hx;cases hy;obtain⟨_,hk⟩|⟨⟨k,hu⟩,_⟩|⟨_,hk⟩:=ht
  ·cases hk
  ·split at h
   ·cases h;rename_i e;subst e;simp[Op.equalIn,run_underlying hu]
   ·cases h
  ·cases hk
 ·obtain⟨_,hk⟩|⟨_,hk⟩|⟨hu,_⟩:=ht
  ·cases hk
  ·cases hk
  ·cases h;cases hx with
   |str h1=>cases hy with
    |str h2=>
     subst h1 h2;rw[EH];simp only[Op.equalIn,Sem.run_bind,run_underlying hu,Result.andThen_ok,Sem.run_pure];rw[beq_toListBytes,ByteArray.toList_eq,ByteArray.toList_eq]
 ·cases h
theorem SJ:∀(L M:List (Nat×Nat)) (xs ys:List SV),jX (L++M) xs ys=match jX L xs ys with|some true=>jX M xs ys|r=>r
 |[],M,xs,ys=>rfl
 |(i,k)::L,M,xs,ys=>by
  simp only[List.cons_append,jX];cases xs[i]? with
  |none=>rfl
  |some x=>
   cases ys[i]? with
   |none=>rfl
   |some y=>
    dsimp only;cases oS k x y with
    |none=>rfl
    |some b=>
     cases b
     ·rfl
     ·exact SJ L M xs ys
theorem SM (o n:Nat):∀(L:List (Nat×Nat)) (xs ys:List SV),L.all (fun p=>Nat.blt p.1 n)=true->
 jX (L.map fun p=>(o+p.1,p.2)) xs ys=jX L ((xs.drop o).take n) ((ys.drop o).take n)
 |[],xs,ys,_=>rfl
 |(i,k)::L,xs,ys,h=>by
  simp only[List.all_cons,Bool.and_eq_true,Nat.blt_eq]at h;simp only[List.map_cons,jX,List.getElem?_take,List.getElem?_drop,if_pos h.1];cases xs[o+i]? with
  |none=>rfl
  |some x=>
   cases ys[o+i]? with
   |none=>rfl
   |some y=>
    dsimp only;cases oS k x y with
    |none=>rfl
    |some b=>
     cases b
     ·rfl
     ·exact SM o n L xs ys h.2
def qj (d:TypeDesc):Bool:=match d with|.struct _=>true|.array _ _=>true|_=>false
theorem XI {t:TypeId} {j:TypeInfo} {dd:TypeDesc} (hj:P.info? t=some j) (hd:P.underlying t=some dd) (vs:Array Value) (off:Nat):
 (part t vs off).run P w=match qj dd with
  |true=>.ok (.agg (vs.extract off (off+j.size))) w
  |false=>match vs[off]? with
   |some v=>.ok v w
   |none=>.halt (.stuck "part: no such cell") w:=by
 simp only[part,Sem.run_bind,isAgg,run_underlying hd,Result.andThen_ok];cases dd<;>simp[qj,sizeOf,typeInfo,hj,stuck]<;>(cases vs[off]? <;>rfl)
def Ex (agg:Bool) (x:Value) (vs:List Value):Prop:=
 match agg with
 |true=>∃a:Array Value,x=.agg a/\a.toList=vs
 |false=>vs[0]? =some x
theorem SP:∀(n:Nat) (t:TypeId) (L:List (Nat×Nat)),leaves P n t=some L->∀(d:Nat) (dd:TypeDesc),P.underlying t=some dd->
 ∀(xs ys:List SV) (vs us:List Value) (x y:Value) (b:Bool),aE φ xs vs->aE φ ys us->Ex (qj dd) x vs->Ex (qj dd) y us->jX L xs ys=some b->
 (Op.equalIn (d+n) t x y).run P w=.ok b w
 |0,t,L,h=>by simp[leaves]at h
 |n+1,t,L,h=>by
  intro d dd hd xs ys vs us x y b hx hy cx cy he;have plain:∀(k:Nat),L=[(0,k)]->qj dd=false->((P.underlying t=some .bool/\k=0)\/((∃q,P.underlying t=some (.int q))/\k=1)\/(P.underlying t=some .string/\k=2))->
   (Op.equalIn (d+(n+1)) t x y).run P w=.ok b w:=by
   intro k hL eG ht;subst hL;rw[eG]at cx cy;simp only[jX]at he;split at he
   ·cases he
   ·rename_i x0 vw;split at he
    ·cases he
    ·rename_i y0 M';obtain⟨v,hv,hr⟩:=hx.get _ _ vw;obtain⟨u,hu,oa⟩:=hy.get _ _ M';simp only[Ex]at cx cy;rw[cx]at hv;cases hv;rw[cy]at hu;cases hu;have hb:oS k x0 y0=some b:=by
      cases hq:oS k x0 y0 with
      |none=>rw[hq]at he;cases he
      |some c=>rw[hq]at he;cases c<;>simpa using he
     exact Ou (d+n) hb hr oa ht
  unfold leaves at h;rw[hd]at h;cases dd with
  |bool=>exact plain 0 (by simpa using h.symm) rfl (.inl ⟨hd,rfl⟩)
  |int q=>exact plain 1 (by simpa using h.symm) rfl (.inr (.inl ⟨⟨q,hd⟩,rfl⟩))
  |string=>exact plain 2 (by simpa using h.symm) rfl (.inr (.inr ⟨hd,rfl⟩))
  |struct fs=>
   dsimp only at h;split at h
   ·cases h
   ·rename_i aD;split at h
    ·rename_i Ls lB;cases h;obtain⟨va,rfl,xH⟩:=cx;obtain⟨ua,rfl,Vo⟩:=cy;have vj:P.fieldsOf t=fs:=by simp[Program.fieldsOf,hd]
     rw[show d+(n+1)=(d+n)+1 from rfl,run_equalIn_struct w (d+n) t va ua (by rw[vj];exact hd) aD,vj];generalize fs.toList=fl at lB;clear vj hd plain aD
     induction fl generalizing Ls b with
     |nil=>
      simp[cj]at lB;subst lB;simp[jX]at he;subst he;simp[Op.eqFields]
     |cons f fl ih=>
      simp only[cj]at lB;split at lB
      ·rename_i Lf kC;split at lB
       ·rename_i Lr La;cases lB;simp only[List.flatten_cons,SJ]at he;split at kC
        ·cases kC
        ·rename_i aP;have Mn:f.name≠ "_" :=by simpa using aP
         split at kC
         ·rename_i L0 mZ;split at kC
          ·rename_i j hj;split at kC
           ·rename_i gS;cases kC;rw[SM f.offset j.size L0 xs ys gS]at he;obtain⟨df,xn⟩:∃df,P.underlying f.type=some df:=by
             cases hu:P.underlying f.type with
             |none=>cases n<;>simp[leaves,hu]at mZ
             |some df=>exact⟨df,rfl⟩
            have eX:=(hx.drop f.offset).take j.size;have VD:=(hy.drop f.offset).take j.size;obtain⟨b1,dn,eo⟩:∃b1,jX L0 ((xs.drop f.offset).take j.size) ((ys.drop f.offset).take j.size)=some b1/\(b1=false->b=false)/\(b1=true->jX Lr.flatten xs ys=some b):=by
             revert he;cases jX L0 ((xs.drop f.offset).take j.size) ((ys.drop f.offset).take j.size)with
             |none=>intro he;cases he
             |some c=>cases c<;>intro he<;>simp_all
            simp only[Op.eqFields,if_pos Mn,Sem.run_bind,XI hj xn];have step:∃p q,(match qj df with
             |true=>Result.ok (Value.agg (va.extract f.offset (f.offset+j.size))) w
             |false=>match va[f.offset]? with
              |some v=>.ok v w
              |none=>.halt (.stuck "part: no such cell") w)=.ok p w/\
             (match qj df with
              |true=>Result.ok (Value.agg (ua.extract f.offset (f.offset+j.size))) w
              |false=>match ua[f.offset]? with
               |some v=>.ok v w
               |none=>.halt (.stuck "part: no such cell") w)=.ok q w/\(Op.equalIn (d+n) f.type p q).run P w=.ok b1 w:=by
             have key:=fun(p q:Value)=>SP n f.type L0 mZ d df xn ((xs.drop f.offset).take j.size) ((ys.drop f.offset).take j.size) ((vs.drop f.offset).take j.size) ((us.drop f.offset).take j.size) p q b1 eX VD
             cases eG:qj df with
             |true=>
              refine⟨.agg (va.extract f.offset (f.offset+j.size)),.agg (ua.extract f.offset (f.offset+j.size)),rfl,rfl,?_⟩;refine key _ _ ?_ ?_ dn
              ·rw[eG];exact⟨_,rfl,by simp[<-xH,List.extract,List.drop_take,Nat.add_sub_cancel_left]⟩
              ·rw[eG];exact⟨_,rfl,by simp[<-Vo,List.extract,List.drop_take,Nat.add_sub_cancel_left]⟩
             |false=>
              have K8:∃k,L0=[(0,k)]:=by
               cases n with
               |zero=>simp[leaves]at mZ
               |succ n=>
                unfold leaves at mZ;rw[xn]at mZ;cases df<;>simp[qj]at eG mZ<;>exact⟨_,mZ.symm⟩
              obtain⟨k,rfl⟩:=K8;have xm:=dn;simp only[jX]at xm;split at xm
              ·cases xm
              ·rename_i x0 vw;split at xm
               ·cases xm
               ·rename_i y0 M';obtain⟨p,hp,_⟩:=eX.get _ _ vw;obtain⟨q,hq,_⟩:=VD.get _ _ M';have Cn:va[f.offset]? =some p:=by
                 rw[<-xH]at hp;rw[List.getElem?_take]at hp;split at hp
                 ·simpa using hp
                 ·cases hp
                have ui:ua[f.offset]? =some q:=by
                 rw[<-Vo]at hq;rw[List.getElem?_take]at hq;split at hq
                 ·simpa using hq
                 ·cases hq
                refine⟨p,q,by simp only[Cn],by simp only[ui],key _ _ ?_ ?_ dn⟩
                ·rw[eG];exact hp
                ·rw[eG];exact hq
            obtain⟨p,q,hp,hq,rj⟩:=step;rw[hp,Result.andThen_ok,hq,Result.andThen_ok,rj,Result.andThen_ok];cases b1 with
            |false=>simp[eo.1 rfl]
            |true=>simpa using ih _ _ (eo.2 rfl) La
           ·cases kC
          ·cases kC
         ·cases kC
       ·cases lB
      ·cases lB
    ·cases h
  |_=>cases h
end
end
section
open Go.RowKit (Below)
section
variable {P:Program} {φ:aI} {B:Nat} {H H':ag} {w:World} {ts:T} {a:Act} {o:Oper} {v:SV}
theorem NA {n:Nat} {t:TypeId} {L:List (Nat×Nat)} (h:leaves P n t=some L):(∃fs,P.underlying t=some (.struct fs))\/
 (∃k,L=[(0,k)]/\((P.underlying t=some .bool/\k=0)\/((∃q,P.underlying t=some (.int q))/\k=1)\/(P.underlying t=some .string/\k=2))):=by
 cases n with
 |zero=>simp[leaves]at h
 |succ n=>
  unfold leaves at h;split at h
  ·rename_i hu;cases h;exact .inr ⟨0,rfl,.inl ⟨hu,rfl⟩⟩
  ·rename_i k hu;cases h;exact .inr ⟨1,rfl,.inr (.inl ⟨⟨k,hu⟩,rfl⟩)⟩
  ·rename_i hu;cases h;exact .inr ⟨2,rfl,.inr (.inr ⟨hu,rfl⟩)⟩
  ·rename_i fs hu;exact .inl ⟨fs,hu⟩
  ·cases h
theorem Ov {t:TypeId} {L:List (Nat×Nat)} {x y:SV} {x' y':Value} {b:Bool} (hL:leaves P 6 t=some L) (hx:VR φ x x') (hy:VR φ y y')
 (he:hY (kj P t) L x y=some b):(Op.equal t x' y').run P w=.ok b w:=by
 rcases NA hL with⟨fs,hu⟩|⟨k,rfl,hk⟩
 ·have eG:kj P t=true:=by simp[kj,hu]
  rw[eG]at he;simp only[hY]at he;split at he
  ·cases hx with
   |agg hx=>cases hy with
    |agg hy=>exact SP 6 t L hL 9994 _ hu _ _ _ _ _ _ b hx hy ⟨_,rfl,rfl⟩ ⟨_,rfl,rfl⟩ he
  ·cases he
 ·have eG:kj P t=false:=by
   rcases hk with⟨h,_⟩|⟨⟨q,h⟩,_⟩|⟨h,_⟩<;>simp[kj,h]
  rw[eG]at he;simp only[hY]at he;exact Ou 9999 he hx hy hk
theorem ahB {neg:Bool} {op:BinOp} {t yt:TypeId} {fs:Array Field} {L:List (Nat×Nat)} {x y:Operand} {x' y':X} (b8:op=if neg then .neq else .eql) (hu:P.underlying t=some (.struct fs)) (hL:leaves P 6 t=some L)
 (hg:P.eqGuardType P.depth t=false) (hx:aR x=some x') (hy:aR y=some y') (ho:o.op=.binOp op t x y yt) (ht:aE φ ts a.tmps.toList) (hh:HR φ B H w)
 (he:evalOp (.hZ neg true L x' y') ts H=some (v,H')):aK P φ B H w (execOp a.eval o) v H':=by
 have h1:=bF hx ht;have h2:=bF hy ht;simp only[evalOp]at he;split at he
 ·rename_i b hb;cases he;have eG:kj P t=true:=by simp[kj,hu]
  rw[<-eG]at hb;have hq:=Ov (P:=P) (w:=w) hL h1 h2 hb;rw[eG]at hb;have mz:(eqGuard op t x y (a.eval x) (a.eval y)).run P w=.ok () w:=by
   simp only[hY]at hb;split at hb
   ·rename_i e1 e2;rw[e1]at h1;rw[e2]at h2;generalize a.eval x=p at h1 ⊢;generalize a.eval y=q at h2 ⊢;cases h1;cases h2;unfold eqGuard;cases op<;>simp[hg]
   ·cases hb
  have Lz:(binOp op t (a.eval x) (a.eval y)).run P w=.ok (.bool (b !=neg)) w:=by
   simp only[hY]at hb;split at hb
   ·rename_i e1 e2;rw[e1]at h1;rw[e2]at h2;generalize a.eval x=p at h1 hq ⊢;generalize a.eval y=q at h2 hq ⊢;cases h1;cases h2;subst b8;cases neg<;>simp[binOp,hq]
   ·cases hb
  exact aK.pure (by simp only[execOp,ho];exact eD (by simp only[Sem.run_bind,mz,Result.andThen_ok,Lz])) (.bool _) hh
 ·cases he
theorem ahA {neg:Bool} {op:BinOp} {t yt:TypeId} {x y:Operand} {x' y':X} (b8:op=if neg then .neq else .eql) (hu:P.underlying t=some .bool)
 (hx:aR x=some x') (hy:aR y=some y') (ho:o.op=.binOp op t x y yt) (ht:aE φ ts a.tmps.toList) (hh:HR φ B H w)
 (he:evalOp (.hZ neg false [(0,0)] x' y') ts H=some (v,H')):aK P φ B H w (execOp a.eval o) v H':=by
 have h1:=bF hx ht;have h2:=bF hy ht;simp only[evalOp,hY]at he;split at he
 ·rename_i b hb;cases he;have hq:(Op.equal t (a.eval x) (a.eval y)).run P w=.ok b w:=Ou (P:=P) (w:=w) (t:=t) 9999 hb h1 h2 (.inl ⟨hu,rfl⟩);unfold oS at hb;split at hb
  ·rename_i e1 e2;rw[e1]at h1;rw[e2]at h2;generalize hp:a.eval x=p at h1 hq;generalize Cn:a.eval y=q at h2 hq;cases h1;cases h2;refine aK.pure (u:=.bool (b !=neg)) ?_ (.bool _) hh;simp only[execOp,ho,hp,Cn];refine eD ?_;subst b8;have mz:∀op,∀p q:Bool,(eqGuard op t x y (.bool p) (.bool q)).run P w=.ok () w:=fun op p q=>Kv trivial
   cases neg<;>simp[mz,binOp,hq]
  ·rename_i hk _ _;cases hk
  ·rename_i hk _ _;cases hk
  ·cases hb
 ·cases he
theorem acr {op:BinOp} {t:TypeId} {x y:Operand} {u v:Value} (h:(sM x||sM y)=true) (hn:∀p q,u=.agg p->v=.agg q->False):(eqGuard op t x y u v).run P w=.ok () w:=by
 unfold eqGuard;cases op<;>first
  |rfl
  |(simp only[Bool.not_true,Bool.false_eq_true,if_false]
    split
    ·simp only[Bool.or_eq_true]at h;rcases h with h|h
     ·cases x<;>simp[sM]at h ⊢
     ·cases y<;>simp[sM]at h ⊢
    ·exact(hn _ _ rfl rfl).elim
    ·rfl)
theorem aj5 (d:Nat) {t:TypeId} {dd:TypeDesc} {kind:Nat} {x y:SV} {x' y':Value} {b:Bool} (hu:P.underlying t=some dd) (hk:CU dd=some kind)
 (hx:VR φ x x') (hy:VR φ y y') (he:nK kind x y=some b):(Op.equalIn (d+1) t x' y').run P w=.ok b w:=by
 cases dd<;>simp only[CU,Option.some.injEq,reduceCtorEq]at hk<;>subst hk<;>simp only[nK]at he<;>split at he<;>cases he<;>cases hx<;>cases hy<;>
  simp[Op.equalIn,run_underlying hu]
theorem ahC {neg:Bool} {op:BinOp} {t yt:TypeId} {dd:TypeDesc} {kind:Nat} {x y:Operand} {x' y':X} (b8:op=if neg then .neq else .eql) (hu:P.underlying t=some dd) (hk:CU dd=some kind)
 (hn:(sM x||sM y)=true)
 (hx:aR x=some x') (hy:aR y=some y') (ho:o.op=.binOp op t x y yt) (ht:aE φ ts a.tmps.toList) (hh:HR φ B H w)
 (he:evalOp (.tu neg kind x' y') ts H=some (v,H')):aK P φ B H w (execOp a.eval o) v H':=by
 have h1:=bF hx ht;have h2:=bF hy ht;simp only[evalOp]at he;split at he
 ·rename_i b hb;cases he;have hq:=aj5 (P:=P) (w:=w) 9999 hu hk h1 h2 hb;have ui:(Op.equal t (a.eval x) (a.eval y)).run P w=.ok b w:=hq;have Wq:∀p q,a.eval x=.agg p->a.eval y=.agg q->False:=by
   intro p q e1 e2;rw[e1]at h1;rw[e2]at h2;generalize x'.ev ts=s at h1 hb;generalize y'.ev ts=s' at h2 hb;cases h1
   all_goals (try(rename_i ho;cases ho;done))
   cases h2
   all_goals (try(rename_i ho;cases ho;done))
   match kind with
   |0=>simp[nK]at hb
   |1=>simp[nK]at hb
   |2=>simp[nK]at hb
   |3=>simp[nK]at hb
   |n+4=>simp[nK]at hb
  have mz:(eqGuard op t x y (a.eval x) (a.eval y)).run P w=.ok () w:=acr hn Wq;have Lz:(binOp op t (a.eval x) (a.eval y)).run P w=.ok (.bool (b !=neg)) w:=by
   generalize a.eval x=p at h1 ui ⊢;generalize a.eval y=q at h2 ui ⊢;generalize x'.ev ts=s at h1 hb;generalize y'.ev ts=s' at h2 hb;clear hq mz Wq;subst b8;have:∀kind,nK kind s s'=some b->(binOp (if neg then .neq else .eql) t p q).run P w=.ok (.bool (b !=neg)) w:=by
    intro kind hb
    match kind with
    |0|1|2|3|n+4=>
     simp only[nK]at hb;split at hb<;>cases hb<;>cases h1<;>cases h2<;>cases neg<;>simp[binOp,ui]
   exact this kind hb
  exact aK.pure (by simp only[execOp,ho];exact eD (by simp only[Sem.run_bind,mz,Result.andThen_ok,Lz])) (.bool _) hh
 ·cases he
theorem Nf {s:SV} {lim n:Nat} {x:Value} (h:idx s lim=some n) (hx:VR φ s x):∃k,x=.int k (Int.ofNat n)/\n<=lim:=by
 unfold idx at h;split at h
 ·split at h
  ·cases h;cases hx;exact⟨_,rfl,Nat.le_of_ble_eq_true ‹_›⟩
  ·cases h
 ·cases h
theorem ahI {t e:TypeId} {ti:TI} {x i:Operand} {x' i':X} (hu:P.underlying t=some (.slice e)) (hi:fq P e ti) (hx:aR x=some x') (hy:aR i=some i') (ho:o.op=.indexAddr t x i)
 (ht:aE φ ts a.tmps.toList) (hh:HR φ B H w) (he:evalOp (.gj ti.size x' i') ts H=some (v,H')):aK P φ B H w (execOp a.eval o) v H':=by
 have h1:=bF hx ht;have h2:=bF hy ht;simp only[evalOp]at he;split at he
 ·rename_i b off n c z e1;split at he
  ·rename_i kk k e2;split at he
   ·rename_i hb;cases he;rw[e1]at h1;rw[e2]at h2;generalize hp:a.eval x=p at h1;generalize hq:a.eval i=q at h2;simp only[Bool.and_eq_true,Nat.blt_eq]at hb;obtain⟨hlt,hz⟩:=hb;have hz':=Nat.eq_of_beq_eq_true hz;cases h2;cases h1 with
    |kQ=>omega
    |slice hl hc hn ry=>
     rename_i cap l;refine aK.pure (u:=.pointer (some ⟨l.rb,l.base+(off+k*ti.size),none⟩)) ?_ (.ptr hl) hh;simp only[execOp,ho,hp,hq];refine eD ?_;have FP:(Int.ofNat k)<(n:Int):=by simpa using hlt
     simp only[Instr.indexAt,asIntOf,Sem.run_bind,Sem.run_pure,Result.andThen_ok,run_underlying hu];simp[hlt,hi.run_sizeOf,Addr.add];split
     ·simp_all
     ·simp[Nat.add_assoc]
   ·cases he
  ·cases he
 ·cases he
theorem ahH {t e:TypeId} {n:Nat} {ti:TI} {x i:Operand} {x' i':X} (hu:P.underlying t=some (.array n e)) (hi:fq P e ti) (hx:aR x=some x') (hy:aR i=some i') (ho:o.op=.indexAddr t x i)
 (ht:aE φ ts a.tmps.toList) (hh:HR φ B H w) (he:evalOp (.xM n ti.size x' i') ts H=some (v,H')):aK P φ B H w (execOp a.eval o) v H':=by
 have h1:=bF hx ht;have h2:=bF hy ht;simp only[evalOp]at he;split at he
 ·rename_i b off e1;split at he
  ·rename_i kk k e2;split at he
   ·rename_i hb;cases he;rw[e1]at h1;rw[e2]at h2;generalize hp:a.eval x=p at h1;generalize hq:a.eval i=q at h2;simp only[Nat.blt_eq]at hb;cases h2;cases h1 with
    |ptr hl=>
     rename_i l;refine aK.pure (u:=.pointer (some ⟨l.rb,l.base+(off+k*ti.size),none⟩)) ?_ (.ptr hl) hh;simp only[execOp,ho,hp,hq];refine eD ?_;simp only[Instr.indexAt,asIntOf,Sem.run_bind,Sem.run_pure,Result.andThen_ok,run_underlying hu,Instr.sureAddr];simp[hb,hi.run_sizeOf,Addr.add];split
     ·simp_all
     ·simp[Nat.add_assoc]
   ·cases he
  ·cases he
 ·cases he
theorem ahK {t:TypeId} {x i:Operand} {x' i':X} (hu:P.underlying t=some .string) (hx:aR x=some x') (hy:aR i=some i') (ho:o.op=.index t x i)
 (ht:aE φ ts a.tmps.toList) (hh:HR φ B H w) (he:evalOp (.jy x' i') ts H=some (v,H')):aK P φ B H w (execOp a.eval o) v H':=by
 have h1:=bF hx ht;have h2:=bF hy ht;simp only[evalOp]at he;split at he
 ·rename_i s e1;split at he
  ·rename_i kk k e2;split at he
   ·rename_i b hb;cases he;rw[e1]at h1;rw[e2]at h2;generalize hp:a.eval x=p at h1;generalize hq:a.eval i=q at h2;cases h2;cases h1 with
    |str hl=>
     rename_i t';subst hl;simp only[List.getElem?_map,Option.map_eq_some_iff,Array.getElem?_toList]at hb;obtain⟨c,hc,rfl⟩:=hb;refine aK.pure (u:=.int .u8 (Int.ofNat c.toNat)) ?_ (.int _ _) hh;simp only[execOp,ho,hp,hq];refine eD ?_;have fk:t'[k]? =some c:=by
      obtain⟨hk,zt⟩:=Array.getElem?_eq_some_iff.1 hc;rw[getElem?_pos t' k hk];exact congrArg some zt
     simp[Instr.index,asIntOf,run_underlying hu,fk]
   ·cases he
  ·cases he
 ·cases he
theorem ahJ {t e:TypeId} {n:Nat} {ti:TI} {x i:Operand} {x' i':X} (hu:P.underlying t=some (.array n e)) (hi:fq P e ti) (hx:aR x=some x') (hy:aR i=some i') (ho:o.op=.index t x i)
 (ht:aE φ ts a.tmps.toList) (hh:HR φ B H w) (he:evalOp (.xQ n ti.agg ti.size x' i') ts H=some (v,H')):aK P φ B H w (execOp a.eval o) v H':=by
 have h1:=bF hx ht;have h2:=bF hy ht;simp only[evalOp]at he;split at he
 ·rename_i cs e1;split at he
  ·rename_i kk k e2;split at he
   ·rename_i hb;split at he
    ·rename_i v' kh;cases he;rw[e1]at h1;rw[e2]at h2;generalize hp:a.eval x=p at h1;generalize hq:a.eval i=q at h2;simp only[Nat.blt_eq]at hb;cases h2;cases h1 with
     |agg hv=>
      obtain⟨u,lj,hr⟩:=hi.XH w hv kh;refine aK.pure (u:=u) ?_ hr hh;simp only[execOp,ho,hp,hq];refine eD ?_;simp[Instr.index,asIntOf,run_underlying hu,hb,hi.run_sizeOf,lj]
    ·cases he
   ·cases he
  ·cases he
 ·cases he
theorem JT {x:Option Operand} {y:Option X} (h:jW x=some y) (ht:aE φ ts a.tmps.toList):
 (x=none/\y=none)\/∃x0 y0,x=some x0/\y=some y0/\VR φ (y0.ev ts) (a.eval x0):=by
 cases x with
 |none=>simp[jW]at h;exact .inl ⟨rfl,h.symm⟩
 |some x0=>
  simp only[jW]at h;split at h
  ·rename_i y0 hy;cases h;exact .inr ⟨x0,y0,rfl,rfl,bF hy ht⟩
  ·cases h
theorem run_sliceBound {s:SV} {lim n:Nat} {x:Value} {code:BoundsCode} (h:idx s lim=some n) (hx:VR φ s x):(Instr.sliceBound x lim code).run P w=.ok n w:=by
 obtain⟨k,rfl,hn⟩:=Nf h hx;simp[Instr.sliceBound,asIntOf,hn]
theorem VL {s:SV} {lim V6 n:Nat} (h:idx s lim=some n) (hl:lim<=V6):idx s V6=some n:=by
 unfold idx at*;split at h
 ·split at h
  ·cases h;rw[Nat.ble_eq_true_of_le (Nat.le_trans (Nat.le_of_ble_eq_true ‹_›) hl)]
  ·cases h
 ·cases h
theorem CQ {x:Option Operand} {y:Option X} {pK lim n:Nat} (hc:jW x=some y) (ht:aE φ ts a.tmps.toList) (h:eY ts y pK lim=some n):
 (x=none/\n=pK)\/∃x0 s,x=some x0/\VR φ s (a.eval x0)/\idx s lim=some n:=by
 rcases JT hc ht with⟨rfl,rfl⟩|⟨x0,y0,rfl,rfl,hr⟩
 ·simp[eY]at h;exact .inl ⟨rfl,h.symm⟩
 ·exact .inr ⟨x0,_,rfl,hr,h⟩
theorem Hl {isSlice:Bool} {lo hi:Option Operand} {eA cu:Option X} {len cap lim h l:Nat} (hl:jW lo=some eA) (LV:jW hi=some cu) (ht:aE φ ts a.tmps.toList)
 (hlen:lim<=cap) (h1:eY ts cu len lim=some h) (h2:eY ts eA 0 h=some l):
 (Instr.sliceBounds isSlice len cap (lo.map a.eval) (hi.map a.eval) none).run P w=.ok (l,h,cap) w:=by
 have hb:(match hi.map a.eval with|some v=>Instr.sliceBound v cap (if isSlice then .sliceAcap else .sliceAlen)|none=>pure len:Sem Nat).run P w=.ok h w:=by
  rcases CQ LV ht h1 with⟨rfl,rfl⟩|⟨x0,s,rfl,hr,hi⟩
  ·rfl
  ·exact run_sliceBound (VL hi hlen) hr
 have lb:(match lo.map a.eval with|some v=>Instr.sliceBound v h .sliceB|none=>pure 0:Sem Nat).run P w=.ok l w:=by
  rcases CQ hl ht h2 with⟨rfl,rfl⟩|⟨x0,s,rfl,hr,hi⟩
  ·rfl
  ·exact run_sliceBound hi hr
 cases jM:hi.map a.eval with
 |none=>
  rw[jM]at hb;cases fA:lo.map a.eval with
  |none=>
   rw[fA]at lb;simp only[Sem.run_pure,Result.ok.injEq,and_true]at hb lb;subst hb lb;rfl
  |some v=>
   rw[fA]at lb;simp only[Sem.run_pure,Result.ok.injEq,and_true]at hb;subst hb;simp[Instr.sliceBounds,lb]
 |some u=>
  rw[jM]at hb;cases fA:lo.map a.eval with
  |none=>
   rw[fA]at lb;simp only[Sem.run_pure,Result.ok.injEq,and_true]at lb;subst lb;simp[Instr.sliceBounds,hb]
  |some v=>
   rw[fA]at lb;simp[Instr.sliceBounds,hb,lb]
theorem xN {y:Option X} {pK lim n:Nat} (h:eY ts y pK lim=some n) (hd:pK<=lim):n<=lim:=by
 unfold eY at h;split at h
 ·cases h;exact hd
 ·unfold idx at h;split at h
  ·split at h
   ·cases h;exact Nat.le_of_ble_eq_true ‹_›
   ·cases h
  ·cases h
theorem ah2 {t:TypeId} {x:Operand} {lo hi:Option Operand} {x':X} {eA cu:Option X} (hu:P.underlying t=some .string) (hx:aR x=some x') (hl:jW lo=some eA) (jM:jW hi=some cu)
 (ho:o.op=.slice t x lo hi none) (ht:aE φ ts a.tmps.toList) (hh:HR φ B H w) (he:evalOp (.yj eA cu x') ts H=some (v,H')):aK P φ B H w (execOp a.eval o) v H':=by
 have h1:=bF hx ht;simp only[evalOp]at he;split at he
 ·rename_i s e1;split at he
  ·rename_i h eh;split at he
   ·rename_i l el;cases he;rw[e1]at h1;generalize hp:a.eval x=p at h1;cases h1 with
    |str hs=>
     rename_i t';have dY:s.length=t'.size:=by rw[hs,List.length_map,Array.length_toList];rfl
     rw[dY]at eh;have hb:=Hl (P:=P) (w:=w) (isSlice:=false) (len:=t'.size) (cap:=t'.size) hl jM ht (Nat.le_refl _) eh el;have zv:=xN el (Nat.zero_le _);have hhs:=xN eh (Nat.le_refl _);refine aK.pure (u:=.string (t'.extract l h)) ?_ (.str ?_) hh
     ·simp only[execOp,ho,hp];refine eD ?_;simp only[Instr.sliceAt,Sem.run_bind,run_underlying hu,Result.andThen_ok,Instr.slice,Option.map_none,Option.isSome_none,Bool.false_eq_true,if_false];simp only[Sem.run_bind,hb,Result.andThen_ok,Sem.run_pure]
     ·subst hs;rw[ByteArray.data_extract,Array.toList_extract,List.extract,List.map_take,List.map_drop]
   ·cases he
  ·cases he
 ·cases he
end
end
section
open Go.RowKit (Below)
section
variable {P:Program} {φ:aI} {B:Nat} {H H':ag} {w:World} {ts:T} {a:Act} {o:Oper} {v:SV}
theorem aK.mk {s:Sem Next} {u:Value} {w':World} {bh:aI} (hn:H.next<=H'.next) (hle:φ.ext bh H.next) (hr:s.run P w=.ok (.value u) w') (hv:VR bh v u) (hh:HR bh B H' w') (hb:Below B w w'):aK P φ B H w s v H':=
 ⟨hn,bh,_,u,w',hle,hr,.inl rfl,hv,hh,hb⟩
theorem aK.skip {s:Sem Next} {w':World} (hn:H.next<=H'.next) (hr:s.run P w=.ok .skip w') (hh:HR φ B H' w') (hb:Below B w w'):aK P φ B H w s .undef H':=
 ⟨hn,φ,_,_,w',aI.ext.refl φ _,hr,.inr ⟨rfl,rfl⟩,VR.undef φ,hh,hb⟩
theorem Oz {w':World} {s:Sem Unit} (h:s.run P w=.ok () w'):(do s;pure Next.skip:Sem Next).run P w=.ok .skip w':=by
 simp[h]
theorem ahl {e:TypeId} {ti:TI} (hi:fq P e ti) (ho:o.op=.alloc e) (hh:HR φ B H w) (he:evalOp (.alloc ti.zero e) ts H=some (v,H')):aK P φ B H w (execOp a.eval o) v H':=by
 simp only[evalOp,Option.some.injEq,Prod.mk.injEq]at he;obtain⟨rfl,rfl⟩:=he;obtain⟨z,hz,hr⟩:=hi.yh w;have hv:aE φ ti.zero z.cells.toList:=by rw[hi.zero];exact(hz φ).cells
 obtain⟨h1,h2⟩:=hh.alloc (e:=e) (vs:=z.cells) hv;refine aK.mk (u:=.pointer (some ⟨w.heap.size,0,none⟩)) (Nat.le_succ _) (aI.si hh.fresh) ?_ ?_ h1 h2
 ·simp only[execOp,ho];refine eD ?_;simp[Instr.alloc,hr,newVar,newRow]
 ·exact .ptr (l:=⟨w.heap.size,0,z.cells.size,.bool false⟩) (aI.qi _ _ _)
theorem ahn {e:TypeId} {x:Operand} {y:X} (hc:aR x=some y) (ho:o.op=.box e x) (ht:aE φ ts a.tmps.toList) (hh:HR φ B H w)
 (he:evalOp (.box e y) ts H=some (v,H')):aK P φ B H w (execOp a.eval o) v H':=by
 have h0:=bF hc ht;simp only[evalOp,Option.some.injEq,Prod.mk.injEq]at he;obtain⟨rfl,rfl⟩:=he;obtain⟨h1,h2⟩:=hh.alloc (e:=e) (vs:=(a.eval x).cells) h0.cells;refine aK.mk (u:=.pointer (some ⟨w.heap.size,0,none⟩)) (Nat.le_succ _) (aI.si hh.fresh) ?_ ?_ h1 h2
 ·simp only[execOp,ho];refine eD ?_;simp[Instr.box,newVar,newRow]
 ·exact .ptr (l:=⟨w.heap.size,0,(a.eval x).cells.size,.bool false⟩) (aI.qi _ _ _)
theorem rX (b o n:Nat):(⟨b,o,none⟩:Addr).add n=⟨b,o+n,none⟩:=by
 unfold Addr.add;split
 ·rename_i h;subst h;rfl
 ·rfl
theorem ahQ {t:TypeId} {ti:TI} {x:Operand} {y:X} (hi:fq P t ti) (hc:aR x=some y) (ho:o.op=.load t x) (ht:aE φ ts a.tmps.toList) (hh:HR φ B H w)
 (he:evalOp (.load ti.agg ti.size y) ts H=some (v,H')):aK P φ B H w (execOp a.eval o) v H':=by
 have h0:=bF hc ht;simp only[evalOp]at he;split at he
 ·rename_i b off e1;split at he
  ·rename_i cs hcs;rw[e1]at h0;generalize hp:a.eval x=p at h0;cases h0 with
   |ptr hl=>
    rename_i l;obtain⟨vs,hv,hlen,hcell,_⟩:=hh.load hl hcs;cases eG:ti.agg with
    |true=>
     rw[eG]at he;cases he;refine aK.pure (u:=.agg vs.toArray) ?_ (.agg (by simpa using hv)) hh;simp only[execOp,ho,hp];refine eD ?_;have:=run_loadCells_list (P:=P) w ⟨l.rb,l.base+off,none⟩ vs (fun j u hu=>by rw[rX];exact hcell j u hu);rw[hlen]at this;simp[Instr.loadAt,Instr.sureAddr,loadVar,hi.De,eG,hi.run_sizeOf,this]
    |false=>
     rw[eG]at he;dsimp only at he;split at he
     ·cases he;cases hv with
      |cons hv0 CC=>
       rename_i u us;have hu:=hcell 0 u rfl;refine aK.pure (u:=u) ?_ hv0 hh;simp only[execOp,ho,hp];refine eD ?_;simp only[Nat.add_zero]at hu;simp[Instr.loadAt,Instr.sureAddr,loadVar,hi.De,eG,hu]
     ·cases he
  ·cases he
 ·cases he
theorem ah4 {t:TypeId} {ti:TI} {x y:Operand} {x' y':X} (hi:fq P t ti) (hx:aR x=some x') (hy:aR y=some y') (ho:o.op=.store t x y) (ht:aE φ ts a.tmps.toList) (hh:HR φ B H w)
 (he:evalOp (.store ti.size x' y') ts H=some (v,H')):aK P φ B H w (execOp a.eval o) v H':=by
 have h0:=bF hx ht;have h1:=bF hy ht;simp only[evalOp]at he;split at he
 ·rename_i b off e1;split at he
  ·rename_i hlen;split at he
   ·rename_i H1 aD;cases he;rw[e1]at h0;generalize hp:a.eval x=p at h0;cases h0 with
    |ptr hl=>
     rename_i l;have hv:=h1.cells;obtain⟨g1,g2,g3,g4,g5⟩:=hh.store hl aD hv;refine aK.skip (Nat.le_of_eq (ym aD).symm) ?_ g4 g5;simp only[execOp,ho,hp];refine Oz ?_;have dY:(a.eval y).cells.size=ti.size:=by
      have:=hv.length;rw[Nat.eq_of_beq_eq_true hlen]at this;simpa using this.symm
     have dK:=run_storeCells_cells (P:=P) l.rb (l.base+off) (a.eval y).cells.toList 0 w (by simpa using g1) (by simpa using g2) g3;simp only[Nat.add_zero]at dK;simp[Instr.storeAt,Instr.sureAddr,storeVar,dY,hi.run_sizeOf,dK]
   ·cases he
  ·cases he
 ·cases he
theorem ahO {t:TypeId} {x:Operand} {y:X} (hu:P.underlying t=some .string) (hc:aR x=some y)
 (ho:o.op=.call {callee:=.builtin .len,args:=#[x],argTypes:=#[t]}) (ht:aE φ ts a.tmps.toList) (hh:HR φ B H w)
 (he:evalOp (.lens y) ts H=some (v,H')):aK P φ B H w (execOp a.eval o) v H':=by
 have h0:=bF hc ht;simp only[evalOp]at he;split at he
 ·rename_i s e1;cases he;rw[e1]at h0;generalize hp:a.eval x=p at h0;cases h0 with
  |str hs=>
   rename_i t';have dY:s.length=t'.size:=by rw[hs,List.length_map,Array.length_toList];rfl
   refine aK.pure (u:=goInt t'.size) ?_ ?_ hh
   ·simp[execOp,ho,resolve,hp,invoke,builtin,Builtin.len_,run_underlying hu]
   ·rw[dY];exact .int _ _
 ·cases he
theorem ahM {t e:TypeId} {x:Operand} {y:X} (hu:P.underlying t=some (.slice e)) (hc:aR x=some y)
 (ho:o.op=.call {callee:=.builtin .len,args:=#[x],argTypes:=#[t]}) (ht:aE φ ts a.tmps.toList) (hh:HR φ B H w)
 (he:evalOp (.cA y) ts H=some (v,H')):aK P φ B H w (execOp a.eval o) v H':=by
 have h0:=bF hc ht;simp only[evalOp]at he;split at he
 ·rename_i e1;cases he;rw[e1]at h0;generalize hp:a.eval x=p at h0;cases h0;exact aK.pure (u:=goInt 0) (by simp[execOp,ho,resolve,hp,invoke,builtin,Builtin.len_,run_underlying hu]) (.int _ _) hh
 ·rename_i b off n c z e1;cases he;rw[e1]at h0;generalize hp:a.eval x=p at h0;cases h0
  ·exact aK.pure (u:=goInt n) (by simp[execOp,ho,resolve,hp,invoke,builtin,Builtin.len_,run_underlying hu]) (.int _ _) hh
  ·exact aK.pure (u:=goInt 0) (by simp[execOp,ho,resolve,hp,invoke,builtin,Builtin.len_,run_underlying hu]) (.int _ _) hh
 ·cases he
theorem ahN {t k e:TypeId} {x:Operand} {y:X} (hu:P.underlying t=some (.map k e)) (hc:aR x=some y)
 (ho:o.op=.call {callee:=.builtin .len,args:=#[x],argTypes:=#[t]}) (ht:aE φ ts a.tmps.toList) (hh:HR φ B H w)
 (he:evalOp (.z8 y) ts H=some (v,H')):aK P φ B H w (execOp a.eval o) v H':=by
 have h0:=bF hc ht;simp only[evalOp]at he;split at he
 ·rename_i e1;cases he;rw[e1]at h0;generalize hp:a.eval x=p at h0;cases h0;exact aK.pure (u:=goInt 0) (by simp[execOp,ho,resolve,hp,invoke,builtin,Builtin.len_,run_underlying hu]) (.int _ _) hh
 ·rename_i b e1;split at he
  ·rename_i es ck hg;cases he;rw[e1]at h0;generalize hp:a.eval x=p at h0;cases h0 with
   |map hl=>
    rename_i l;have vn:=hh.obj b l hl;rw[hg]at vn;cases vn with
    |map hb hlen bn hB=>
     rename_i ek;refine aK.pure (u:=goInt ek.size) ?_ ?_ hh
     ·simp[execOp,ho,resolve,hp,invoke,builtin,Builtin.len_,run_underlying hu,getObj,Sem.run,hb]
     ·rw[hlen];exact .int _ _
  ·cases he
 ·cases he
theorem ahL {t e:TypeId} {n:Nat} {x:Operand} (hu:P.underlying t=some (.array n e))
 (ho:o.op=.call {callee:=.builtin .len,args:=#[x],argTypes:=#[t]}) (hh:HR φ B H w)
 (he:evalOp (.z7 n) ts H=some (v,H')):aK P φ B H w (execOp a.eval o) v H':=by
 simp only[evalOp,Option.some.injEq,Prod.mk.injEq]at he;obtain⟨rfl,rfl⟩:=he;refine aK.pure (u:=goInt n) ?_ (.int _ _) hh;simp only[execOp,ho,resolve,invoke,builtin,Builtin.len_];generalize a.eval x=p;cases p<;>simp[run_underlying hu]
theorem Ox {isMax:Bool}:∀{xs:List SV} {vs:List Value} {x v:SV} {u:Value},vE isMax x xs=some v->VR φ x u->aE φ xs vs->
 ∃r,(vs.foldlM (if isMax then Builtin.max2 else Builtin.min2) u).run P w=.ok r w/\VR φ v r
 |[],_,x,v,u,h,hx,.nil=>by
  simp only[vE,Option.some.injEq]at h;subst h;exact⟨u,by simp,hx⟩
 |y::ys,_,x,v,u,h,hx,.cons (v:=u2) (vs:=us) h2 hr=>by
  unfold vE at h;split at h
  ·rename_i he;cases he
  ·rename_i k a k' b rest he1 he2;cases he2;split at h
   ·rename_i hk;subst hk;cases hx;cases h2;cases isMax with
    |true=>
     obtain⟨r,fc,oc⟩:=Ox (isMax:=true) h (.int _ _) hr;refine⟨r,?_,oc⟩;simp only[if_true]at fc ⊢;simp[List.foldlM_cons,Builtin.max2,fc]
    |false=>
     obtain⟨r,fc,oc⟩:=Ox (isMax:=false) h (.int _ _) hr;refine⟨r,?_,oc⟩;simp only[Bool.false_eq_true,if_false]at fc ⊢;simp[List.foldlM_cons,Builtin.min2,fc]
   ·cases h
  ·cases h
theorem WM {isMax:Bool} {args:Array Operand} {Es:Array TypeId} {ys:List X} (hc:qD args=some ys)
 (ho:o.op=.call {callee:=.builtin (if isMax then .max else .min),args:=args,argTypes:=Es}) (ht:aE φ ts a.tmps.toList) (hh:HR φ B H w)
 (he:evalOp (.vI isMax ys) ts H=some (v,H')):aK P φ B H w (execOp a.eval o) v H':=by
 have h0:=wB hc ht;simp only[evalOp]at he;split at he
 ·cases he
 ·rename_i x rest e1;split at he
  ·rename_i v' kh;cases he;rw[e1]at h0;generalize hp:(args.map a.eval).toList=l at h0;cases h0 with
   |cons h1 h2=>
    obtain⟨r,fc,oc⟩:=Ox (P:=P) (w:=w) kh h1 h2;refine aK.pure (u:=r) ?_ oc hh;cases isMax with
    |true=>
     simp only[if_true]at fc ho;simp[execOp,ho,resolve,invoke,builtin,Builtin.max_, -Array.toList_map,hp,fc]
    |false=>
     simp only[Bool.false_eq_true,if_false]at fc ho;simp[execOp,ho,resolve,invoke,builtin,Builtin.min_, -Array.toList_map,hp,fc]
  ·cases he
end
end
section
open Go.RowKit (Below)
section
variable {P:Program} {φ:aI} {B:Nat} {H H':ag} {w:World} {ts:T} {a:Act} {o:Oper} {v:SV}
theorem XM {lo hi:Option Operand} {mx:Operand} {eA:Option X} {cu:Option X} {sm:SV} {len cap lim m h l:Nat} (hl:jW lo=some eA) (LV:jW hi=some cu) (ht:aE φ ts a.tmps.toList)
 (hm:VR φ sm (a.eval mx)) (nW:lim<=cap) (nt:idx sm lim=some m) (aP:∃h0,hi=some h0) (h1:eY ts cu len m=some h) (h2:eY ts eA 0 h=some l):
 (Instr.sliceBounds true len cap (lo.map a.eval) (hi.map a.eval) (some (a.eval mx))).run P w=.ok (l,h,m) w:=by
 obtain⟨h0,rfl⟩:=aP;have mb:(Instr.sliceBound (a.eval mx) cap .slice3Acap).run P w=.ok m w:=run_sliceBound (VL nt nW) hm;have hb:(Instr.sliceBound (a.eval h0) m .slice3B).run P w=.ok h w:=by
  rcases CQ LV ht h1 with⟨e,_⟩|⟨x0,s,e,hr,hi⟩
  ·cases e
  ·cases e;exact run_sliceBound hi hr
 rcases CQ hl ht h2 with⟨rfl,rfl⟩|⟨x0,s,rfl,hr,hi⟩
 ·simp[Instr.sliceBounds,mb,hb]
 ·have lb:(Instr.sliceBound (a.eval x0) h .slice3C).run P w=.ok l w:=run_sliceBound hi hr;simp[Instr.sliceBounds,mb,hb,lb]
theorem Pd {b off n z cap l h:Nat} {c:Option Nat} {u:Option Addr} (hv:VR φ (.slice b off n c z) (.slice u n cap)) (zv:l<=h) (m:Option Nat) (M:Nat)
 (hm:(∃k,m=some k/\M=k/\k<=cap/\(c=none->k<=n))\/(m=none/\c=none/\M=cap)) (hhm:h<=M) (hn:m=none->h<=n):
 VR φ (iX b off z l h m) (.slice (if M=l then u else u.map (·.add (l*z))) (h-l) (M-l)):=by
 unfold iX;rcases hm with⟨k,rfl,hM,hk,lE⟩|⟨rfl,rfl,hM⟩
 ·subst hM;by_cases e:M=l
  ·subst e;have:Nat.beq M M=true:=by simp
   simp only[this,if_true];have hz:h-M=0:=om;rw[hz,Nat.sub_self];cases hv with
   |slice hl hc nu ry=>
    exact .slice hl (fun j hj=>by cases hj;rfl) (Nat.le_refl _) om
   |kQ hc=>exact .kQ (fun j hj=>by cases hj;rfl)
  ·have hb:Nat.beq M l=false:=by
    cases hq:Nat.beq M l with
    |true=>exact absurd (Nat.eq_of_beq_eq_true hq) e
    |false=>rfl
   simp only[hb,if_neg e];cases hv with
   |slice hl hc nu ry=>
    rename_i L;have hle:L.base+(off+l*z)+(M-l)*z<=L.pA:=by
     have h1:l*z+(M-l)*z=M*z:=by rw[<-Nat.add_mul];congr 1;omega
     have h2:=Nat.mul_le_mul_right z hk;omega
    have:=VR.slice (φ:=φ) (b:=b) (o:=off+l*z) (n:=h-l) (z:=z) (cap:=M-l) (c:=some (M-l)) hl (fun j hj=>by cases hj;rfl) om hle;simpa[rX,Nat.add_assoc]using this
   |kQ hc=>omega
 ·subst hM;by_cases e:M=l
  ·subst e;simp only[if_true];have:=hn rfl;have hz:h-M=0:=om;rw[hz,Nat.sub_self];cases hv with
   |slice hl hc nu ry=>exact .kQ (fun j hj=>by cases hj)
   |kQ hc=>exact .kQ (fun j hj=>by cases hj)
  ·simp only[if_neg e];cases hv with
   |slice hl hc nu ry=>
    rename_i L;have hle:L.base+(off+l*z)+(M-l)*z<=L.pA:=by
     have h1:l*z+(M-l)*z=M*z:=by rw[<-Nat.add_mul];congr 1;omega
     omega
    have:=VR.slice (φ:=φ) (b:=b) (o:=off+l*z) (n:=h-l) (z:=z) (cap:=M-l) (c:=none) hl (fun j hj=>by cases hj) om hle;simpa[rX,Nat.add_assoc]using this
   |kQ hc=>omega
theorem VR.uD {b off n z:Nat} {c:Option Nat} {u:Value} (hv:VR φ (.slice b off n c z) u):∃ad cap,u=.slice (some ad) n cap/\n<=cap/\(∀k,c=some k->cap=k\/(n=0/\cap=0/\k=0)):=by
 cases hv with
 |slice hl hc hn ht=>exact⟨_,_,rfl,hn,fun k hk=>.inl (hc k hk)⟩
 |kQ hc=>exact⟨_,_,rfl,Nat.le_refl _,fun k hk=>.inr ⟨rfl,rfl,hc k hk⟩⟩
theorem ah3 {t e:TypeId} {ti:TI} {x:Operand} {lo hi mx:Option Operand} {x':X} {eA cu uv:Option X} (hu:P.underlying t=some (.slice e)) (bu:fq P e ti) (hx:aR x=some x')
 (fA:jW lo=some eA) (jM:jW hi=some cu) (nt:jW mx=some uv) (aP:mx≠none->∃h0,hi=some h0)
 (ho:o.op=.slice t x lo hi mx) (ht:aE φ ts a.tmps.toList) (hh:HR φ B H w) (he:evalOp (.lS ti.size eA cu uv x') ts H=some (v,H')):aK P φ B H w (execOp a.eval o) v H':=by
 have h1:=bF hx ht;have dK:∀(u:Option Addr) (n cap l h M:Nat),a.eval x=.slice u n cap->(Instr.sliceBounds true n cap (lo.map a.eval) (hi.map a.eval) (mx.map a.eval)).run P w=.ok (l,h,M) w->
  (execOp a.eval o).run P w=.ok (.value (.slice (if M=l then u else u.map (·.add (l*ti.size))) (h-l) (M-l))) w:=by
  intro u n cap l h M hp hb;simp only[execOp,ho,hp];refine eD ?_;simp only[Instr.sliceAt,Sem.run_bind,run_underlying hu,Result.andThen_ok,Instr.slice,hb,bu.run_sizeOf,Sem.run_pure]
 simp only[evalOp]at he;split at he
 ·rename_i e1;cases hm:eY ts uv 0 0 with
  |none=>simp[hm]at he
  |some m=>
   cases ld:eY ts cu 0 0 with
   |none=>simp[hm,ld]at he
   |some h=>
    cases dE:eY ts eA 0 0 with
    |none=>simp[hm,ld,dE]at he
    |some l=>
     simp only[hm,ld,dE,Option.some.injEq,Prod.mk.injEq]at he;obtain⟨rfl,rfl⟩:=he;rw[e1]at h1;generalize hp:a.eval x=p at h1;cases h1;have key:∀(y:Option X) (k:Nat),eY ts y 0 0=some k->k=0:=fun y k hk=>Nat.le_zero.1 (xN hk (Nat.le_refl _))
     have e2:=key _ _ ld;have e3:=key _ _ dE;have e4:=key _ _ hm;subst e2 e3 e4;have hb:(Instr.sliceBounds true 0 0 (lo.map a.eval) (hi.map a.eval) (mx.map a.eval)).run P w=.ok (0,0,0) w:=by
      rcases JT nt ht with⟨rfl,rfl⟩|⟨x0,y0,rfl,rfl,hr⟩
      ·exact Hl fA jM ht (Nat.le_refl _) ld dE
      ·exact XM (lim:=0) fA jM ht hr (Nat.le_refl _) hm (aP (by simp)) ld dE
     exact aK.pure (dK none 0 0 0 0 0 hp hb) (by simpa using VR.ao) hh
 ·rename_i b off n c z e1;split at he
  ·cases he
  ·rename_i hz;have hz':=Nat.eq_of_beq_eq_true hz;rw[e1]at h1;obtain⟨ad,cap,hp,aeR,tS⟩:=h1.uD;rw[hp]at h1;subst hz';cases jP:vJ ts uv c n with
   |none=>rw[jP]at he;cases he
   |some mm=>
    rw[jP]at he;dsimp only at he;cases ld:eY ts cu n (ln mm n)with
    |none=>rw[ld]at he;cases he
    |some h=>
     rw[ld]at he;dsimp only at he;cases dE:eY ts eA 0 h with
     |none=>rw[dE]at he;cases he
     |some l=>
      rw[dE]at he;simp only[Option.some.injEq,Prod.mk.injEq]at he;obtain⟨rfl,rfl⟩:=he;have zv:l<=h:=xN dE (Nat.zero_le _);have nW:ln c n<=cap:=by
       cases c with
       |none=>exact aeR
       |some k=>rcases tS k rfl with h|⟨_,h1,h2⟩<;>simp[ln]<;>omega
      have aeW:n<=ln c n:=by
       cases c with
       |none=>exact Nat.le_refl _
       |some k=>rcases tS k rfl with h|⟨h0,h1,h2⟩<;>simp[ln]<;>omega
      rcases JT nt ht with⟨rfl,rfl⟩|⟨x0,y0,rfl,rfl,hr⟩
      ·
       simp only[vJ,Option.some.injEq]at jP;subst jP;have hb:=Hl (P:=P) (w:=w) (isSlice:=true) (len:=n) (cap:=cap) fA jM ht nW ld dE;have hle:h<=ln c n:=xN ld aeW;exact aK.pure (dK _ _ _ _ _ _ hp hb) (Pd (φ:=φ) h1 zv c cap (by
        cases c with
        |none=>exact .inr ⟨rfl,rfl,rfl⟩
        |some k=>exact .inl ⟨k,rfl,by rcases tS k rfl with h|⟨_,h1,h2⟩<;>omega,by rcases tS k rfl with h|⟨_,h1,h2⟩<;>omega,fun h=>by cases h⟩) (Nat.le_trans hle nW)
        (fun hc=>by subst hc;exact hle)) hh
      ·
       simp only[vJ]at jP;cases hk:idx (y0.ev ts) (ln c n)with
       |none=>rw[hk]at jP;cases jP
       |some k=>
        rw[hk]at jP;cases jP;have hb:=XM (P:=P) (w:=w) (len:=n) (cap:=cap) fA jM ht hr nW hk (aP (by simp)) ld dE;have p0:k<=ln c n:=(Nf hk hr).elim fun _ h=>h.2
        have hhk:h<=k:=by
         obtain⟨h0,LW⟩:=aP (by simp);rcases CQ jM ht ld with⟨e2,_⟩|⟨x1,s,_,fc,gf⟩
         ·rw[LW]at e2;cases e2
         ·exact(Nf gf fc).elim fun _ h=>h.2
        exact aK.pure (dK _ _ _ _ _ _ hp hb) (Pd (φ:=φ) h1 zv (some k) k (.inl ⟨k,rfl,rfl,Nat.le_trans p0 nW,fun hc=>by subst hc;exact p0⟩) hhk (fun hc=>by cases hc)) hh
 ·cases he
theorem ah1 {t e:TypeId} {n:Nat} {ti:TI} {x:Operand} {lo hi:Option Operand} {x':X} {eA cu:Option X} (hu:P.underlying t=some (.array n e)) (bu:fq P e ti) (hx:aR x=some x')
 (fA:jW lo=some eA) (jM:jW hi=some cu)
 (ho:o.op=.slice t x lo hi none) (ht:aE φ ts a.tmps.toList) (hh:HR φ B H w)
 (he:evalOp (.Ax n ti.size eA cu x') ts H=some (v,H')):aK P φ B H w (execOp a.eval o) v H':=by
 have h1:=bF hx ht;simp only[evalOp]at he;split at he
 ·rename_i b off e1;cases nV:eK H b off (n*ti.size)with
  |none=>rw[nV]at he;cases he
  |some cs0=>
   rw[nV]at he;dsimp only at he;cases ld:eY ts cu n n with
   |none=>rw[ld]at he;cases he
   |some h=>
    rw[ld]at he;dsimp only at he;cases dE:eY ts eA 0 h with
    |none=>rw[dE]at he;cases he
    |some l=>
     rw[dE]at he;simp only[Option.some.injEq,Prod.mk.injEq]at he;obtain⟨rfl,rfl⟩:=he;have zv:l<=h:=xN dE (Nat.zero_le _);have hhn:h<=n:=xN ld (Nat.le_refl _);have hb:=Hl (P:=P) (w:=w) (isSlice:=false) (len:=n) (cap:=n) fA jM ht (Nat.le_refl _) ld dE;rw[e1]at h1;generalize hp:a.eval x=p at h1;cases h1 with
     |ptr hl=>
      rename_i L;obtain⟨_,_,_,_,MI⟩:=hh.load hl nV;have hv:VR φ (.slice b off n (some n) ti.size) (.slice (some ⟨L.rb,L.base+off,none⟩) n n):=.slice hl (fun k hk=>by cases hk;rfl) (Nat.le_refl _) MI;have aeG:=Pd hv zv (some n) n (.inl ⟨n,rfl,rfl,Nat.le_refl _,fun hc=>by cases hc⟩) hhn (fun hc=>by cases hc);have dK:(execOp a.eval o).run P w=.ok (.value (.slice (if n=l then some ⟨L.rb,L.base+off,none⟩else(some (⟨L.rb,L.base+off,none⟩:Addr)).map (·.add (l*ti.size))) (h-l) (n-l))) w:=by
       simp only[execOp,ho,hp];refine eD ?_;simp only[Instr.sliceAt,Sem.run_bind,run_underlying hu,Result.andThen_ok,Instr.sureAddr,Sem.run_pure,bu.run_sizeOf,Option.map_none,hb];split<;>rfl
      exact aK.pure (H:=H) dK aeG hh
 ·cases he
end
end
section
open Go.RowKit (Below)
theorem akl (vs:List Value) (C:Array Value) (o:Nat) (h:o+vs.length<=C.size):(rQ C o vs).toList=C.toList.take o++(vs++C.toList.drop (o+vs.length)):=by
 apply List.ext_getElem?;intro i;have hlen:(C.toList.take o).length=o:=by rw[List.length_take,Array.length_toList (xs:=C)];omega
 rw[Array.getElem?_toList,Hy vs C o i h,List.getElem?_append,hlen];by_cases h1:i<o
 ·rw[if_neg om,if_pos h1,List.getElem?_take,if_pos h1,Array.getElem?_toList]
 ·rw[if_neg h1,List.getElem?_append];by_cases h2:i-o<vs.length
  ·rw[if_pos om,if_pos h2]
  ·rw[if_neg om,if_neg h2,List.getElem?_drop,Array.getElem?_toList];congr 1;omega
theorem S7 (off:Nat):∀(l:List Value) (k:Nat) (C:Array Value),(l.zipIdx k).foldl (fun cs (p:Value×Nat)=>cs.setIfInBounds (off+p.2) p.1) C=rQ C (off+k) l
 |[],k,C=>rfl
 |v::r,k,C=>by
  simp only[List.zipIdx_cons,List.foldl_cons,rQ];rw[S7 off r (k+1)];congr 1
theorem aE.sY {φ:aI} {cs vs:List SV} {C:Array Value} {us:List Value} {off:Nat} (h:aE φ cs C.toList) (k:aE φ vs us) (hf:off+us.length<=C.size):aE φ (sY cs off vs) (rQ C off us).toList:=by
 rw[akl us C off hf,<-k.length];exact(h.take off).append (k.append (h.drop _))
section
variable {P:Program} {φ:aI} {B:Nat} {H H':ag} {w:World} {ts:T} {a:Act} {o:Oper} {v:SV}
inductive PL (place:Nat->Option (Nat×Nat)):List (Nat×Operand)->List (Nat×Nat×X)->Prop where
 |nil:PL place [] []
 |cons {i:Nat} {x:Operand} {off size:Nat} {y:X} {L:List (Nat×Operand)} {ps:List (Nat×Nat×X)} (h:place i=some (off,size)) (hc:aR x=some y) (t:PL place L ps):PL place ((i,x)::L) ((off,size,y)::ps)
theorem Hi {place:Nat->Option (Nat×Nat)} (ht:aE φ ts a.tmps.toList):∀{L:List (Nat×Operand)} {ps:List (Nat×Nat×X)} {cs iO:List SV} {C:Array Value},PL place L ps->aE φ cs C.toList->
 eM ts cs ps=some iO->∃C',Instr.fill place C (L.map fun p=>(p.1,a.eval p.2))=some C'/\aE φ iO C'.toList
 |_,_,cs,iO,C,.nil,hv,hf=>by
  simp only[eM,Option.some.injEq]at hf;subst hf;exact⟨C,rfl,hv⟩
 |_,_,cs,iO,C,.cons (i:=i) (x:=x) (off:=off) (size:=size) (y:=y) (L:=L) hp hc t,hv,hf=>by
  simp only[eM]at hf;split at hf
  ·rename_i hb;simp only[Bool.and_eq_true]at hb;have hr:=(bF hc ht).cells;have e1:(y.ev ts).cells.length=size:=Nat.eq_of_beq_eq_true hb.1;have e2:=Nat.le_of_ble_eq_true hb.2;have e3:(a.eval x).cells.size=size:=by have:=hr.length;simp only[Array.length_toList]at this;omega
   have e4:C.size=cs.length:=by have:=hv.length;simp only[Array.length_toList]at this;omega
   have kh:=hv.sY (off:=off) hr (by simp only[Array.length_toList];omega);obtain⟨C',hC,oa⟩:=Hi ht t kh hf;refine⟨C',?_,oa⟩;simp only[List.map_cons,Instr.fill,hp];rw[if_neg (by simp;omega)];rw[<-hC];congr 1;rw[<-Array.foldl_toList,Array.toList_zipIdx,S7 off _ 0];rfl
  ·cases hf
theorem XF (P:Program) (w:World):∀(fs:List Field),(fs.all fun f=>(P.info? f.type).isSome)=true->
 (fs.mapM fun f=>do pure (f.offset,<-sizeOf f.type):Sem (List (Nat×Nat))).run P w=.ok (fs.map fun f=>(f.offset,P.cellsOf f.type)) w
 |[],_=>rfl
 |f::fs,h=>by
  simp only[List.all_cons,Bool.and_eq_true]at h;obtain⟨j,hj⟩:=Option.isSome_iff_exists.1 h.1;have ih:=XF P w fs h.2;simp only[List.mapM_cons,Sem.run_bind,run_sizeOf w hj,Result.andThen_ok,Sem.run_pure,ih,List.map_cons]
theorem W1 {fs:Array Field}:∀{L:List (Nat×Operand)} {ps:List (Nat×Nat×X)},Am P fs L=some ps->PL (fun i:Nat=>(fs.map fun f=>(f.offset,P.cellsOf f.type))[i]?) L ps
 |[],ps,h=>by simp[Am]at h;subst h;exact .nil
 |(i,x)::L,ps,h=>by
  simp only[Am]at h;split at h
  ·cases h
  ·rename_i f hf;split at h
   ·rename_i j y r hj hy hr;cases h;refine .cons ?_ hy (W1 hr);simp[hf,Program.cellsOf,hj]
   ·cases h
theorem N3 {size:Nat}:∀{L:List (Nat×Operand)} {ps:List (Nat×Nat×X)},vM size L=some ps->PL (fun i=>some (i*size,size)) L ps
 |[],ps,h=>by simp[vM]at h;subst h;exact .nil
 |(i,x)::L,ps,h=>by
  simp only[vM]at h;split at h
  ·rename_i y r hy hr;cases h;exact .cons rfl hy (N3 hr)
  ·cases h
theorem ahp {t:TypeId} {ti:TI} {fs:Array Field} {parts:Array (Nat×Operand)} {ps:List (Nat×Nat×X)} (hi:fq P t ti) (hu:P.underlying t=some (.struct fs)) (hp:Am P fs parts.toList=some ps)
 (gS:(fs.toList.all fun f=>(P.info? f.type).isSome)=true) (ho:o.op=.build t parts) (ht:aE φ ts a.tmps.toList) (hh:HR φ B H w) (he:evalOp (.build ti.zero ps) ts H=some (v,H')):
 aK P φ B H w (execOp a.eval o) v H':=by
 simp only[evalOp]at he;split at he
 ·rename_i cs hf;cases he;obtain⟨z,hz,hr⟩:=hi.yh w;have hv:aE φ ti.zero z.cells.toList:=by rw[hi.zero];exact(hz φ).cells
  obtain⟨C,hC,vu⟩:=Hi (φ:=φ) ht (W1 hp) hv hf;refine aK.pure (u:=.agg C) ?_ (.agg vu) hh;simp only[execOp,ho];refine eD ?_;have hm:=XF P w fs.toList gS;have zw:(parts.map fun(i,x)=>(i,a.eval x)).toList=parts.toList.map fun p=>(p.1,a.eval p.2):=by simp
  simp only[Instr.build,Sem.run_bind,hr,Result.andThen_ok,run_underlying hu,Array.mapM_eq_mapM_toList,Sem.run_map,hm];have fG:∀i:Nat,(fs.toList.map fun f=>(f.offset,P.cellsOf f.type)).toArray[i]? =(fs.map fun f=>(f.offset,P.cellsOf f.type))[i]? :=by intro i;simp
  simp only[fG,zw,hC,Sem.run_pure]
 ·cases he
theorem ahq {t e:TypeId} {n:Nat} {ti:TI} {j:TypeInfo} {parts:Array (Nat×Operand)} {ps:List (Nat×Nat×X)} (hi:fq P t ti) (hu:P.underlying t=some (.array n e)) (hj:P.info? e=some j) (hp:vM j.size parts.toList=some ps)
 (ho:o.op=.build t parts) (ht:aE φ ts a.tmps.toList) (hh:HR φ B H w) (he:evalOp (.build ti.zero ps) ts H=some (v,H')):
 aK P φ B H w (execOp a.eval o) v H':=by
 simp only[evalOp]at he;split at he
 ·rename_i cs hf;cases he;obtain⟨z,hz,hr⟩:=hi.yh w;have hv:aE φ ti.zero z.cells.toList:=by rw[hi.zero];exact(hz φ).cells
  obtain⟨C,hC,vu⟩:=Hi (φ:=φ) ht (N3 hp) hv hf;refine aK.pure (u:=.agg C) ?_ (.agg vu) hh;simp only[execOp,ho];refine eD ?_;have zw:(parts.map fun(i,x)=>(i,a.eval x)).toList=parts.toList.map fun p=>(p.1,a.eval p.2):=by simp
  have hs:(sizeOf e).run P w=.ok j.size w:=by simp[sizeOf,typeInfo,hj]
  simp only[Instr.build,Sem.run_bind,hr,Result.andThen_ok,run_underlying hu,hs,zw,hC,Sem.run_pure]
 ·cases he
theorem S4 {α:Type} (l:List α) (hl:0<l.length):∀(n i:Nat),(List.replicate n l).flatten[i]? =if i<n*l.length then l[i%l.length]? else none
 |0,i=>by simp
 |n+1,i=>by
  rw[List.replicate_succ,List.flatten_cons,List.getElem?_append];split
  ·rename_i h;rw[if_pos (by rw[Nat.succ_mul];omega),Nat.mod_eq_of_lt h]
  ·rename_i h;rw[S4 l hl n (i-l.length)];have e:(i-l.length)%l.length=i%l.length:=by
    rw[Nat.mod_eq_sub_mod (a:=i) om]
   rw[e];by_cases h2:i-l.length<n*l.length
   ·rw[if_pos h2,if_pos (by rw[Nat.succ_mul];omega)]
   ·rw[if_neg h2,if_neg (by rw[Nat.succ_mul];omega)]
theorem aE.repeat {zs:List SV} {z:Array Value} (h:aE φ zs z.toList) (hp:0<zs.length) (n:Nat):aE φ (List.replicate n zs).flatten ((Array.range (n*zs.length)).map (z[· %z.size]!)).toList:=by
 have hs:z.size=zs.length:=by have:=h.length;simp only[Array.length_toList]at this;omega
 refine aE.mk (by simp[List.length_flatten]) fun i x hx=>?_
 rw[S4 zs hp]at hx;split at hx
 ·rename_i hi;obtain⟨u,hu,hr⟩:=h.get _ _ hx;refine⟨u,?_,hr⟩;simp only[Array.getElem?_toList]at hu ⊢;rw[Array.getElem?_map,Array.getElem?_range,if_pos hi,Option.map_some,hs];rw[getElem!_def,hu]
 ·cases hx
theorem aho {t e:TypeId} {len:Nat} {ti:TI} {parts:Array (Nat×Operand)} {ps:List (Nat×Nat×X)} (hi:fq P e ti) (hu:P.underlying t=some (.slice e)) (hp:vM ti.size parts.toList=some ps)
 (xE:len*ti.size<=16777216) (ho:o.op=.buildSlice t len parts) (ht:aE φ ts a.tmps.toList) (hh:HR φ B H w)
 (he:evalOp (.hO e ti.size len (List.replicate len ti.zero).flatten ps) ts H=some (v,H')):
 aK P φ B H w (execOp a.eval o) v H':=by
 simp only[evalOp]at he;split at he
 ·rename_i cs hf;cases he;obtain⟨z,hz,hr⟩:=hi.yh w;have hv0:aE φ ti.zero z.cells.toList:=by rw[hi.zero];exact(hz φ).cells
  have hv:=hv0.repeat (by rw[hi.len];exact hi.pos) len;rw[hi.len]at hv;obtain⟨C,hC,vu⟩:=Hi (φ:=φ) ht (N3 hp) hv hf;obtain⟨h1,h2⟩:=hh.alloc (e:=e) (vs:=C) vu;have adG:C.size=cs.length:=by have:=vu.length;simp only[Array.length_toList]at this;omega
  have aee:∀(ps:List (Nat×Nat×X)) (c c':List SV),eM ts c ps=some c'->c'.length=c.length:=by
   intro ps
   induction ps with
   |nil=>intro c c' h;simp[eM]at h;rw[h]
   |cons p ps ih=>
    intro c c' h;obtain⟨off,sz,x⟩:=p;simp only[eM]at h;split at h
    ·rename_i hb;simp only[Bool.and_eq_true]at hb;have e2:=Nat.le_of_ble_eq_true hb.2;rw[ih _ _ h];simp[sY];omega
    ·cases h
  have nU:=aee _ _ _ hf;refine aK.mk (u:=.slice (some ⟨w.heap.size,0,none⟩) len len) (Nat.le_succ _) (aI.si hh.fresh) ?_ ?_ h1 h2
  ·simp only[execOp,ho];refine eD ?_;have zw:(parts.map fun(i,x)=>(i,a.eval x)).toList=parts.toList.map fun p=>(p.1,a.eval p.2):=by simp
   have hn:¬(len*ti.size>2^24):=om;simp only[Instr.buildSlice,Sem.run_bind,run_underlying hu,Result.andThen_ok,hi.run_sizeOf,if_neg hn];by_cases xK:len*ti.size=0
   ·have K0:Instr.fill (fun i=>some (i*ti.size,ti.size)) ((Array.range (len*ti.size)).map (fun x=>(#[]:Array Value)[x%0]!)) (parts.toList.map fun p=>(p.1,a.eval p.2))=some C:=by
     have B5:∀f:Nat->Value,(Array.range 0).map f=#[]:=fun f=>by simp
     rw[<-hC,xK,B5,B5]
    simp only[if_pos xK,Sem.run_pure,Result.andThen_ok,zw];simp only[List.size_toArray,List.length_nil,K0,Sem.run_bind,newRow,Result.andThen_ok,Sem.run_pure];simp
   ·simp only[if_neg xK,Sem.run_bind,hr,Result.andThen_ok,Sem.run_pure,zw,hC,newRow];simp
  ·refine .slice (l:=⟨w.heap.size,0,C.size,.bool false⟩) (aI.qi _ _ _) (fun k hk=>by cases hk;rfl) (Nat.le_refl _) ?_;simp only[Nat.zero_add,adG,nU,List.length_flatten,List.map_replicate,List.sum_replicate_nat,hi.len];omega
 ·cases he
theorem ahT {t:TypeId} (ho:o.op=.makeMap t none) (hh:HR φ B H w) (he:evalOp .vG ts H=some (v,H')):aK P φ B H w (execOp a.eval o) v H':=by
 simp only[evalOp,Option.some.injEq,Prod.mk.injEq]at he;obtain⟨rfl,rfl⟩:=he;have mB:=hh.push (so:=.map [] 0) (l:=⟨w.heap.size,0,0,.bool false⟩) (o:=.map #[] 0) (w':=w.alloc (.map #[] 0)) rfl (by simp) (fun k hk=>Below.heap_alloc _ _ _ hk)
  (fun hn=>.map hn rfl (fun i k v n h=>by simp at h) hh.sz) (heap_alloc_new w _)
 refine aK.mk (u:=.map (some w.heap.size)) (Nat.le_succ _) (aI.si hh.fresh) ?_ (.map (l:=⟨w.heap.size,0,0,.bool false⟩) (aI.qi _ _ _)) mB ((Below.refl _ _).alloc hh.sz _);simp[execOp,ho,Instr.makeMap]
theorem ahU {t e:TypeId} {ti:TI} {l c:Operand} {l' c':X} (hi:fq P e ti) (hu:P.underlying t=some (.slice e)) (hl:aR l=some l') (hc:aR c=some c') (ho:o.op=.makeSlice t l c) (ht:aE φ ts a.tmps.toList) (hh:HR φ B H w)
 (he:evalOp (.vH e ti.size ti.bytes ti.zero l' c') ts H=some (v,H')):aK P φ B H w (execOp a.eval o) v H':=by
 have h1:=bF hl ht;have h2:=bF hc ht;simp only[evalOp]at he;split at he
 ·rename_i k1 n k2 m e1 e2;split at he
  ·rename_i hb;cases he;simp only[Bool.and_eq_true]at hb;have b1:=Nat.le_of_ble_eq_true hb.1.1;have b2:=Nat.le_of_ble_eq_true hb.1.2;have b3:=Nat.le_of_ble_eq_true hb.2;simp only[dR]at b2 b3;rw[e1]at h1;rw[e2]at h2;generalize hp:a.eval l=p at h1;generalize hq:a.eval c=q at h2;cases h1;cases h2;obtain⟨z,hz,hr⟩:=hi.yh w;have hv0:aE φ ti.zero z.cells.toList:=by rw[hi.zero];exact(hz φ).cells
   have hv:=hv0.repeat (by rw[hi.len];exact hi.pos) m;rw[hi.len]at hv;obtain⟨info,d,z',pZ,hd,hz',hs,qU,ha,_⟩:=hi.ex;have bu:(typeInfo e).run P w=.ok info w:=by simp[typeInfo,pZ]
   have wn:IntKind.i64.wrap (Int.ofNat n)=Int.ofNat n:=IntWalk.i64_in _ (by simp only[Int.ofNat_eq_natCast];omega);have wm:IntKind.i64.wrap (Int.ofNat m)=Int.ofNat m:=IntWalk.i64_in _ (by simp only[Int.ofNat_eq_natCast];omega);have hbm:((info.bytes:Int)*(m:Int))<=35184372088832:=by
    have h:((m*ti.bytes:Nat):Int)<=35184372088832:=Int.ofNat_le.2 b2;rw[qU,Int.mul_comm,<-Int.natCast_mul];exact h
   obtain⟨h3,h4⟩:=hh.alloc (e:=e) (vs:=(Array.range (m*ti.size)).map (z.cells[· %z.cells.size]!)) hv;refine aK.mk (u:=.slice (some ⟨w.heap.size,0,none⟩) n m) (Nat.le_succ _) (aI.si hh.fresh) ?_ ?_ h3 h4
   ·simp only[execOp,ho,hp,hq];refine eD ?_;have c1:((decide ((m:Int)<0)||decide ((info.bytes:Int)*(m:Int)>2^48))||decide ((n:Int)<0)||decide ((n:Int)>(m:Int)))=false:=by
     have h0:¬((m:Int)<0):=om;have h1:¬((info.bytes:Int)*(m:Int)>2^48):=om;have h2:¬((n:Int)<0):=om;have h3:¬((n:Int)>(m:Int)):=om;simp only[h0,h1,h2,h3,decide_false,Bool.or_self]
    simp only[Instr.makeSlice,Sem.run_bind,run_underlying hu,Result.andThen_ok,asInt,asIntOf,Sem.run_pure,bu,wn,wm];have c2:((decide (Int.ofNat m<0)||decide ((info.bytes:Int)*Int.ofNat m>2^48))||decide (Int.ofNat n<0)||decide (Int.ofNat n>Int.ofNat m))=false:=c1;have adU:(askRoom ((Int.ofNat m).toNat*info.bytes)).run P w=.ok () w:=by
     have gT:¬((Int.ofNat m).toNat*info.bytes>roomBytes):=by
      rw[qU];simp only[Int.ofNat_eq_natCast,Int.toNat_natCast,roomBytes];omega
     simp only[askRoom,if_neg gT,Sem.run_pure]
    simp only[c2,Bool.false_eq_true,if_false,Sem.run_bind,adU,Result.andThen_ok,hi.run_sizeOf];by_cases xK:m*ti.size=0
    ·have qf:(Int.ofNat m).toNat*ti.size=0:=xK;have B5:∀f:Nat->Value,(Array.range 0).map f=#[]:=fun f=>by simp
     rw[if_pos qf];simp only[Sem.run_bind,Sem.run_pure,Result.andThen_ok,newRow];rw[qf,xK,B5,B5];simp
    ·have qf:¬(Int.ofNat m).toNat*ti.size=0:=xK;rw[if_neg qf];simp only[Sem.run_bind,hr,Sem.run_pure,Result.andThen_ok,newRow];simp
   ·refine .slice (l:=⟨w.heap.size,0,_,.bool false⟩) (aI.qi _ _ _) (fun k hk=>by cases hk;rfl) b1 ?_;simp
  ·cases he
 ·cases he
end
end
end Go.Sh
