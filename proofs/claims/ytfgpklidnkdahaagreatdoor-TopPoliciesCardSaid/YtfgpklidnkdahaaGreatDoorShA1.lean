/-
  The shadow values, the compiled form of a function and its evaluator are defined here, and facts of short forms are proved. No conditions beyond those that stand in the theorems.
-/
import Derived.Calls
set_option linter.all false
set_option maxHeartbeats 20000000
namespace Go.Sh
theorem om {p:Prop} (h:p:=by omega):p:=h
theorem dt {p:Prop} [Decidable p] (h:p:=by omega):decide p=true:=decide_eq_true h
theorem df {p:Prop} [Decidable p] (h:¬p:=by omega):decide p=false:=decide_eq_false h
theorem An {a b:Prop} (x:a) (y:b):a/\b:=⟨x,y⟩
theorem ae:True:=trivial
section
inductive SV where
 |bool (b:Bool)
 |int (k:IntKind) (n:Int)
 |str (s:List Nat)
 |ptr (b o:Nat)
 |cM
 |slice (b o n:Nat) (cap:Option Nat) (z:Nat)
 |ao
 |map (b:Nat)
 |lP
 |func (f:FuncId) (first captured:List SV)
 |lO
 |iface (t:TypeId) (v:SV)
 |lq
 |agg (cs:List SV)
 |aJ (vs:List SV)
 |rM (b:Nat)
 deriving Inhabited
def SV.undef:SV:=.aJ []
def SV.cells:SV->List SV
 |.agg cs=>cs
 |v=>[v]
def SV.one:SV->Bool
 |.agg _=>false
 |.aJ _=>false
 |_=>true
inductive Tr (α:Type) where
 |leaf
 |node (l:Tr α) (v:Option α) (r:Tr α)
def Tr.get {α:Type}:Tr α->Nat->Option α
 |.leaf,_=>none
 |.node l v r,n=>
  match n with
  |0=>v
  |m+1=>match m%2 with
   |0=>l.get (m/2)
   |_+1=>r.get (m/2)
def Tr.set {α:Type}:Nat->Tr α->Nat->α->Tr α
 |0,t,_,_=>t
 |f+1,t,n,a=>
  match t with
  |.leaf=>match n with
   |0=>.node .leaf (some a) .leaf
   |m+1=>match m%2 with
    |0=>.node (Tr.set f .leaf (m/2) a) none .leaf
    |_+1=>.node .leaf none (Tr.set f .leaf (m/2) a)
  |.node l v r=>match n with
   |0=>.node l (some a) r
   |m+1=>match m%2 with
    |0=>.node (Tr.set f l (m/2) a) v r
    |_+1=>.node l v (Tr.set f r (m/2) a)
def Tr.put {α:Type} (t:Tr α) (n:Nat) (a:α):Tr α:=Tr.set (n+1) t n a
theorem Tr.adf {α:Type}:∀(f:Nat) (t:Tr α) (n:Nat) (a:α),n<f->∀m,(Tr.set f t n a).get m=if m=n then some a else t.get m:=by
 intro f
 induction f with
 |zero=>intro t n a h;omega
 |succ f ih=>
  intro t n a h m;cases t with
  |leaf=>
   cases n with
   |zero=>cases m<;>simp[Tr.set,Tr.get];split<;>rfl
   |succ n=>
    have hk:n/2<f:=om;rcases Nat.mod_two_eq_zero_or_one n with hn|hn
    ·cases m with
     |zero=>simp[Tr.set,Tr.get,hn]
     |succ m=>
      rcases Nat.mod_two_eq_zero_or_one m with hm|hm
      ·simp only[Tr.set,Tr.get,hn,hm,ih _ _ _ hk];by_cases e:m=n
       ·simp[e]
       ·have:m/2≠n/2:=om;simp[e,this]
      ·have:m≠n:=om;simp[Tr.set,Tr.get,hn,hm,this]
    ·cases m with
     |zero=>simp[Tr.set,Tr.get,hn]
     |succ m=>
      rcases Nat.mod_two_eq_zero_or_one m with hm|hm
      ·have:m≠n:=om;simp[Tr.set,Tr.get,hn,hm,this]
      ·simp only[Tr.set,Tr.get,hn,hm,ih _ _ _ hk];by_cases e:m=n
       ·simp[e]
       ·have:m/2≠n/2:=om;simp[e,this]
  |node l v r=>
   cases n with
   |zero=>cases m<;>simp[Tr.set,Tr.get]
   |succ n=>
    have hk:n/2<f:=om;rcases Nat.mod_two_eq_zero_or_one n with hn|hn
    ·cases m with
     |zero=>simp[Tr.set,Tr.get,hn]
     |succ m=>
      rcases Nat.mod_two_eq_zero_or_one m with hm|hm
      ·simp only[Tr.set,Tr.get,hn,hm,ih _ _ _ hk];by_cases e:m=n
       ·simp[e]
       ·have:m/2≠n/2:=om;simp[e,this]
      ·have:m≠n:=om;simp[Tr.set,Tr.get,hn,hm,this]
    ·cases m with
     |zero=>simp[Tr.set,Tr.get,hn]
     |succ m=>
      rcases Nat.mod_two_eq_zero_or_one m with hm|hm
      ·have:m≠n:=om;simp[Tr.set,Tr.get,hn,hm,this]
      ·simp only[Tr.set,Tr.get,hn,hm,ih _ _ _ hk];by_cases e:m=n
       ·simp[e]
       ·have:m/2≠n/2:=om;simp[e,this]
theorem Tr.mV {α:Type} (t:Tr α) (n:Nat) (a:α) (m:Nat):(t.put n a).get m=if m=n then some a else t.get m:=
 Tr.adf _ _ _ _ (Nat.lt_succ_self _) _
inductive cz where
 |row (cells:List SV) (elem:TypeId) (exact ro:Bool) (frz:Nat)
 |map (es:List (SV×SV×Nat)) (clock:Nat)
 |ko (s:List Nat) (pos:Nat)
 |dead
 deriving Inhabited
structure ag where
 next:Nat
 oC:Tr cz
def ag.get (H:ag) (b:Nat):Option cz:=H.oC.get b
def ag.put (H:ag) (b:Nat) (o:cz):ag:={H with oC:=H.oC.put b o}
def ag.push (H:ag) (o:cz):ag:={next:=H.next+1,oC:=H.oC.put H.next o}
theorem ag.mV (H:ag) (b:Nat) (o:cz) (m:Nat):(H.put b o).get m=if m=b then some o else H.get m:=Tr.mV _ _ _ _
theorem ag.mU (H:ag) (o:cz) (m:Nat):(H.push o).get m=if m=H.next then some o else H.get m:=Tr.mV _ _ _ _
def eK (H:ag) (b o n:Nat):Option (List SV):=
 match H.get b with
 |some (.row cs _ _ _ _)=>match Nat.ble (o+n) cs.length with
  |true=>some ((cs.drop o).take n)
  |false=>none
 |_=>none
def gN (H:ag) (b o:Nat) (vs:List SV):Option ag:=
 match H.get b with
 |some (.row cs e ex false frz)=>
  match Nat.ble (o+vs.length) cs.length&&Nat.ble frz o&&vs.all SV.one with
  |true=>some (H.put b (.row (cs.take o++(vs++cs.drop (o+vs.length))) e ex false frz))
  |false=>none
 |_=>none
inductive X where
 |t (n:Nat)
 |c (v:SV)
abbrev T:=List SV
def X.ev (ts:T):X->SV
 |.t n=>ts.getD n SV.undef
 |.c v=>v
def fi (ts:T):List X->List SV
 |[]=>[]
 |x::xs=>x.ev ts::fi ts xs
inductive cJ where
 |mv (x:X)
 |pick (c a b:X)
 |bad
 |alloc (zero:List SV) (elem:TypeId)
 |box (elem:TypeId) (x:X)
 |build (zero:List SV) (parts:List (Nat×Nat×X))
 |hO (elem:TypeId) (z len:Nat) (zero:List SV) (parts:List (Nat×Nat×X))
 |load (agg:Bool) (n:Nat) (a:X)
 |store (n:Nat) (a x:X)
 |jk (x:X)
 |bin (op:BinOp) (x y:X)
 |hZ (neg agg:Bool) (L:List (Nat×Nat)) (x y:X)
 |tu (neg:Bool) (kind:Nat) (x y:X)
 |un (op:UnOp) (x:X)
 |wF (k:IntKind) (x:X)
 |yX (x:X)
 |Bk (elem:TypeId) (x:X)
 |yV (x:X)
 |Ac (t:TypeId) (x:X)
 |vF (f:FuncId) (first captured:List X)
 |vG
 |vH (elem:TypeId) (z bytes:Nat) (zero:List SV) (l c:X)
 |yj (lo hi:Option X) (x:X)
 |lS (z:Nat) (lo hi mx:Option X) (x:X)
 |Ax (n z:Nat) (lo hi:Option X) (x:X)
 |cC (off:Nat) (x:X)
 |wL (agg:Bool) (n off:Nat) (x:X)
 |gj (z:Nat) (x i:X)
 |xM (n z:Nat) (x i:X)
 |jy (x i:X)
 |xQ (n:Nat) (agg:Bool) (z:Nat) (x i:X)
 |rG (agg:Bool) (L:List (Nat×Nat)) (zero:SV) (ok:Bool) (m k:X)
 |sP (agg:Bool) (L:List (Nat×Nat)) (m k v:X)
 |ext (i:Nat) (x:X)
 |lens (x:X)
 |cA (x:X)
 |z8 (x:X)
 |z7 (n:Nat)
 |app (str:Bool) (elem:TypeId) (z bytes:Nat) (s x:X)
 |vI (isMax:Bool) (xs:List X)
 |yU (str:Bool) (z:Nat) (d s:X)
 |AG (t:TypeId) (zero:SV) (ok:Bool) (x:X)
 |yw (x:X)
 |yx (elem:TypeId) (p n:X)
 |uW (x:X)
 |uV (kV:TypeId->Nat->Nat->Bool) (x:X)
 |tw (neg:Bool) (x y:X)
 |Aq (x:X)
 |rK (x:X)
 |yW (x:X)
 |AY (x c:X)
 |AX (x c:X)
 |yD (x:Option X)
 |D3 (k:IntKind) (a:X)
 |D4 (a x:X)
 |D0 (k:IntKind) (a x y:X)
 |DZ (k:IntKind) (a x:X)
 |Bc (x:X)
 |wz (z:Nat) (zero:List SV) (x:X)
 |Ba (elem:TypeId) (z bytes:Nat) (zero:List SV) (s n:X)
def sint (n:Nat):SV:=.int .i64 (Int.ofNat n)
def sY (cs:List SV) (off:Nat) (vs:List SV):List SV:=cs.take off++(vs++cs.drop (off+vs.length))
def pk:List Nat->Nat->Nat->Int
 |[],_,_=> -1
 |x::xs,c,i=>match Nat.beq x c with
  |true=>Int.ofNat i
  |false=>pk xs c (i+1)
def kW:List Nat->Nat->Nat
 |[],_=>0
 |x::xs,c=>match Nat.beq x c with
  |true=>kW xs c+1
  |false=>kW xs c
def tp (s:List Nat) (i:Nat):Nat×Nat:=
 let at' (k:Nat):Nat:=s.getD (i+k) 0
 let cont (k:Nat):Bool:=i+k<s.length&&at' k/64==2
 let b0:=at' 0
 if b0<0x80 then(b0,1)
 else if b0/32==6&&cont 1 then
  let c:=(b0%32)*64+at' 1%64
  if c>=0x80 then(c,2)else(Utf8.runeError,1)
 else if b0/16==14&&cont 1&&cont 2 then
  let c:=(b0%16)*4096+(at' 1%64)*64+at' 2%64
  if c>=0x800&&Utf8.valid c then(c,3)else(Utf8.runeError,1)
 else if b0/8==30&&cont 1&&cont 2&&cont 3 then
  let c:=(b0%8)*262144+(at' 1%64)*4096+(at' 2%64)*64+at' 3%64
  if c>=0x10000&&Utf8.valid c then(c,4)else(Utf8.runeError,1)
 else(Utf8.runeError,1)
def encS (n:Int):List Nat:=(Utf8.encode n).data.toList.map UInt8.toNat
def eM (ts:T):List SV->List (Nat×Nat×X)->Option (List SV)
 |cs,[]=>some cs
 |cs,(off,size,x)::rest=>
  let vs:=(x.ev ts).cells
  match Nat.beq vs.length size&&Nat.ble (off+vs.length) cs.length with
  |true=>eM ts (sY cs off vs) rest
  |false=>none
def ou:List Nat->List Nat->Bool
 |_,[]=>false
 |[],_::_=>true
 |a::x,b::y=>Nat.blt a b||(Nat.beq a b&&ou x y)
def jG:List Nat->List Nat->Bool
 |[],[]=>true
 |a::x,b::y=>Nat.beq a b&&jG x y
 |_,_=>false
def vB:Nat:=4611686018427387904
def bX (op:BinOp) (x y:SV):Option SV:=
 match x,y with
 |.int k a,.int k' b=>
  match op with
  |.shl=>if b<0 then none else some (.int k (k.wrap (a*2^min b.toNat k.bits)))
  |.shr=>if b<0 then none else some (.int k (a.fdiv (2^min b.toNat k.bits)))
  |_=>if k≠k' then none else
   match op with
   |.add=>some (.int k (k.wrap (a+b)))
   |.sub=>some (.int k (k.wrap (a-b)))
   |.mul=>some (.int k (k.wrap (a*b)))
   |.quo=>if b=0 then none else some (.int k (k.wrap (a.tdiv b)))
   |.rem=>if b=0 then none else some (.int k (a.tmod b))
   |.and=>some (.int k (k.wrap (BitVec.ofInt k.bits a &&& BitVec.ofInt k.bits b).toNat))
   |.or=>some (.int k (k.wrap (BitVec.ofInt k.bits a ||| BitVec.ofInt k.bits b).toNat))
   |.xor=>some (.int k (k.wrap (BitVec.ofInt k.bits a ^^^ BitVec.ofInt k.bits b).toNat))
   |.andNot=>some (.int k (k.wrap (BitVec.ofInt k.bits a &&& ~~~BitVec.ofInt k.bits b).toNat))
   |.eql=>some (.bool (a==b))
   |.neq=>some (.bool (a !=b))
   |.lss=>some (.bool (a<b))
   |.leq=>some (.bool (a<=b))
   |.gtr=>some (.bool (a>b))
   |.geq=>some (.bool (a>=b))
   |.shl=>none
   |.shr=>none
 |.str a,.str b=>
  match op with
  |.add=>match Nat.ble (a.length+b.length) vB with
   |true=>some (.str (a++b))
   |false=>none
  |.eql=>some (.bool (jG a b))
  |.neq=>some (.bool (!jG a b))
  |.lss=>some (.bool (ou a b))
  |.leq=>some (.bool (ou a b||jG a b))
  |.gtr=>some (.bool (!(ou a b||jG a b)))
  |.geq=>some (.bool (!ou a b))
  |_=>none
 |_,_=>none
def oS (kind:Nat) (x y:SV):Option Bool:=
 match kind,x,y with
 |0,.bool a,.bool b=>some (a==b)
 |1,.int k a,.int k' b=>if k=k' then some (a==b)else none
 |2,.str a,.str b=>some (jG a b)
 |_,_,_=>none
def jX:List (Nat×Nat)->List SV->List SV->Option Bool
 |[],_,_=>some true
 |(i,kind)::L,xs,ys=>
  match xs[i]? with
  |none=>none
  |some x=>match ys[i]? with
   |none=>none
   |some y=>match oS kind x y with
    |some true=>jX L xs ys
    |some false=>some false
    |none=>none
def hY (agg:Bool) (L:List (Nat×Nat)) (x y:SV):Option Bool:=
 match agg with
 |true=>match x,y with
  |.agg xs,.agg ys=>jX L xs ys
  |_,_=>none
 |false=>match L with
  |[(_,kind)]=>oS kind x y
  |_=>none
def Hr:SV->SV->Bool
 |.bool a,.bool b=>a==b
 |.int k a,.int k' b=>decide (k=k')&&(a==b)
 |.str a,.str b=>jG a b
 |_,_=>false
def As:List SV->List SV->Bool
 |[],[]=>true
 |x::xs,y::ys=>Hr x y&&As xs ys
 |_,_=>false
def Hq:SV->SV->Bool
 |.agg xs,.agg ys=>As xs ys
 |x,y=>Hr x y
def nK (kind:Nat) (x y:SV):Option Bool:=
 match kind with
 |0=>match x,y with
  |.cM,.cM=>some true
  |.cM,.ptr _ _=>some false
  |.ptr _ _,.cM=>some false
  |_,_=>none
 |1=>match x,y with
  |.ao,.ao=>some true
  |.ao,.slice .. =>some false
  |.slice ..,.ao=>some false
  |_,_=>none
 |2=>match x,y with
  |.lP,.lP=>some true
  |.lP,.map _=>some false
  |.map _,.lP=>some false
  |_,_=>none
 |3=>match x,y with
  |.lO,.lO=>some true
  |.lO,.func .. =>some false
  |.func ..,.lO=>some false
  |_,_=>none
 |_=>match x,y with
  |.lq,.lq=>some true
  |.lq,.iface .. =>some false
  |.iface ..,.lq=>some false
  |_,_=>none
def yv (op:UnOp) (x:SV):Option SV:=
 match op,x with
 |.neg,.int k n=>some (.int k (k.wrap (0-n)))
 |.xor,.int k n=>some (.int k (k.wrap (BitVec.ofInt k.bits (if k.signed then -1 else k.max) ^^^ BitVec.ofInt k.bits n).toNat))
 |.not,.bool b=>some (.bool !b)
 |_,_=>none
def th:List SV->Option (List Nat)
 |[]=>some []
 |.int .u8 n::rest=>match th rest with
  |some l=>match n with
   |.ofNat m=>match Nat.blt m 256 with
    |true=>some (m::l)
    |false=>none
   |.negSucc _=>none
  |none=>none
 |_::_=>none
def byteCells (s:List Nat):List SV:=s.map fun b=>.int .u8 (Int.ofNat b)
def idx (v:SV) (lim:Nat):Option Nat:=
 match v with
 |.int _ (.ofNat n)=>match Nat.ble n lim with
  |true=>some n
  |false=>none
 |_=>none
def eY (ts:T) (x:Option X) (pK lim:Nat):Option Nat:=
 match x with
 |none=>some pK
 |some x=>idx (x.ev ts) lim
def ln (c:Option Nat) (n:Nat):Nat:=match c with|some c=>c|none=>n
def vJ (ts:T) (mx:Option X) (cap:Option Nat) (n:Nat):Option (Option Nat):=
 match mx with
 |none=>some cap
 |some x=>match idx (x.ev ts) (ln cap n)with
  |some k=>some (some k)
  |none=>none
def iX (b o z l h:Nat) (m:Option Nat):SV:=
 match m with
 |some k=>match Nat.beq k l with
  |true=>.slice b o (h-l) (some 0) z
  |false=>.slice b (o+l*z) (h-l) (some (k-l)) z
 |none=>.slice b (o+l*z) (h-l) none z
def qp (agg:Bool) (n off:Nat) (cs:List SV):Option SV:=
 match agg with
 |true=>some (.agg ((cs.drop off).take n))
 |false=>cs[off]?
def mT (agg:Bool) (L:List (Nat×Nat)) (k:SV):List (SV×SV×Nat)->Nat->Option (Option (Nat×SV))
 |[],_=>some none
 |(k',v,_)::es,i=>
  match hY agg L k k' with
  |some true=>some (some (i,v))
  |some false=>mT agg L k es (i+1)
  |none=>none
def oA (k v:SV):Nat->List (SV×SV×Nat)->List (SV×SV×Nat)
 |_,[]=>[]
 |0,(_,_,n)::es=>(k,v,n)::es
 |i+1,e::es=>e::oA k v i es
def dR:Nat:=35184372088832
def lT (H:ag) (str:Bool) (z:Nat) (x:SV):Option (Nat×List SV):=
 match str with
 |true=>match x with
  |.str l=>some (l.length,byteCells l)
  |_=>none
 |false=>match x with
  |.ao=>some (0,[])
  |.slice b o n _ z'=>match n with
   |0=>some (0,[])
   |_+1=>match Nat.beq z z' with
    |true=>match eK H b o (n*z)with
     |some cs=>some (n,cs)
     |none=>none
    |false=>none
  |_=>none
def gP (H:ag) (str:Bool) (elem:TypeId) (z bytes:Nat) (s x:SV):Option (SV×ag):=
 match lT H str z x with
 |none=>none
 |some (0,_)=>match s with
  |.ao=>some (s,H)
  |.slice .. =>some (s,H)
  |_=>none
 |some (n+1,new)=>
  match s with
  |.ao=>match Nat.ble ((n+1)*bytes) dR&&Nat.ble (n+1) dR with
   |true=>some (.slice H.next 0 (n+1) none z,H.push (.row new elem false false 0))
   |false=>none
  |.slice b o len cap z'=>
   match Nat.beq z z'&&Nat.ble ((len+(n+1))*bytes) dR&&Nat.ble (len+(n+1)) dR with
   |false=>none
   |true=>match eK H b o (len*z)with
    |none=>none
    |some old=>
     match cap with
     |some c=>match Nat.ble (len+(n+1)) c with
      |true=>match gN H b (o+len*z) new with
       |some H'=>some (.slice b o (len+(n+1)) cap z,H')
       |none=>none
      |false=>some (.slice H.next 0 (len+(n+1)) none z,H.push (.row (old++new) elem false false 0))
     |none=>match H.get b with
      |some (.row _ e0 _ false frz)=>match Nat.ble frz (o+len*z)&&Nat.beq e0 elem&&new.all SV.one with
       |true=>some (.slice H.next 0 (len+(n+1)) none z,(H.put b .dead).push (.row (old++new) elem false false (frz-o)))
       |false=>none
      |_=>none
  |_=>none
def vE (isMax:Bool):SV->List SV->Option SV
 |v,[]=>some v
 |.int k a,.int k' b::rest=>if k=k' then vE isMax (.int k (if isMax then(if b>a then b else a)else(if b<a then b else a))) rest else none
 |_,_=>none
def y9 (H:ag) (m:SV):Option (List (SV×SV×Nat)):=
 match m with
 |.lP=>some []
 |.map b=>match H.get b with
  |some (.map es _)=>some es
  |_=>none
 |_=>none
def evalOp (so:cJ) (ts:T) (H:ag):Option (SV×ag):=
 match so with
 |.mv x=>some (x.ev ts,H)
 |.pick c a b=>match c.ev ts with
  |.bool true=>some (a.ev ts,H)
  |.bool false=>some (b.ev ts,H)
  |_=>none
 |.bad=>none
 |.alloc zero elem=>some (.ptr H.next 0,H.push (.row zero elem true false 0))
 |.box elem x=>some (.ptr H.next 0,H.push (.row (x.ev ts).cells elem true false 0))
 |.build zero parts=>match eM ts zero parts with
  |some cs=>some (.agg cs,H)
  |none=>none
 |.hO elem z len zero parts=>match eM ts zero parts with
  |some cs=>some (.slice H.next 0 len (some len) z,H.push (.row cs elem true false 0))
  |none=>none
 |.load agg n a=>match a.ev ts with
  |.ptr b o=>match eK H b o n with
   |some cs=>match agg with
    |true=>some (.agg cs,H)
    |false=>match cs with
     |[v]=>some (v,H)
     |_=>none
   |none=>none
  |_=>none
 |.store n a x=>match a.ev ts with
  |.ptr b o=>let cs:=(x.ev ts).cells
   match Nat.beq cs.length n with
   |true=>match gN H b o cs with
    |some H'=>some (.undef,H')
    |none=>none
   |false=>none
  |_=>none
 |.jk x=>match x.ev ts with
  |.cM=>none
  |.lq=>none
  |.lO=>none
  |.rM _=>none
  |v=>some (v,H)
 |.bin op x y=>match bX op (x.ev ts) (y.ev ts)with
  |some v=>some (v,H)
  |none=>none
 |.hZ neg agg L x y=>match hY agg L (x.ev ts) (y.ev ts)with
  |some b=>some (.bool (b !=neg),H)
  |none=>none
 |.tu neg kind x y=>match nK kind (x.ev ts) (y.ev ts)with
  |some b=>some (.bool (b !=neg),H)
  |none=>none
 |.un op x=>match yv op (x.ev ts)with
  |some v=>some (v,H)
  |none=>none
 |.wF k x=>match x.ev ts with
  |.int _ n=>some (.int k (k.wrap n),H)
  |_=>none
 |.yX x=>match x.ev ts with
  |.str s=>some (.str s,H)
  |_=>none
 |.Bk elem x=>match x.ev ts with
  |.str s=>some (.slice H.next 0 s.length none 1,H.push (.row (byteCells s) elem false false 0))
  |_=>none
 |.yV x=>match x.ev ts with
  |.ao=>some (.str [],H)
  |.slice b o n _ 1=>match eK H b o n with
   |some cs=>match th cs with
    |some s=>some (.str s,H)
    |none=>none
   |none=>none
  |_=>none
 |.Ac t x=>some (.iface t (x.ev ts),H)
 |.vF f first captured=>some (.func f (fi ts first) (fi ts captured),H)
 |.vG=>some (.map H.next,H.push (.map [] 0))
 |.vH elem z bytes zero l c=>match l.ev ts,c.ev ts with
  |.int _ (.ofNat l),.int _ (.ofNat c)=>
   match Nat.ble l c&&Nat.ble (c*bytes) dR&&Nat.ble c dR with
   |true=>some (.slice H.next 0 l (some c) z,H.push (.row ((List.replicate c zero).flatten) elem true false 0))
   |false=>none
  |_,_=>none
 |.yj lo hi x=>match x.ev ts with
  |.str s=>match eY ts hi s.length s.length with
   |some h=>match eY ts lo 0 h with
    |some l=>some (.str ((s.drop l).take (h-l)),H)
    |none=>none
   |none=>none
  |_=>none
 |.lS z lo hi mx x=>match x.ev ts with
  |.ao=>match eY ts mx 0 0,eY ts hi 0 0,eY ts lo 0 0 with
   |some _,some _,some _=>some (.ao,H)
   |_,_,_=>none
  |.slice b o n cap z'=>
   match Nat.beq z z' with
   |false=>none
   |true=>match vJ ts mx cap n with
    |none=>none
    |some m=>match eY ts hi n (ln m n)with
     |some h=>match eY ts lo 0 h with
      |some l=>some (iX b o z l h m,H)
      |none=>none
     |none=>none
  |_=>none
 |.Ax n z lo hi x=>match x.ev ts with
  |.ptr b o=>match eK H b o (n*z)with
   |none=>none
   |some _=>match eY ts hi n n with
    |some h=>match eY ts lo 0 h with
     |some l=>some (iX b o z l h (some n),H)
     |none=>none
    |none=>none
  |_=>none
 |.cC off x=>match x.ev ts with
  |.ptr b o=>some (.ptr b (o+off),H)
  |_=>none
 |.wL agg n off x=>match x.ev ts with
  |.agg cs=>match qp agg n off cs with
   |some v=>some (v,H)
   |none=>none
  |_=>none
 |.gj z x i=>match x.ev ts with
  |.slice b o n _ z'=>match i.ev ts with
   |.int _ (.ofNat k)=>match Nat.blt k n&&Nat.beq z z' with
    |true=>some (.ptr b (o+k*z),H)
    |false=>none
   |_=>none
  |_=>none
 |.xM n z x i=>match x.ev ts with
  |.ptr b o=>match i.ev ts with
   |.int _ (.ofNat k)=>match Nat.blt k n with
    |true=>some (.ptr b (o+k*z),H)
    |false=>none
   |_=>none
  |_=>none
 |.jy x i=>match x.ev ts with
  |.str s=>match i.ev ts with
   |.int _ (.ofNat k)=>match s[k]? with
    |some b=>some (.int .u8 (Int.ofNat b),H)
    |none=>none
   |_=>none
  |_=>none
 |.xQ n agg z x i=>match x.ev ts with
  |.agg cs=>match i.ev ts with
   |.int _ (.ofNat k)=>match Nat.blt k n with
    |true=>match qp agg z (k*z) cs with
     |some v=>some (v,H)
     |none=>none
    |false=>none
   |_=>none
  |_=>none
 |.rG agg L zero ok m k=>
  match y9 H (m.ev ts),hY agg L (k.ev ts) (k.ev ts)with
  |some es,some _=>match mT agg L (k.ev ts) es 0 with
   |none=>none
   |some none=>some (if ok then .aJ [zero,.bool false]else zero,H)
   |some (some (_,v))=>some (if ok then .aJ [v,.bool true]else v,H)
  |_,_=>none
 |.sP agg L m k v=>match m.ev ts with
  |.map b=>match H.get b,hY agg L (k.ev ts) (k.ev ts)with
   |some (.map es clock),some _=>match mT agg L (k.ev ts) es 0 with
    |none=>none
    |some (some (i,_))=>match es[i]? with
     |some (k',_,_)=>match Hq k' (k.ev ts)with
      |true=>some (.undef,H.put b (.map (oA (k.ev ts) (v.ev ts) i es) clock))
      |false=>none
     |none=>none
    |some none=>some (.undef,H.put b (.map (es++[(k.ev ts,v.ev ts,clock)]) (clock+1)))
   |_,_=>none
  |_=>none
 |.ext i x=>match x.ev ts with
  |.aJ vs=>match vs[i]? with
   |some v=>some (v,H)
   |none=>none
  |_=>none
 |.lens x=>match x.ev ts with
  |.str s=>some (sint s.length,H)
  |_=>none
 |.cA x=>match x.ev ts with
  |.ao=>some (sint 0,H)
  |.slice _ _ n _ _=>some (sint n,H)
  |_=>none
 |.z8 x=>match x.ev ts with
  |.lP=>some (sint 0,H)
  |.map b=>match H.get b with
   |some (.map es _)=>some (sint es.length,H)
   |_=>none
  |_=>none
 |.z7 n=>some (sint n,H)
 |.app str elem z bytes s x=>gP H str elem z bytes (s.ev ts) (x.ev ts)
 |.vI isMax xs=>match fi ts xs with
  |[]=>none
  |v::rest=>match vE isMax v rest with
   |some v=>some (v,H)
   |none=>none
 |.yU str z d s=>match lT H str z (s.ev ts)with
  |none=>none
  |some (n,cs)=>match d.ev ts with
   |.ao=>some (sint 0,H)
   |.slice b o n' _ z'=>match Nat.beq z z' with
    |false=>none
    |true=>match Nat.min n n' with
     |0=>some (sint 0,H)
     |k+1=>match gN H b o (cs.take ((k+1)*z))with
      |some H'=>some (sint (k+1),H')
      |none=>none
   |_=>none
 |.AG t zero ok x=>match x.ev ts with
  |.iface t' v=>match Nat.beq t t' with
   |true=>some (if ok then .aJ [v,.bool true]else v,H)
   |false=>if ok then some (.aJ [zero,.bool false],H)else none
  |.lq=>if ok then some (.aJ [zero,.bool false],H)else none
  |_=>none
 |.yw x=>match x.ev ts with
  |.ao=>some (.cM,H)
  |.slice b o (_+1) _ _=>some (.ptr b o,H)
  |_=>none
 |.yx elem p n=>match n.ev ts with
  |.int _ (.ofNat 0)=>match p.ev ts with
   |.cM=>some (.str [],H)
   |.ptr _ _=>some (.str [],H)
   |_=>none
  |.int _ (.ofNat (k+1))=>match p.ev ts with
   |.ptr b o=>match H.get b with
    |some (.row cs e ex false frz)=>match Nat.ble (o+(k+1)) cs.length&&(Nat.beq e elem&&Nat.ble (k+1) vB)with
     |true=>match th ((cs.drop o).take (k+1))with
      |some s=>some (.str s,H.put b (.row cs e ex true frz))
      |none=>none
     |false=>none
    |_=>none
   |_=>none
  |_=>none
 |.AY x c=>match x.ev ts,c.ev ts with
  |.str l,.int .u8 n=>some (.int .i64 (pk l (n.toNat%256) 0),H)
  |_,_=>none
 |.AX x c=>match x.ev ts,c.ev ts with
  |.str l,.int .u8 n=>some (.int .i64 (Int.ofNat (kW l (n.toNat%256))),H)
  |_,_=>none
 |.yD x=>match x with
  |none=>some (.undef,H)
  |some x=>match x.ev ts with
   |.ptr _ _=>some (.undef,H)
   |_=>none
 |.D3 k a=>match a.ev ts with
  |.ptr b o=>match eK H b o 1 with
   |some [.int k' n]=>if k=k' then some (.int k n,H)else none
   |_=>none
  |_=>none
 |.D4 a x=>match a.ev ts,x.ev ts with
  |.ptr b o,.int k n=>match eK H b o 1 with
   |some [_]=>match gN H b o [.int k n]with
    |some H'=>some (.undef,H')
    |none=>none
   |_=>none
  |_,_=>none
 |.D0 k a x y=>match a.ev ts,x.ev ts,y.ev ts with
  |.ptr b o,.int kx m,.int ky z=>match eK H b o 1 with
   |some [.int k' n]=>if k=k'/\n=m/\kx=k/\ky=k then match gN H b o [.int k z]with
    |some H'=>some (.bool true,H')
    |none=>none
    else none
   |_=>none
  |_,_,_=>none
 |.DZ k a x=>match a.ev ts,x.ev ts with
  |.ptr b o,.int kx m=>match eK H b o 1 with
   |some [.int k' n]=>if k=k'/\kx=k then match gN H b o [.int k (k.wrap (n+m))]with
    |some H'=>some (.int k (k.wrap (n+m)),H')
    |none=>none
    else none
   |_=>none
  |_,_=>none
 |.uW x=>match x.ev ts with
  |.cM=>some (.cM,H)
  |.ptr b o=>match H.get b with
   |some (.row cs _ _ _ _)=>match Nat.blt o cs.length with
    |true=>some (.ptr b o,H)
    |false=>none
   |_=>none
  |_=>none
 |.uV kV x=>match x.ev ts with
  |.cM=>some (.cM,H)
  |.ptr b o=>match H.get b with
   |some (.row cs e true _ _)=>match kV e cs.length o with
    |true=>some (.ptr b o,H)
    |false=>none
   |_=>none
  |_=>none
 |.tw neg x y=>match x.ev ts,y.ev ts with
  |.cM,.cM=>some (.bool (true !=neg),H)
  |.cM,.ptr _ _=>some (.bool (false !=neg),H)
  |.ptr _ _,.cM=>some (.bool (false !=neg),H)
  |.ptr b o,.ptr b' o'=>match Nat.beq b b' with
   |true=>some (.bool (Nat.beq o o' !=neg),H)
   |false=>none
  |_,_=>none
 |.Aq x=>match x.ev ts with
  |.str s=>some (.ptr H.next 0,H.push (.ko s 0))
  |_=>none
 |.rK x=>match x.ev ts with
  |.ptr b 0=>match H.get b with
   |some (.ko s pos)=>match Nat.blt pos s.length with
    |true=>some (.aJ [.bool true,sint pos,.int .i32 (Int.ofNat (tp s pos).1)],H.put b (.ko s (pos+(tp s pos).2)))
    |false=>some (.aJ [.bool false],H)
   |_=>none
  |_=>none
 |.yW x=>match x.ev ts with
  |.int _ n=>some (.str (encS n),H)
  |_=>none
 |.Bc x=>match x.ev ts with
  |.ao=>some (sint 0,H)
  |.slice _ _ _ (some c) _=>some (sint c,H)
  |_=>none
 |.wz z zero x=>match x.ev ts with
  |.ao=>some (.undef,H)
  |.slice b o n _ z'=>match n with
   |0=>some (.undef,H)
   |n+1=>match Nat.beq z z' with
    |true=>match gN H b o (List.replicate (n+1) zero).flatten with
     |some H'=>some (.undef,H')
     |none=>none
    |false=>none
  |_=>none
 |.Ba elem z bytes zero s n=>match s.ev ts,n.ev ts with
  |.ao,.int _ (.ofNat n)=>match n with
   |0=>some (.ao,H)
   |n+1=>match Nat.ble ((n+1)*bytes) dR&&Nat.ble (n+1) dR with
    |true=>some (.slice H.next 0 (n+1) none z,H.push (.row (List.replicate (n+1) zero).flatten elem false false 0))
    |false=>none
  |_,_=>none
end
section
def cj {α β:Type} (f:α->Option β):List α->Option (List β)
 |[]=>some []
 |x::xs=>match f x with
  |some y=>match cj f xs with
   |some ys=>some (y::ys)
   |none=>none
  |none=>none
def cv:Nat->Value->Option SV
 |0,_=>none
 |n+1,v=>match v with
  |.bool b=>some (.bool b)
  |.int k i=>some (.int k i)
  |.string s=>some (.str (s.data.toList.map UInt8.toNat))
  |.pointer none=>some .cM
  |.slice none 0 0=>some .ao
  |.map none=>some .lP
  |.nilFunc=>some .lO
  |.nilIface=>some .lq
  |.iface t v=>match cv n v with
   |some x=>some (.iface t x)
   |none=>none
  |.agg vs=>match cj (cv n) vs.toList with
   |some xs=>some (.agg xs)
   |none=>none
  |.tuple vs=>match cj (cv n) vs.toList with
   |some xs=>some (.aJ xs)
   |none=>none
  |.func (.func f) fs cs=>match cj (cv n) fs.toList,cj (cv n) cs.toList with
   |some xs,some ys=>some (.func f xs ys)
   |_,_=>none
  |_=>none
def Sr:Value->Option SV:=cv 8
def aR:Operand->Option X
 |.tmp t=>some (.t t)
 |.const v=>match Sr v with
  |some x=>some (.c x)
  |none=>none
 |.global _=>none
 |.func f=>some (.c (.func f [] []))
def qD (xs:Array Operand):Option (List X):=cj aR xs.toList
def jW:Option Operand->Option (Option X)
 |none=>some none
 |some x=>match aR x with
  |some y=>some (some y)
  |none=>none
structure TI where
 size:Nat
 bytes:Nat
 agg:Bool
 zero:List SV
 zeroV:SV
def iu (P:Program) (t:TypeId):Option TI:=
 match P.info? t with
 |none=>none
 |some i=>match P.underlying t with
  |none=>none
  |some d=>match i.zero with
   |none=>none
   |some z=>match Sr z with
    |none=>none
    |some z'=>
     let agg:=match d with|.struct _=>true|.array _ _=>true|_=>false
     match Nat.beq z'.cells.length i.size&&Nat.blt 0 i.size&&z'.cells.all SV.one with
     |true=>some ⟨i.size,i.bytes,agg,z'.cells,z'⟩
     |false=>none
def Am (P:Program) (fields:Array Field):List (Nat×Operand)->Option (List (Nat×Nat×X))
 |[]=>some []
 |(i,x)::rest=>match fields[i]? with
  |none=>none
  |some f=>match P.info? f.type,aR x,Am P fields rest with
   |some j,some y,some r=>some ((f.offset,j.size,y)::r)
   |_,_,_=>none
def vM (size:Nat):List (Nat×Operand)->Option (List (Nat×Nat×X))
 |[]=>some []
 |(i,x)::rest=>match aR x,vM size rest with
  |some y,some r=>some ((i*size,size,y)::r)
  |_,_=>none
def leaves (P:Program):Nat->TypeId->Option (List (Nat×Nat))
 |0,_=>none
 |n+1,t=>match P.underlying t with
  |some .bool=>some [(0,0)]
  |some (.int _)=>some [(0,1)]
  |some .string=>some [(0,2)]
  |some (.struct fs)=>match P.stoodInHeld t with
   |true=>none
   |false=>match cj (fun(f:Field)=>match f.name== "_" with
    |true=>none
    |false=>match leaves P n f.type with
     |some L=>match P.info? f.type with
      |some j=>match L.all (fun p=>Nat.blt p.1 j.size)with
       |true=>some (L.map fun p=>(f.offset+p.1,p.2))
       |false=>none
      |none=>none
     |none=>none) fs.toList with
    |some Ls=>some Ls.flatten
    |none=>none
  |_=>none
def kj (P:Program) (t:TypeId):Bool:=match P.underlying t with|some (.struct _)=>true|some (.array _ _)=>true|_=>false
def sM:Operand->Bool
 |.const (.pointer none)=>true
 |.const (.slice none 0 0)=>true
 |.const (.map none)=>true
 |.const .nilFunc=>true
 |.const .nilIface=>true
 |_=>false
inductive SK where
 |op (so:cJ)
 |call (f:FuncId) (args:List X)
 |tj (f:X) (args:List X)
 |inv (x:X) (cH:TypeId->Option FuncId) (args:List X)
def CU (d:TypeDesc):Option Nat:=
 match d with
 |.pointer _=>some 0
 |.slice _=>some 1
 |.map _ _=>some 2
 |.func _ _ _=>some 3
 |.interface _=>some 4
 |_=>none
def JO (P:Program) (op:BinOp) (t:TypeId) (x y:Operand):Option cJ:=
 match aR x,aR y with
 |some x',some y'=>
  match op with
  |.eql|.neq=>
   let neg:=match op with|.neq=>true|_=>false
   match P.underlying t with
   |some (.int _)=>some (.bin op x' y')
   |some .string=>some (.bin op x' y')
   |some .bool=>some (.hZ neg false [(0,0)] x' y')
   |some (.struct _)=>match leaves P 6 t,P.eqGuardType P.depth t with
    |some L,false=>some (.hZ neg true L x' y')
    |_,_=>none
   |some d=>match CU d,sM x||sM y with
    |some k,true=>some (.tu neg k x' y')
    |_,false=>match d with
     |.pointer e=>match iu P e with
      |some _=>some (.tw neg x' y')
      |none=>none
     |_=>none
    |_,_=>none
   |none=>none
  |_=>some (.bin op x' y')
 |_,_=>none
def EB (P:Program) (u e:TypeId) (n off:Nat):Bool:=liesAt P P.depth e (n/P.cellsOf e) off u 1
def JQ (P:Program) (s d:TypeId) (x:Operand):Option cJ:=
 match aR x with
 |none=>none
 |some x'=>match P.underlying s,P.underlying d with
  |some _,some (.int k)=>some (.wF k x')
  |some .string,some .string=>some (.yX x')
  |some .string,some (.slice e)=>match P.underlying e with
   |some (.int .u8)=>some (.Bk e x')
   |_=>none
  |some (.slice e),some .string=>match P.underlying e with
   |some (.int .u8)=>some (.yV x')
   |_=>none
  |some (.pointer e),some .unsafePointer=>match iu P e with
   |some _=>some (.uW x')
   |none=>none
  |some .unsafePointer,some (.pointer u)=>match iu P u with
   |some _=>some (.uV (EB P u) x')
   |none=>none
  |some (.int _),some .string=>some (.yW x')
  |_,_=>none
def JS (P:Program) (t:TypeId) (x:Operand) (lo hi mx:Option Operand):Option cJ:=
 match aR x,jW lo,jW hi,jW mx with
 |some x',some eA,some cu,some uv=>
  match P.underlying t with
  |some .string=>match uv with
   |none=>some (.yj eA cu x')
   |some _=>none
  |some (.slice e)=>match iu P e with
   |some i=>some (.lS i.size eA cu uv x')
   |none=>none
  |some (.array n e)=>match iu P e,uv with
   |some i,none=>some (.Ax n i.size eA cu x')
   |_,_=>none
  |_=>none
 |_,_,_,_=>none
def JP (P:Program) (b:Builtin) (args:Array Operand) (Es:Array TypeId):Option cJ:=
 match b,args.toList,Es.toList with
 |.len,[x],[t]=>match P.underlying t,aR x with
  |some .string,some x'=>some (.lens x')
  |some (.slice _),some x'=>some (.cA x')
  |some (.map _ _),some x'=>some (.z8 x')
  |some (.array n _),some _=>some (.z7 n)
  |_,_=>none
 |.append,[s,x],[t,u]=>match P.underlying t,aR s,aR x with
  |some (.slice e),some s',some x'=>match iu P e,P.underlying u with
   |some i,some (.slice _)=>some (.app false e i.size i.bytes s' x')
   |some i,some .string=>match Nat.beq i.size 1 with
    |true=>some (.app true e i.size i.bytes s' x')
    |false=>none
   |some i,some (.int _)=>some (.Ba e i.size i.bytes i.zero s' x')
   |_,_=>none
  |_,_,_=>none
 |.min,xs,_=>match cj aR xs with
  |some ys=>some (.vI false ys)
  |none=>none
 |.max,xs,_=>match cj aR xs with
  |some ys=>some (.vI true ys)
  |none=>none
 |.copy,[d,s],[t,u]=>match P.underlying t,aR d,aR s with
  |some (.slice e),some d',some s'=>match iu P e,P.underlying u with
   |some i,some (.slice _)=>some (.yU false i.size d' s')
   |some i,some .string=>match Nat.beq i.size 1 with
    |true=>some (.yU true i.size d' s')
    |false=>none
   |_,_=>none
  |_,_,_=>none
 |.cap,[x],[t]=>match P.underlying t,aR x with
  |some (.slice _),some x'=>some (.Bc x')
  |_,_=>none
 |.clear,[x],[t]=>match P.underlying t,aR x with
  |some (.slice e),some x'=>match iu P e with
   |some i=>some (.wz i.size i.zero x')
   |none=>none
  |_,_=>none
 |.unsafeSliceData,[x],[t]=>match P.underlying t,aR x with
  |some (.slice _),some x'=>some (.yw x')
  |_,_=>none
 |.unsafeString,[p,n],[t,_]=>match P.underlying t,aR p,aR n with
  |some (.pointer e),some p',some n'=>match iu P e with
   |some i=>match Nat.beq i.size 1 with
    |true=>some (.yx e p' n')
    |false=>none
   |none=>none
  |_,_,_=>none
 |_,_,_=>none
def JR (P:Program) (f:FuncId) (args:Array Operand):Option cJ:=
 match P.funcs[f]? with
 |some fn=>match fn.body.isNone&&fn.origin== "" with
  |true=>match cj aR args.toList with
   |some []=>match fn.name== "internal/race.Disable" ||fn.name== "internal/race.Enable" with
    |true=>some (.yD none)
    |false=>none
   |some [x]=>match fn.name== "internal/abi.NoEscape" with
    |true=>some (.mv x)
    |false=>match fn.name== "internal/race.Acquire" ||fn.name== "internal/race.ReleaseMerge" with
     |true=>some (.yD (some x))
     |false=>match fn.name== "sync/atomic.LoadUint32" with
      |true=>some (.D3 .u32 x)
      |false=>none
   |some [x,y]=>match fn.name== "internal/bytealg.IndexByteString" with
    |true=>some (.AY x y)
    |false=>match fn.name== "internal/bytealg.CountString" with
     |true=>some (.AX x y)
     |false=>match fn.name== "sync/atomic.StoreUint32" with
      |true=>some (.D4 x y)
      |false=>match fn.name== "sync/atomic.AddInt32" with
       |true=>some (.DZ .i32 x y)
       |false=>none
   |some [x,y,z]=>match fn.name== "sync/atomic.CompareAndSwapInt32" with
    |true=>some (.D0 .i32 x y z)
    |false=>none
   |_=>none
  |false=>none
 |none=>none
def Ez (P:Program) (o:Oper):Option cJ:=
 match o.op with
 |.move x=>match aR x with
  |some y=>some (.mv y)
  |none=>none
 |.assign x=>match aR x with
  |some y=>some (.mv y)
  |none=>none
 |.pick c a b=>match aR c,aR a,aR b with
  |some c,some a,some b=>some (.pick c a b)
  |_,_,_=>none
 |.alloc e=>match iu P e with
  |some i=>some (.alloc i.zero e)
  |none=>none
 |.box e x=>match aR x with
  |some y=>some (.box e y)
  |none=>none
 |.build t parts=>match iu P t,P.underlying t with
  |some i,some (.struct fs)=>match Am P fs parts.toList,fs.toList.all (fun f=>(P.info? f.type).isSome)with
   |some ps,true=>some (.build i.zero ps)
   |_,_=>none
  |some i,some (.array _ e)=>match P.info? e with
   |some j=>match vM j.size parts.toList with
    |some ps=>some (.build i.zero ps)
    |none=>none
   |none=>none
  |_,_=>none
 |.buildSlice t len parts=>match P.underlying t with
  |some (.slice e)=>match iu P e with
   |some i=>match vM i.size parts.toList,Nat.ble (len*i.size) 16777216 with
    |some ps,true=>some (.hO e i.size len (List.replicate len i.zero).flatten ps)
    |_,_=>none
   |none=>none
  |_=>none
 |.load t a=>match iu P t,aR a with
  |some i,some a=>some (.load i.agg i.size a)
  |_,_=>none
 |.store t a x=>match iu P t,aR a,aR x with
  |some i,some a,some x=>some (.store i.size a x)
  |_,_,_=>none
 |.nilCheck x=>match aR x with
  |some y=>some (.jk y)
  |none=>none
 |.binOp op t x y _=>match JO P op t x y with
  |some so=>some so
  |none=>none
 |.unOp op _ x=>match aR x with
  |some y=>some (.un op y)
  |none=>none
 |.convert s d x=>match JQ P s d x with
  |some so=>some so
  |none=>none
 |.makeInterface t x=>match P.underlying t,aR x with
  |some (.interface _),_=>none
  |some _,some y=>some (.Ac t y)
  |_,_=>none
 |.makeFunc (.func f) first captured=>match qD first,qD captured with
  |some xs,some ys=>some (.vF f xs ys)
  |_,_=>none
 |.makeMap _ none=>some .vG
 |.makeSlice t l c=>match P.underlying t with
  |some (.slice e)=>match iu P e,aR l,aR c with
   |some i,some l,some c=>some (.vH e i.size i.bytes i.zero l c)
   |_,_,_=>none
  |_=>none
 |.slice t x lo hi mx=>match JS P t x lo hi mx with
  |some so=>some so
  |none=>none
 |.fieldAddr s x f=>match P.underlying s,aR x with
  |some (.struct fs),some y=>match fs[f]? with
   |some fd=>match iu P fd.type with
    |some _=>some (.cC fd.offset y)
    |none=>none
   |none=>none
  |_,_=>none
 |.field t x f=>match P.underlying t,aR x with
  |some (.struct fs),some y=>match fs[f]? with
   |some fd=>match iu P fd.type with
    |some i=>some (.wL i.agg i.size fd.offset y)
    |none=>none
   |none=>none
  |_,_=>none
 |.indexAddr t x i=>match P.underlying t,aR x,aR i with
  |some (.slice e),some x,some i=>match iu P e with
   |some ti=>some (.gj ti.size x i)
   |none=>none
  |some (.array n e),some x,some i=>match iu P e with
   |some ti=>some (.xM n ti.size x i)
   |none=>none
  |_,_,_=>none
 |.index t x i=>match P.underlying t,aR x,aR i with
  |some .string,some x,some i=>some (.jy x i)
  |some (.array n e),some x,some i=>match iu P e with
   |some ti=>some (.xQ n ti.agg ti.size x i)
   |none=>none
  |_,_,_=>none
 |.lookup t m k ok=>match P.underlying t with
  |some (.map key elem)=>match leaves P 6 key,iu P elem,aR m,aR k with
   |some L,some i,some m,some k=>some (.rG (kj P key) L i.zeroV ok m k)
   |_,_,_,_=>none
  |_=>none
 |.mapUpdate t m k v=>match P.underlying t with
  |some (.map key _)=>match leaves P 6 key,aR m,aR k,aR v with
   |some L,some m,some k,some v=>some (.sP (kj P key) L m k v)
   |_,_,_,_=>none
  |_=>none
 |.extract x i=>match aR x with
  |some y=>some (.ext i y)
  |none=>none
 |.typeAssert x _ t ok=>match P.underlying t with
  |some (.interface _)=>none
  |some _=>match iu P t,aR x with
   |some i,some y=>some (.AG t i.zeroV ok y)
   |_,_=>none
  |none=>none
 |.range t x=>match P.underlying t,aR x with
  |some .string,some y=>some (.Aq y)
  |_,_=>none
 |.next x b=>match b,aR x with
  |true,some y=>some (.rK y)
  |_,_=>none
 |.call c=>match c.callee with
  |.builtin b=>match JP P b c.args c.argTypes with
   |some so=>some so
   |none=>none
  |.value (.func f)=>match JR P f c.args with
   |some so=>some so
   |none=>none
  |_=>none
 |_=>none
def Gl (P:Program) (m:String) (t:TypeId):Option FuncId:=
 match P.info? t with
 |none=>none
 |some i=>match i.methods.find? (·.name==m)with
  |none=>none
  |some r=>match r.path.toList,r.func,P.underlying t with
   |[],some (f,true),some (.pointer _)=>some f
   |[],some (_,false),some (.pointer _)=>none
   |[],some (f,false),some _=>some f
   |_,_,_=>none
def tk (P:Program) (c:Call):Option SK:=
 match c.callee with
 |.value (.func f)=>match P.funcs[f]?,qD c.args with
  |some fn,some xs=>match fn.body.isSome&&!(fn.name== "runtime.NumGoroutine")with
   |true=>some (.call f xs)
   |false=>none
  |_,_=>none
 |.value x=>match aR x,qD c.args with
  |some y,some xs=>some (.tj y xs)
  |_,_=>none
 |.invoke x m=>match aR x,qD c.args with
  |some y,some xs=>some (.inv y (Gl P m) xs)
  |_,_=>none
 |.builtin _=>none
def HJ (o:Oper):Bool:=
 match o.op with
 |.slice _ _ _ hi mx=>mx.isNone||hi.isSome
 |_=>true
def yS (P:Program) (o:Oper):Option SK:=
 match Ez P o with
 |some so=>match HJ o with
  |true=>some (.op so)
  |false=>some (.op .bad)
 |none=>match o.op with
  |.call c=>match tk P c with
   |some k=>some k
   |none=>some (.op .bad)
  |_=>some (.op .bad)
end
section
structure aG where
 dst:Option Nat
 k:SK
 guard:Option (Nat×Bool)
inductive DK where
 |pure
 |read (lo hi:Nat)
 |cg
 |hoist (lo hi:Nat)
inductive er where
 |skip
 |bJ (ops:List aG)
 |hX (ops:List (aG×DK)) (swap:Bool)
 |seq (a b:er)
 |cond (c:X) (a b:er)
 |block (id:Nat) (b:er)
 |loop (b:er)
 |exit (id:Nat)
 |ret
 |bad
 |vQ (ops:List aG) (x:X) (xs:List X)
abbrev DS:=List (FuncId×List SV)
inductive fa where
 |normal
 |exit (id:Nat)
 |ret
abbrev cb:=FuncId->List SV->ag->Option (SV×ag)
def eu (call:cb) (k:SK) (ts:T) (H:ag):Option (SV×ag):=
 match k with
 |.op so=>evalOp so ts H
 |.call f xs=>call f (fi ts xs) H
 |.tj x xs=>match x.ev ts with
  |.func f fs cs=>call f (fs++(fi ts xs++cs)) H
  |_=>none
 |.inv x cH xs=>match x.ev ts with
  |.iface t v=>match cH t with
   |some f=>call f (v::fi ts xs) H
   |none=>none
  |_=>none
def c6 (ts:T) (dst:Option Nat) (v:SV):T:=
 match dst with
 |none=>ts
 |some d=>ts.set d v
def bL (ts:T):Option (Nat×Bool)->Bool
 |none=>true
 |some (t,want)=>match ts.getD t SV.undef with
  |.bool true=>want
  |.bool false=>!want
  |_=>false
def iP (call:cb):List aG->T->ag->Option (T×ag)
 |[],ts,H=>some (ts,H)
 |o::os,ts,H=>
  match bL ts o.guard with
  |true=>match eu call o.k ts H with
   |some (v,H')=>iP call os (c6 ts o.dst v) H'
   |none=>none
  |false=>iP call os (c6 ts o.dst .undef) H
def eF:SV->SV->Bool
 |.bool a,.bool b=>a==b
 |.int k a,.int k' b=>decide (k=k')&&decide (a=b)
 |.str a,.str b=>jG a b
 |.ptr a b,.ptr c d=>Nat.beq a c&&Nat.beq b d
 |.cM,.cM=>true
 |.slice a b c d e,.slice a' b' c' d' e'=>Nat.beq a a'&&Nat.beq b b'&&Nat.beq c c'&&decide (d=d')&&Nat.beq e e'
 |.ao,.ao=>true
 |.map a,.map b=>Nat.beq a b
 |.lP,.lP=>true
 |.func f [] [],.func g [] []=>Nat.beq f g
 |.lO,.lO=>true
 |.lq,.lq=>true
 |_,_=>false
def eg:List SV->List SV->Bool
 |[],[]=>true
 |x::xs,y::ys=>eF x y&&eg xs ys
 |_,_=>false
def bD:SV->SV->Bool
 |.agg xs,.agg ys=>eg xs ys
 |.aJ xs,.aJ ys=>eg xs ys
 |.iface t x,.iface u y=>Nat.beq t u&&eF x y
 |x,y=>eF x y
def gC (k:SK) (ts:T) (H:ag):Option SV:=
 match k with
 |.op so=>match evalOp so ts H with
  |some (v,_)=>some v
  |none=>none
 |_=>none
def wM (o:aG) (dk:DK) (ts:T) (H:ag):T:=
 match dk with
 |.cg=>ts
 |_=>match bL ts o.guard with
  |true=>match gC o.k ts H with
   |some v=>c6 ts o.dst v
   |none=>ts
  |false=>c6 ts o.dst .undef
def fC:List (aG×DK)->T->ag->Option (List SV×ag)
 |[],_,H=>some ([],H)
 |(o,dk)::os,ts,H=>match dk with
  |.hoist _ _=>match o.k with
   |.op so=>match evalOp so ts H with
    |some (v,H')=>match fC os (c6 ts o.dst v) H' with
     |some (vs,jB)=>some (v::vs,jB)
     |none=>none
    |none=>none
   |_=>none
  |_=>match fC os (wM o dk ts H) H with
   |some (vs,H')=>some (.undef::vs,H')
   |none=>none
def dS (call:cb):List (aG×DK)->List SV->T->ag->Option (List T×List SV×List ag×T)
 |[],_,ts,H=>some ([],[],[H],ts)
 |_::_,[],_,_=>none
 |(o,dk)::os,hv::bx,ts,H=>
  match dk with
  |.cg=>
   let r:Option (SV×ag):=match bL ts o.guard with
    |true=>eu call o.k ts H
    |false=>some (.undef,H)
   match r with
   |none=>none
   |some (v,H')=>match dS call os bx (c6 ts o.dst v) H' with
    |some (aM,vs,hs,tn)=>some (ts::aM,v::vs,H::hs,tn)
    |none=>none
  |_=>
   let r:Option SV:=match bL ts o.guard with
    |true=>match dk with
     |.hoist _ _=>some hv
     |_=>gC o.k ts H
    |false=>some .undef
   match r with
   |none=>none
   |some v=>match dS call os bx (c6 ts o.dst v) H with
    |some (aM,vs,hs,tn)=>some (ts::aM,v::vs,hs,tn)
    |none=>none
def fN (p:ag->Bool):List ag->Nat->Nat->Bool
 |[],_,_=>true
 |h::hs,lo,hi=>match lo with
  |0=>p h&&(match hi with
   |0=>true
   |hi+1=>fN p hs 0 hi)
  |lo+1=>match hi with
   |0=>true
   |hi+1=>fN p hs lo hi
def SV.flat:SV->Bool
 |.bool _|.int _ _|.str _|.cM|.ao|.lP|.lO|.lq=>true
 |_=>false
def SV.under (b:Nat):SV->Bool
 |.ptr c _=>Nat.blt c b
 |.slice c _ _ _ _=>Nat.blt c b
 |.map c=>Nat.blt c b
 |v=>v.flat
def nD (zero:List SV) (elem:TypeId) (b:Nat) (H:ag):Bool:=
 match H.get b with
 |some (.row cs e true false 0)=>zero.all (SV.under b)&&eg cs zero&&Nat.beq e elem
 |_=>false
def ef (hs:List ag):List (aG×DK)->List T->List SV->Bool
 |[],_,_=>true
 |(o,dk)::os,t::aM,v::vs=>
  (match bL t o.guard with
   |false=>true
   |true=>match dk with
    |.read lo hi=>fN (fun H=>match gC o.k t H with|some u=>bD u v|none=>false) hs lo hi
    |.hoist lo hi=>match o.k,v with
     |.op (.alloc zero elem),.ptr b 0=>fN (nD zero elem b) hs lo hi
     |.op (.hO elem _ _ zero parts),.slice b 0 _ _ _=>match eM t zero parts with
      |some cs=>fN (nD cs elem b) hs lo hi
      |none=>false
     |_,_=>false
    |_=>true)&&ef hs os aM vs
 |_::_,_,_=>false
def qH:List (aG×DK)->Nat->List Nat
 |[],_=>[]
 |(_,.cg)::os,i=>i::qH os (i+1)
 |_::os,i=>qH os (i+1)
def uG (ops:List (aG×DK)) (aM:List T):Bool:=
 match(qH ops 0).reverse with
 |j::i::_=>match ops[i]?,ops[j]?,aM[i]?,aM[j]? with
  |some (⟨_,.op (.store _ a _),none⟩,_),some (⟨_,.op (.store _ b _),none⟩,_),some t,some u=>match a.ev t,b.ev u with
   |.ptr x _,.ptr y _=>!Nat.beq x y
   |_,_=>false
  |_,_,_,_=>false
 |_=>false
def uY (call:cb) (ops:List (aG×DK)) (swap:Bool) (ts:T) (H:ag):Option (T×ag):=
 match fC ops ts H with
 |none=>none
 |some (bx,H0)=>match dS call ops bx ts H0 with
  |none=>none
  |some (aM,vs,hs,tn)=>match ef hs ops aM vs&&(!swap||uG ops aM)with
   |false=>none
   |true=>match hs.getLast? with
    |some Hn=>some (tn,Hn)
    |none=>none
def rH (body:T->DS->ag->Option (fa×T×DS×ag)):Nat->T->DS->ag->Option (fa×T×DS×ag)
 |0,_,_,_=>none
 |n+1,ts,D,H=>match body ts D H with
  |some (.normal,aA,D',H')=>rH body n aA D' H'
  |r=>r
def cO (call:cb) (lf:Nat):er->T->DS->ag->Option (fa×T×DS×ag)
 |.skip,ts,D,H=>some (.normal,ts,D,H)
 |.bJ ops,ts,D,H=>match iP call ops ts H with
  |some (aA,H')=>some (.normal,aA,D,H')
  |none=>none
 |.hX ops swap,ts,D,H=>match uY call ops swap ts H with
  |some (aA,H')=>some (.normal,aA,D,H')
  |none=>none
 |.vQ ops x xs,ts,D,H=>match iP call ops ts H with
  |some (aA,H')=>match x.ev aA with
   |.func f fs cs=>some (.normal,aA,(f,fs++(fi aA xs++cs))::D,H')
   |_=>none
  |none=>none
 |.seq a b,ts,D,H=>match cO call lf a ts D H with
  |some (.normal,aA,D',H')=>cO call lf b aA D' H'
  |r=>r
 |.cond c a b,ts,D,H=>match c.ev ts with
  |.bool true=>cO call lf a ts D H
  |.bool false=>cO call lf b ts D H
  |_=>none
 |.block id b,ts,D,H=>match cO call lf b ts D H with
  |some (.exit lM,aA,D',H')=>match Nat.beq lM id with
   |true=>some (.normal,aA,D',H')
   |false=>some (.exit lM,aA,D',H')
  |r=>r
 |.loop b,ts,D,H=>rH (cO call lf b) lf ts D H
 |.exit id,ts,D,H=>some (.exit id,ts,D,H)
 |.ret,ts,D,H=>some (.ret,ts,D,H)
 |.bad,_,_,_=>none
inductive hJ where
 |tmp (t:Nat)
 |cell (t:Nat) (agg:Bool) (n:Nat)
structure s9 where
 ntmps:Nat
 results:List hJ
 body:er
def iI (ts:T) (H:ag):hJ->Option SV
 |.tmp t=>some (ts.getD t SV.undef)
 |.cell t agg n=>match ts.getD t SV.undef with
  |.ptr b o=>match eK H b o n with
   |some cs=>match agg with
    |true=>some (.agg cs)
    |false=>match cs with
     |[v]=>some v
     |_=>none
   |none=>none
  |_=>none
def lQ (rs:List hJ) (ts:T) (H:ag):Option SV:=
 match cj (iI ts H) rs with
 |some [v]=>some v
 |some vs=>some (.aJ vs)
 |none=>none
inductive dM where
 |code (f:s9)
 |native (g:List SV->ag->Option (SV×ag))
 |qF (g:List SV->Bool)
def wx (cH:FuncId->Option dM) (call:cb) (lf:Nat) (f:FuncId) (args:List SV) (H:ag):Option ag:=
 match cH f with
 |some (.qF g)=>match g args with
  |true=>some H
  |false=>none
 |some (.code sf)=>match cO call lf sf.body (args++List.replicate (sf.ntmps-args.length) SV.undef) [] H with
  |some (.normal,ts,[],H')=>match lQ sf.results ts H' with
   |some _=>some H'
   |none=>none
  |some (.ret,ts,[],H')=>match lQ sf.results ts H' with
   |some _=>some H'
   |none=>none
  |_=>none
 |_=>none
def pw (cd:FuncId->List SV->ag->Option ag) (rs:List hJ) (ts:T):DS->ag->Option (SV×ag)
 |[],H=>match lQ rs ts H with
  |some v=>some (v,H)
  |none=>none
 |(f,args)::ds,H=>match cd f args H with
  |some H'=>pw cd rs ts ds H'
  |none=>none
def aj (cH:FuncId->Option dM) (lf:Nat):Nat->cb
 |0=>fun _ _ _=>none
 |n+1=>fun f args H=>match cH f with
  |some (.native g)=>g args H
  |some (.code sf)=>match cO (aj cH lf n) lf sf.body (args++List.replicate (sf.ntmps-args.length) SV.undef) [] H with
   |some (.normal,ts,D,H')=>pw (wx cH (aj cH lf n) lf) sf.results ts D H'
   |some (.ret,ts,D,H')=>pw (wx cH (aj cH lf n) lf) sf.results ts D H'
   |_=>none
  |_=>none
def pJ (P:Program) (ops:Array Oper) (o:Oper):Option aG:=
 match yS P o with
 |none=>none
 |some k=>match o.guard with
  |none=>some ⟨o.dst,k,none⟩
  |some (j,want)=>match(ops[j]?).bind (·.dst)with
   |some t=>some ⟨o.dst,k,some (t,want)⟩
   |none=>none
def cJ.CS:cJ->Bool
 |.mv _|.pick .. |.build .. |.jk _|.bin .. |.hZ .. |.tu .. |.un .. |.wF .. |.yX _|.Ac .. |.vF .. |.yj .. |.lS .. |.cC .. |.wL .. |.gj .. |.xM .. |.jy .. |.xQ .. |.ext .. |.lens _|.cA _|.z7 _|.vI .. |.AG .. |.yw _|.tw .. |.yW _=>true
 |_=>false
def cJ.zT:cJ->Bool
 |.load .. |.rG .. |.z8 _|.yV _|.Ax .. |.uW _|.uV .. =>true
 |_=>false
def cJ.afR:cJ->Bool
 |.alloc .. =>true
 |.hO _ _ _ _ []=>true
 |_=>false
def cJ.qk:cJ->Bool
 |.alloc .. =>true
 |.hO .. =>true
 |_=>false
def SK.cls (wide:Bool) (k:SK) (guard:Option (Nat×Bool)):Nat:=
 match k with
 |.op so=>match so.CS with
  |true=>0
  |false=>match so.zT with
   |true=>1
   |false=>match(match wide with|true=>so.qk|false=>so.afR)&&guard.isNone with
    |true=>3
    |false=>2
 |_=>2
def aaB (acc:List (List Nat)) (o:Oper):List Nat:=
 (o.after.toList.filter (Region.binds .any)).flatMap fun e=>e.on::acc.getD e.on []
def lZ:List Oper->List (List Nat)->List (List Nat)
 |[],acc=>acc
 |o::os,acc=>lZ os (acc++[(aaB acc o).eraseDups])
def X.tm:X->List Nat
 |.t n=>[n]
 |.c _=>[]
def Xo.tm:Option X->List Nat
 |some x=>x.tm
 |none=>[]
def cJ.tm:cJ->List Nat
 |.bad=>[]
 |.mv x=>x.tm
 |.pick c a b=>c.tm++(a.tm++b.tm)
 |.alloc _ _=>[]
 |.box _ x=>x.tm
 |.build _ ps=>ps.flatMap fun p=>p.2.2.tm
 |.hO _ _ _ _ ps=>ps.flatMap fun p=>p.2.2.tm
 |.load _ _ a=>a.tm
 |.store _ a x=>a.tm++x.tm
 |.jk x=>x.tm
 |.bin _ x y=>x.tm++y.tm
 |.hZ _ _ _ x y=>x.tm++y.tm
 |.tu _ _ x y=>x.tm++y.tm
 |.un _ x=>x.tm
 |.wF _ x=>x.tm
 |.yX x=>x.tm
 |.Bk _ x=>x.tm
 |.yV x=>x.tm
 |.Ac _ x=>x.tm
 |.vF _ xs ys=>xs.flatMap X.tm++ys.flatMap X.tm
 |.vG=>[]
 |.vH _ _ _ _ l c=>l.tm++c.tm
 |.yj lo hi x=>Xo.tm lo++(Xo.tm hi++x.tm)
 |.lS _ lo hi mx x=>Xo.tm lo++(Xo.tm hi++(Xo.tm mx++x.tm))
 |.Ax _ _ lo hi x=>Xo.tm lo++(Xo.tm hi++x.tm)
 |.cC _ x=>x.tm
 |.wL _ _ _ x=>x.tm
 |.gj _ x i=>x.tm++i.tm
 |.xM _ _ x i=>x.tm++i.tm
 |.jy x i=>x.tm++i.tm
 |.xQ _ _ _ x i=>x.tm++i.tm
 |.rG _ _ _ _ m k=>m.tm++k.tm
 |.sP _ _ m k v=>m.tm++(k.tm++v.tm)
 |.ext _ x=>x.tm
 |.lens x=>x.tm
 |.cA x=>x.tm
 |.z8 x=>x.tm
 |.z7 _=>[]
 |.app _ _ _ _ s x=>s.tm++x.tm
 |.vI _ xs=>xs.flatMap X.tm
 |.yU _ _ d s=>d.tm++s.tm
 |.AG _ _ _ x=>x.tm
 |.yw x=>x.tm
 |.yx _ p n=>p.tm++n.tm
 |.uW x=>x.tm
 |.uV _ x=>x.tm
 |.tw _ x y=>x.tm++y.tm
 |.Aq x=>x.tm
 |.rK x=>x.tm
 |.yW x=>x.tm
 |.AY x c=>x.tm++c.tm
 |.AX x c=>x.tm++c.tm
 |.yD x=>Xo.tm x
 |.D3 _ a=>a.tm
 |.D4 a x=>a.tm++x.tm
 |.D0 _ a x y=>a.tm++(x.tm++y.tm)
 |.DZ _ a x=>a.tm++x.tm
 |.Bc x=>x.tm
 |.wz _ _ x=>x.tm
 |.Ba _ _ _ _ s n=>s.tm++n.tm
def SK.tm:SK->List Nat
 |.op so=>so.tm
 |.call _ xs=>xs.flatMap X.tm
 |.tj x xs=>x.tm++xs.flatMap X.tm
 |.inv x _ xs=>x.tm++xs.flatMap X.tm
def aG.looks (o:aG):List Nat:=
 (match o.guard with|some (t,_)=>[t]|none=>[])++o.k.tm
def pI (x y:aG):Bool:=
 (match x.dst with
  |some d=>y.looks.contains d||y.dst==some d
  |none=>false)||
 (match y.dst with
  |some d=>x.looks.contains d
  |none=>false)
def enum {α:Type}:Nat->List α->List (Nat×α)
 |_,[]=>[]
 |i,x::xs=>(i,x)::enum (i+1) xs
def Xf (A:List (List Nat)) (tr:List Nat) (i:Nat):Nat×Nat:=
 ((enum 0 tr).foldl (fun m p=>if(A.getD i []).contains p.2 then p.1+1 else m) 0,
  ((enum 0 tr).find? fun p=>(A.getD p.2 []).contains i).elim tr.length (·.1))
def bc:List (aG×DK)->Nat->Nat
 |[],_=>0
 |_::_,0=>0
 |(_,dk)::os,i+1=>(match dk with|.cg=>1|_=>0)+bc os i
def gK:DK->Bool
 |.cg=>true
 |_=>false
def pH (o:Oper):List Nat:=(o.after.toList.filter (Region.binds .any)).map (·.on)
def yc (dops:List (aG×DK)) (A:List (List Nat)) (lo hi i:Nat):Bool:=
 (Nat.beq lo 0||(enum 0 dops).any fun q=>gK q.2.2&&(A.getD i []).contains q.1&&Nat.beq (bc dops q.1+1) lo)&&
 (Nat.ble (bc dops dops.length) hi||(enum 0 dops).any fun q=>gK q.2.2&&(A.getD q.1 []).contains i&&Nat.beq (bc dops q.1) hi)
def yp (dops:List (aG×DK)) (A:List (List Nat)) (sw:Bool) (i:Nat):Bool:=
 !sw||
 ((enum 0 dops).all fun q=>!gK q.2.2||!(Nat.ble (bc dops dops.length) (bc dops q.1+2))||(A.getD i []).contains q.1)||
 ((enum 0 dops).all fun q=>!gK q.2.2||!(Nat.ble (bc dops dops.length) (bc dops q.1+2))||(A.getD q.1 []).contains i)
def R6 (ops:List Oper) (dops:List (aG×DK)) (A:List (List Nat)) (sw:Bool):Bool:=
 ((enum 0 ops).all fun p=>(pH p.2).all (fun e=>Nat.blt e p.1)&&(A.getD p.1 []).all (fun x=>(pH p.2).any fun e=>Nat.beq x e||(A.getD e []).contains x))&&
 ((enum 0 dops).all fun p=>(enum 0 dops).all fun q=>!(Nat.blt p.1 q.1)||!pI p.2.1 q.2.1||(A.getD q.1 []).contains p.1)&&
 ((enum 0 dops).all fun p=>(enum 0 dops).all fun q=>!(Nat.blt p.1 q.1)||!gK p.2.2||!gK q.2.2||(A.getD q.1 []).contains p.1||
   (sw&&Nat.beq (bc dops p.1+2) (bc dops dops.length)&&Nat.beq (bc dops q.1+1) (bc dops dops.length)))&&
 ((enum 0 dops).all fun p=>match p.2.2 with
   |.pure=>match p.2.1.k with
    |.op so=>so.CS
    |_=>false
   |.read lo hi=>match p.2.1.k with
    |.op so=>so.zT&&yc dops A lo hi p.1&&yp dops A sw p.1
    |_=>false
   |.hoist lo hi=>match p.2.1.k with
    |.op so=>so.qk&&p.2.1.guard.isNone&&yc dops A lo hi p.1&&yp dops A sw p.1
    |_=>false
   |.cg=>true)
def Sy (wide:Bool) (ops:List Oper) (l:List aG):List (aG×DK)×Bool:=
 let A:=lZ ops []
 let cls:=l.map fun o=>o.k.cls wide o.guard
 let tr:=(enum 0 cls).filterMap fun p=>match p.2 with|2=>some p.1|_=>none
 let Bn:=(enum 0 cls).map fun p=>match p.2 with
  |0=>DK.pure
  |1=>let r:=Xf A tr p.1;DK.read r.1 r.2
  |3=>let r:=Xf A tr p.1;DK.hoist r.1 r.2
  |_=>DK.cg
 let sw:=match tr.reverse with
  |j::i::_=>!(A.getD j []).contains i
  |_=>false
 (l.zip Bn,sw)
def tryD (ops:Array Oper) (l:List aG) (wide:Bool):Option er:=
 match Sy wide ops.toList l with
 |(dops,sw)=>match Nat.beq dops.length ops.size&&R6 ops.toList dops (lZ ops.toList []) sw with
  |true=>some (.hX dops sw)
  |false=>none
def yR (P:Program) (ops:Array Oper):Option er:=
 match cj (pJ P ops) ops.toList with
 |none=>none
 |some l=>match tryD ops l false with
  |some c=>some c
  |none=>tryD ops l true
def AB {α:Type}:List α->Option (List α×α)
 |[]=>none
 |[x]=>some ([],x)
 |x::y::l=>match AB (y::l)with
  |some (a,z)=>some (x::a,z)
  |none=>none
def Bh (P:Program) (ops:Array Oper):Option er:=
 match AB ops.toList with
 |some (l,o)=>match o.op,o.guard,o.dst with
  |.defer c,none,none=>match c.callee with
   |.value y=>match cj (pJ P ops) l,aR y,qD c.args with
    |some l,some y,some xs=>some (.vQ l y xs)
    |_,_,_=>none
   |_=>none
  |_,_,_=>none
 |none=>none
def ix (P:Program):Code->er
 |.skip=>.skip
 |.region _ ops d=>match d with
  |false=>match Bh P ops with
   |some c=>c
   |none=>match cj (pJ P ops) ops.toList with
    |some l=>.bJ l
    |none=>.bad
  |true=>match yR P ops with
   |some c=>c
   |none=>.bad
 |.seq a b=>.seq (ix P a) (ix P b)
 |.cond c a b=>match aR c with
  |some c=>.cond c (ix P a) (ix P b)
  |none=>.bad
 |.block id b=>.block id (ix P b)
 |.loop b=>.loop (ix P b)
 |.exit id=>.exit id
 |.ret=>.ret
 |.scope b=>ix P b
 |.label _=>.skip
 |_=>.bad
def wA (P:Program):ResultVar->Option hJ
 |.tmp t=>some (.tmp t)
 |.cell a t=>match iu P t with
  |some i=>some (.cell a i.agg i.size)
  |none=>none
def Bg (P:Program) (fn:Func):Option s9:=
 match fn.body with
 |none=>none
 |some c=>match cj (wA P) fn.results.toList with
  |some rs=>some ⟨fn.ntmps,rs,ix P c⟩
  |none=>none
end
section
def ox (d:Nat) (s:cJ):aG:=⟨some d,.op s,none⟩
def oy (d n:Nat):aG:=⟨some d,.op (.mv (.t n)),none⟩
end
section
instance (n:Nat):OfNat X n:=⟨.t n⟩
namespace Z
def i (n:Nat):SV:=.int .i64 (.ofNat n)
def u (n:Nat):SV:=.int .u8 (.ofNat n)
def j (n:Nat):X:=.c (.int .i64 (.ofNat n))
def tt:X:=.c (.bool true)
def ff:X:=.c (.bool false)
def s (a b:er):er:=.seq a b
def g (l:List aG):er:=.bJ l
def r (l:List aG) (a:er):er:=.seq (.bJ l) a
def w (c:X) (a:er):er:=.cond c a .skip
def x (d:Nat) (o:cJ):aG:=⟨some d,.op o,none⟩
def xt (d:Nat) (o:cJ) (t:Nat):aG:=⟨some d,.op o,some (t,true)⟩
def xe (d:Nat) (o:cJ) (t:Nat):aG:=⟨some d,.op o,some (t,false)⟩
def n (o:cJ):aG:=⟨none,.op o,none⟩
def k (d f:Nat) (l:List X):aG:=⟨some d,.call f l,none⟩
def y (d t:Nat):aG:=⟨some d,.op (.mv (.t t)),none⟩
def m (d:Nat) (a:X):aG:=⟨some d,.op (.mv a),none⟩
def b (d:Nat) (o:BinOp) (p q:X):aG:=⟨some d,.op (.bin o p q),none⟩
def l (d:Nat) (a:X):aG:=⟨some d,.op (.load false 1 a),none⟩
def d (t k:Nat) (a:X):aG:=⟨some t,.op (.cC k a),none⟩
def e (t k:Nat) (a:X):aG:=⟨some t,.op (.ext k a),none⟩
def p (t:Nat) (a b c:X):aG:=⟨some t,.op (.pick a b c),none⟩
def ll (t:Nat) (a:X):aG:=⟨some t,.op (.cA a),none⟩
end Z
end
section
def pre:List Nat->List Nat->Bool
 |[],_=>true
 |_::_,[]=>false
 |a::l,b::s=>Nat.beq a b&&pre l s
def jy:List Nat->List Nat->Nat->Int
 |s,sub,i=>match pre sub s with
  |true=>Int.ofNat i
  |false=>match s with
   |[]=> -1
   |_::s'=>jy s' sub (i+1)
def dx (sub:List Nat):List Nat->Option Nat
 |[]=>match pre sub []with
  |true=>some 0
  |false=>none
 |x::s=>match pre sub (x::s)with
  |true=>some 0
  |false=>(dx sub s).map (· +1)
theorem xX:∀{a s:List Nat},pre a s=true↔s.take a.length=a
 |[],s=>by simp[pre]
 |a::l,[]=>by simp[pre]
 |a::l,b::s=>by
  simp only[pre,Bool.and_eq_true,Nat.beq_eq,xX (a:=l) (s:=s),List.length_cons,List.take_succ_cons,List.cons.injEq];exact⟨fun h=>⟨h.1.symm,h.2⟩,fun h=>⟨h.1.symm,h.2⟩⟩
theorem oE {a s:List Nat} (h:pre a s=true):a.length<=s.length:=by
 have:=congrArg List.length (xX.1 h);rw[List.length_take]at this;omega
theorem W5 {a s:List Nat} (h:pre a s=true):s=a++s.drop a.length:=by
 have:=xX.1 h
 conv=>lhs;rw[<-List.take_append_drop a.length s,this]
theorem Nl (sub:List Nat):∀(s:List Nat) (i:Nat),jy s sub i=match dx sub s with|some k=>((i+k:Nat):Int)|none=> -1
 |[],i=>by
  unfold jy dx;cases h:pre sub []<;>simp
 |x::s,i=>by
  unfold jy dx;cases h:pre sub (x::s)with
  |true=>simp
  |false=>
   simp only[Nl sub s (i+1)];cases dx sub s with
   |none=>rfl
   |some k=>
    show((i+1+k:Nat):Int)=((i+(k+1):Nat):Int);rw[show i+1+k=i+(k+1)by omega]
theorem sN {sub:List Nat}:∀{s:List Nat} {k:Nat},dx sub s=some k->pre sub (s.drop k)=true/\k<=s.length/\∀j,j<k->pre sub (s.drop j)=false
 |[],k,h=>by
  unfold dx at h;cases hp:pre sub []with
  |true=>rw[hp]at h;cases h;exact⟨hp,Nat.le_refl _,fun j hj=>by omega⟩
  |false=>rw[hp]at h;cases h
 |x::s,k,h=>by
  unfold dx at h;cases hp:pre sub (x::s)with
  |true=>rw[hp]at h;cases h;exact⟨hp,Nat.zero_le _,fun j hj=>by omega⟩
  |false=>
   rw[hp]at h;simp only[Option.map_eq_some_iff]at h;obtain⟨k',hk,rfl⟩:=h;obtain⟨h1,h2,h3⟩:=sN hk;refine⟨h1,by simp;omega,fun j hj=>?_⟩;cases j with
   |zero=>exact hp
   |succ j=>exact h3 j om
theorem VQ {sub:List Nat}:∀{s:List Nat},dx sub s=none->∀j,j<=s.length->pre sub (s.drop j)=false
 |[],h,j,hj=>by
  unfold dx at h;cases hp:pre sub []with
  |true=>rw[hp]at h;cases h
  |false=>simpa using hp
 |x::s,h,j,hj=>by
  unfold dx at h;cases hp:pre sub (x::s)with
  |true=>rw[hp]at h;cases h
  |false=>
   rw[hp]at h;simp only[Option.map_eq_none_iff]at h;cases j with
   |zero=>exact hp
   |succ j=>exact VQ h j (by simpa using hj)
theorem afT {sub s:List Nat} {k:Nat} (h1:pre sub (s.drop k)=true) (hk:k<=s.length) (h2:∀j,j<k->pre sub (s.drop j)=false):dx sub s=some k:=by
 cases h:dx sub s with
 |none=>rw[VQ h k hk]at h1;cases h1
 |some k'=>
  obtain⟨h3,_,h4⟩:=sN h;rcases Nat.lt_trichotomy k k' with hl|rfl|hl
  ·rw[h4 k hl]at h1;cases h1
  ·rfl
  ·rw[h2 k' hl]at h3;cases h3
theorem afU {sub s:List Nat} (h:∀j,j<=s.length->pre sub (s.drop j)=false):dx sub s=none:=by
 cases hk:dx sub s with
 |none=>rfl
 |some k=>
  obtain⟨h3,h4,_⟩:=sN hk;rw[h k h4]at h3;cases h3
end
end Go.Sh
