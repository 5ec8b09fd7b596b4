/-
  The steps of the reckoning are theorems whose side conditions are closed where they are used. No conditions beyond those that stand in the theorems.
-/
import Derived.Test.YtfgpklidnkdahaaGreatDoorShA5
import Derived.KernelRfl
set_option linter.all false
set_option maxHeartbeats 20000000
set_option maxRecDepth 10000
namespace Go.Sh
section
section
variable {ts:T} {H:ag}
theorem dN {a b:Nat} (h:a<=b):Nat.ble a b=true:=Nat.ble_eq_true_of_le h
theorem qB {a b:Nat} (h:a<b):Nat.blt a b=true:=dN h
theorem l0 (a:Nat):Nat.beq a a=true:=by simp
theorem beq_true {a b:Nat} (h:a=b):Nat.beq a b=true:=by subst h;exact l0 a
theorem beq_false {a b:Nat} (h:a≠b):Nat.beq a b=false:=by
 cases e:Nat.beq a b with
 |false=>rfl
 |true=>exact absurd (Nat.eq_of_beq_eq_true e) h
theorem acA (n:Nat):X.ev ts (.t n)=ts.getD n SV.undef:=rfl
theorem acz (v:SV):X.ev ts (.c v)=v:=rfl
theorem acF:fi ts []=[]:=rfl
theorem acD (x:X) (xs:List X):fi ts (x::xs)=x.ev ts::fi ts xs:=rfl
theorem adr (v:SV) (l:T):List.getD (v::l) 0 SV.undef=v:=rfl
theorem adq (v:SV) (l:T) (n:Nat):List.getD (v::l) (n+1) SV.undef=List.getD l n SV.undef:=by simp
noncomputable def fp (r:Option SV) (H:ag):Option (SV×ag):=match r with
 |some v=>some (v,H)
 |none=>none
theorem ahk (v:SV):fp (some v) H=some (v,H):=rfl
theorem aiG (x:X):evalOp (.mv x) ts H=some (x.ev ts,H):=rfl
def GU (c a b:SV):Option SV:=match c with
 |.bool true=>some a
 |.bool false=>some b
 |_=>none
theorem aiI (c a b:X):evalOp (.pick c a b) ts H=fp (GU (c.ev ts) (a.ev ts) (b.ev ts)) H:=by
 simp only[evalOp,GU];generalize c.ev ts=v;cases v with
 |bool b=>cases b<;>rfl
 |_=>rfl
theorem ai1 (a b:SV):GU (.bool true) a b=some a:=rfl
theorem ai0 (a b:SV):GU (.bool false) a b=some b:=rfl
theorem aii (zero:List SV) (elem:TypeId):evalOp (.alloc zero elem) ts H=some (.ptr H.next 0,H.push (.row zero elem true false 0)):=rfl
theorem aij (elem:TypeId) (x:X):evalOp (.box elem x) ts H=some (.ptr H.next 0,H.push (.row (x.ev ts).cells elem true false 0)):=rfl
theorem abu (cs:List SV):(SV.agg cs).cells=cs:=rfl
theorem abw (k:IntKind) (n:Int):(SV.int k n).cells=[.int k n]:=rfl
theorem abv (b:Bool):(SV.bool b).cells=[.bool b]:=rfl
theorem abC (s:List Nat):(SV.str s).cells=[.str s]:=rfl
theorem abA (b o:Nat):(SV.ptr b o).cells=[.ptr b o]:=rfl
theorem abx:SV.cM.cells=[.cM]:=rfl
theorem aby:SV.ao.cells=[.ao]:=rfl
theorem abB (b o n:Nat) (c:Option Nat) (z:Nat):(SV.slice b o n c z).cells=[.slice b o n c z]:=rfl
def JG (r:Option (List SV)):Option SV:=match r with
 |some cs=>some (.agg cs)
 |none=>none
theorem aik (zero:List SV) (parts:List (Nat×Nat×X)):evalOp (.build zero parts) ts H=fp (JG (eM ts zero parts)) H:=by
 simp only[evalOp,JG];cases eM ts zero parts<;>rfl
theorem abk (cs:List SV):JG (some cs)=some (.agg cs):=rfl
def KE (ts:T) (b:Bool) (cs:List SV) (rest:List (Nat×Nat×X)):Option (List SV):=match b with
 |true=>eM ts cs rest
 |false=>none
theorem acO (cs:List SV):eM ts cs []=some cs:=rfl
theorem acN (cs:List SV) (off size:Nat) (x:X) (rest:List (Nat×Nat×X)):
 eM ts cs ((off,size,x)::rest)=KE ts (Nat.beq (x.ev ts).cells.length size&&Nat.ble (off+(x.ev ts).cells.length) cs.length) (sY cs off (x.ev ts).cells) rest:=by
 simp only[eM,KE];generalize (Nat.beq (x.ev ts).cells.length size&&Nat.ble (off+(x.ev ts).cells.length) cs.length)=p;cases p<;>rfl
theorem acM (cs:List SV) (rest:List (Nat×Nat×X)):KE ts true cs rest=eM ts cs rest:=rfl
def JF (H:ag) (elem:TypeId) (z len:Nat) (r:Option (List SV)):Option (SV×ag):=match r with
 |some cs=>some (.slice H.next 0 len (some len) z,H.push (.row cs elem true false 0))
 |none=>none
theorem WR (elem:TypeId) (z len:Nat) (zero:List SV) (parts:List (Nat×Nat×X)):evalOp (.hO elem z len zero parts) ts H=JF H elem z len (eM ts zero parts):=by
 simp only[evalOp,JF];split<;>simp_all
theorem abj (elem:TypeId) (z len:Nat) (cs:List SV):JF H elem z len (some cs)=some (.slice H.next 0 len (some len) z,H.push (.row cs elem true false 0)):=rfl
def aq (o:Option cz) (p n:Nat):Option (List SV):=match o with
 |some (.row cs _ _ _ _)=>match Nat.ble (p+n) cs.length with
  |true=>some ((cs.drop p).take n)
  |false=>none
 |_=>none
theorem ot (b p n:Nat):eK H b p n=aq (H.get b) p n:=rfl
theorem jl {cs:List SV} {e:TypeId} {ex ro:Bool} {frz p n:Nat} (h:p+n<=cs.length):aq (some (.row cs e ex ro frz)) p n=some ((cs.drop p).take n):=by
 simp only[aq,dN h]
def Ak (agg:Bool) (r:Option (List SV)):Option SV:=match r with
 |some cs=>match agg with
  |true=>some (.agg cs)
  |false=>match cs with
   |[v]=>some v
   |_=>none
 |none=>none
def CW (agg:Bool) (n:Nat) (a:SV) (H:ag):Option SV:=match a with
 |.ptr b o=>Ak agg (eK H b o n)
 |_=>none
theorem aiB (agg:Bool) (n:Nat) (a:X):evalOp (.load agg n a) ts H=fp (CW agg n (a.ev ts) H) H:=by
 simp only[evalOp,CW,Ak];generalize a.ev ts=v;cases v with
 |ptr b o=>
  dsimp only;cases eK H b o n with
  |none=>rfl
  |some cs=>
   cases agg
   ·match cs with
    |[]=>rfl
    |[v]=>rfl
    |_::_::_=>rfl
   ·rfl
 |_=>rfl
theorem agQ (agg:Bool) (n b o:Nat):CW agg n (.ptr b o) H=Ak agg (eK H b o n):=rfl
theorem aiT (cs:List SV):Ak true (some cs)=some (.agg cs):=rfl
theorem aiU (v:SV):Ak false (some [v])=some v:=rfl
def OQ (H:ag) (b o:Nat) (vs:List SV) (q:Option cz):Option ag:=match q with
 |some (.row cs e ex false frz)=>
  match Nat.ble (o+vs.length) cs.length&&Nat.ble frz o&&vs.all SV.one with
  |true=>some (H.put b (.row (cs.take o++(vs++cs.drop (o+vs.length))) e ex false frz))
  |false=>none
 |_=>none
theorem iq (b o:Nat) (vs:List SV):gN H b o vs=OQ H b o vs (H.get b):=rfl
theorem im {b o:Nat} {vs cs:List SV} {e:TypeId} {ex:Bool} {frz:Nat} (h1:o+vs.length<=cs.length) (h2:frz<=o) (h3:vs.all SV.one=true):
 OQ H b o vs (some (.row cs e ex false frz))=some (H.put b (.row (cs.take o++(vs++cs.drop (o+vs.length))) e ex false frz)):=by
 simp only[OQ,dN h1,dN h2,h3,Bool.and_self]
def O6 (r:Option ag):Option (SV×ag):=match r with
 |some H'=>some (.undef,H')
 |none=>none
theorem alT:O6 (some H)=some (.undef,H):=rfl
def c7 (n:Nat) (a:SV) (cs:List SV) (H:ag):Option ag:=match a with
 |.ptr b o=>match Nat.beq cs.length n with
  |true=>gN H b o cs
  |false=>none
 |_=>none
theorem aiN (n:Nat) (a x:X):evalOp (.store n a x) ts H=O6 (c7 n (a.ev ts) (x.ev ts).cells H):=by
 simp only[evalOp,c7,O6];generalize a.ev ts=v;cases v with
 |ptr b o=>
  dsimp only;split
  ·split<;>simp_all
  ·simp_all
 |_=>rfl
theorem iL {n b o:Nat} {cs:List SV} (h:cs.length=n):c7 n (.ptr b o) cs H=gN H b o cs:=by
 simp only[c7,beq_true h]
def NR (v:SV):Option SV:=match v with
 |.cM=>none
 |.lq=>none
 |.lO=>none
 |.rM _=>none
 |v=>some v
theorem aiH (x:X):evalOp (.jk x) ts H=fp (NR (x.ev ts)) H:=by
 simp only[evalOp,NR];generalize x.ev ts=v;cases v<;>rfl
theorem ahf (b o:Nat):NR (.ptr b o)=some (.ptr b o):=rfl
theorem C5 (op:BinOp) (x y:X):evalOp (.bin op x y) ts H=fp (bX op (x.ev ts) (y.ev ts)) H:=by
 simp only[evalOp,fp];rfl
section
variable (k:IntKind) (a b:Int)
theorem aaR:bX .add (.int k a) (.int k b)=some (.int k (k.wrap (a+b))):=by
 show(if k≠k then none else some (SV.int k (k.wrap (a+b))))=_;simp
theorem RC:bX .sub (.int k a) (.int k b)=some (.int k (k.wrap (a-b))):=by
 show(if k≠k then none else some (SV.int k (k.wrap (a-b))))=_;simp
theorem aaX (h:b≠0):bX .rem (.int k a) (.int k b)=some (.int k (a.tmod b)):=by
 show(if k≠k then none else if b=0 then none else some (SV.int k (a.tmod b)))=_;simp[h]
theorem aaS:bX .and (.int k a) (.int k b)=some (.int k (k.wrap (BitVec.ofInt k.bits a &&& BitVec.ofInt k.bits b).toNat)):=by
 show(if k≠k then none else some (SV.int k (k.wrap (BitVec.ofInt k.bits a &&& BitVec.ofInt k.bits b).toNat)))=_;simp
theorem Rz:bX .eql (.int k a) (.int k b)=some (.bool (decide (a=b))):=by
 show(if k≠k then none else some (SV.bool (a==b)))=_;by_cases h:a=b<;>simp[h]
theorem aaW:bX .neq (.int k a) (.int k b)=some (.bool (decide (a≠b))):=by
 show(if k≠k then none else some (SV.bool (a !=b)))=_;by_cases h:a=b<;>simp[h]
theorem aaV:bX .lss (.int k a) (.int k b)=some (.bool (decide (a<b))):=by
 show(if k≠k then none else some (SV.bool (a<b)))=_;simp
theorem RA:bX .leq (.int k a) (.int k b)=some (.bool (decide (a<=b))):=by
 show(if k≠k then none else some (SV.bool (a<=b)))=_;simp
theorem aaU:bX .gtr (.int k a) (.int k b)=some (.bool (decide (a>b))):=by
 show(if k≠k then none else some (SV.bool (a>b)))=_;simp
theorem aaT:bX .geq (.int k a) (.int k b)=some (.bool (decide (a>=b))):=by
 show(if k≠k then none else some (SV.bool (a>=b)))=_;simp
end
theorem gG:∀{a b:List Nat},jG a b=decide (a=b)
 |[],[]=>rfl
 |[],_::_=>by simp[jG]
 |_::_,[]=>by simp[jG]
 |a::x,b::y=>by
  simp only[jG,gG (a:=x) (b:=y)];by_cases h:a=b
  ·subst h;simp
  ·have:Nat.beq a b=false:=beq_false h;simp[this,h]
theorem aaY (a b:List Nat):bX .eql (.str a) (.str b)=some (.bool (decide (a=b))):=by
 show some (SV.bool (jG a b))=_;rw[gG]
theorem aa0 (a b:List Nat):bX .neq (.str a) (.str b)=some (.bool (decide (a≠b))):=by
 show some (SV.bool (!jG a b))=_;rw[gG];by_cases h:a=b<;>simp[h]
theorem eT {a b:List Nat} (h:a.length+b.length<=4611686018427387904):bX .add (.str a) (.str b)=some (.str (a++b)):=by
 show(match Nat.ble (a.length+b.length) vB with|true=>some (SV.str (a++b))|false=>none)=_;rw[show vB=4611686018427387904 from rfl,dN h]
theorem wrap_i64 {x:Int} (h1: -9223372036854775808<=x) (h2:x<=9223372036854775807):IntKind.wrap .i64 x=x:=by
 unfold IntKind.wrap;simp[IntKind.bits,IntKind.signed];split<;>omega
theorem wrap_u8 {x:Int} (h1:0<=x) (h2:x<=255):IntKind.wrap .u8 x=x:=by
 unfold IntKind.wrap;simp[IntKind.bits,IntKind.signed];omega
theorem aiO (op:UnOp) (x:X):evalOp (.un op x) ts H=fp (yv op (x.ev ts)) H:=by
 simp only[evalOp,fp];rfl
theorem alU (b:Bool):yv .not (.bool b)=some (.bool !b):=rfl
def zb (neg:Bool) (r:Option Bool):Option SV:=match r with
 |some b=>some (.bool (b !=neg))
 |none=>none
theorem aio (neg agg:Bool) (L:List (Nat×Nat)) (x y:X):evalOp (.hZ neg agg L x y) ts H=fp (zb neg (hY agg L (x.ev ts) (y.ev ts))) H:=by
 simp only[evalOp,zb];cases hY agg L (x.ev ts) (y.ev ts)<;>rfl
theorem acs (b:Bool):zb false (some b)=some (.bool b):=by cases b<;>rfl
theorem acu (b:Bool):zb true (some b)=some (.bool !b):=by cases b<;>rfl
theorem aip (neg:Bool) (kind:Nat) (x y:X):evalOp (.tu neg kind x y) ts H=fp (zb neg (nK kind (x.ev ts) (y.ev ts))) H:=by
 simp only[evalOp,zb];cases nK kind (x.ev ts) (y.ev ts)<;>rfl
theorem acv:nK 0 .cM .cM=some true:=rfl
theorem acw (b o:Nat):nK 0 (.ptr b o) .cM=some false:=rfl
def JY (k:IntKind) (v:SV):Option SV:=match v with
 |.int _ n=>some (.int k (k.wrap n))
 |_=>none
theorem aim (k:IntKind) (x:X):evalOp (.wF k x) ts H=fp (JY k (x.ev ts)) H:=by
 simp only[evalOp,JY];generalize x.ev ts=v;cases v<;>rfl
theorem ab8 (k k':IntKind) (n:Int):JY k (.int k' n)=some (.int k (k.wrap n)):=rfl
def KD (off:Nat) (v:SV):Option SV:=match v with
 |.ptr b o=>some (.ptr b (o+off))
 |_=>none
theorem ais (off:Nat) (x:X):evalOp (.cC off x) ts H=fp (KD off (x.ev ts)) H:=by
 simp only[evalOp,KD];generalize x.ev ts=v;cases v<;>rfl
theorem acK (off b o:Nat):KD off (.ptr b o)=some (.ptr b (o+off)):=rfl
def KJ (agg:Bool) (n off:Nat) (v:SV):Option SV:=match v with
 |.agg cs=>qp agg n off cs
 |_=>none
theorem ait (agg:Bool) (n off:Nat) (x:X):evalOp (.wL agg n off x) ts H=fp (KJ agg n off (x.ev ts)) H:=by
 simp only[evalOp,KJ];generalize x.ev ts=v;cases v with
 |agg cs=>dsimp only;cases qp agg n off cs<;>rfl
 |_=>rfl
theorem acW (agg:Bool) (n off:Nat) (cs:List SV):KJ agg n off (.agg cs)=qp agg n off cs:=rfl
theorem aiY (n off:Nat) (cs:List SV):qp false n off cs=cs[off]? :=rfl
theorem aiX (n off:Nat) (cs:List SV):qp true n off cs=some (.agg ((cs.drop off).take n)):=rfl
def kN (z:Nat) (v i:SV):Option SV:=match v,i with
 |.slice b o n _ z',.int _ (.ofNat k)=>match Nat.blt k n&&Nat.beq z z' with
  |true=>some (.ptr b (o+k*z))
  |false=>none
 |_,_=>none
theorem aiv (z:Nat) (x i:X):evalOp (.gj z x i) ts H=fp (kN z (x.ev ts) (i.ev ts)) H:=by
 simp only[evalOp];generalize x.ev ts=v;generalize i.ev ts=u;cases v with
 |slice b o n c z'=>
  cases u with
  |int k m=>
   cases m with
   |ofNat m=>simp only[kN];generalize (Nat.blt m n&&Nat.beq z z')=p;cases p<;>rfl
   |negSucc m=>rfl
  |_=>rfl
 |_=>rfl
theorem toNat_of {i:Int} (h:0<=i):∃k:Nat,i=(k:Int)/\i.toNat=k:=⟨i.toNat,by omega,rfl⟩
theorem qh {z b o n:Nat} {c:Option Nat} {kk:IntKind} {i:Int} (hi:0<=i) (h:i<n):kN z (.slice b o n c z) (.int kk i)=some (.ptr b (o+i.toNat*z)):=by
 obtain⟨k,rfl,hk⟩:=toNat_of hi;rw[hk];show(match Nat.blt k n&&Nat.beq z z with|true=>some (SV.ptr b (o+k*z))|false=>none)=_;rw[qB om,l0];rfl
def Nk (v i:SV):Option SV:=match v,i with
 |.str s,.int _ (.ofNat k)=>match s[k]? with
  |some b=>some (.int .u8 (Int.ofNat b))
  |none=>none
 |_,_=>none
theorem aix (x i:X):evalOp (.jy x i) ts H=fp (Nk (x.ev ts) (i.ev ts)) H:=by
 simp only[evalOp];generalize x.ev ts=v;generalize i.ev ts=u;cases v with
 |str s=>
  cases u with
  |int k m=>
   cases m with
   |ofNat m=>simp only[Nk];cases s[m]? <;>rfl
   |negSucc m=>rfl
  |_=>rfl
 |_=>rfl
def VT (r:Option Nat):Option SV:=match r with
 |some b=>some (.int .u8 b)
 |none=>none
theorem afX {s:List Nat} {kk:IntKind} {i:Int} (hi:0<=i):Nk (.str s) (.int kk i)=VT s[i.toNat]? :=by
 obtain⟨k,rfl,hk⟩:=toNat_of hi;rw[hk];show(match s[k]? with|some b=>some (SV.int .u8 (Int.ofNat b))|none=>none)=_;cases s[k]? <;>rfl
theorem afW (b:Nat):VT (some b)=some (.int .u8 b):=rfl
def KC (i:Nat) (v:SV):Option SV:=match v with
 |.aJ vs=>vs[i]?
 |_=>none
theorem air (i:Nat) (x:X):evalOp (.ext i x) ts H=fp (KC i (x.ev ts)) H:=by
 simp only[evalOp,KC];generalize x.ev ts=v;cases v with
 |aJ vs=>dsimp only;cases vs[i]? <;>rfl
 |_=>rfl
theorem acH (i:Nat) (vs:List SV):KC i (.aJ vs)=vs[i]? :=rfl
def NC (v:SV):Option SV:=match v with
 |.str s=>some (.int .i64 (s.length:Int))
 |_=>none
theorem aiz (x:X):evalOp (.lens x) ts H=fp (NC (x.ev ts)) H:=by
 simp only[evalOp,NC];generalize x.ev ts=v;cases v<;>rfl
theorem agH (s:List Nat):NC (.str s)=some (.int .i64 (s.length:Int)):=rfl
def kn (v:SV):Option SV:=match v with
 |.ao=>some (.int .i64 0)
 |.slice _ _ n _ _=>some (.int .i64 (n:Int))
 |_=>none
theorem aiy (x:X):evalOp (.cA x) ts H=fp (kn (x.ev ts)) H:=by
 simp only[evalOp,kn];generalize x.ev ts=v;cases v<;>rfl
theorem agF:kn .ao=some (.int .i64 0):=rfl
theorem agG (b o n:Nat) (c:Option Nat) (z:Nat):kn (.slice b o n c z)=some (.int .i64 (n:Int)):=rfl
theorem RG (k:IntKind) (n:Int):bD (.int k n) (.int k n)=true:=by simp[bD,eF]
theorem aa6 (b:Bool):bD (.bool b) (.bool b)=true:=by simp[bD,eF]
theorem abd (l:List Nat):bD (.str l) (.str l)=true:=by simp[bD,eF,gG]
theorem abb (b o:Nat):bD (.ptr b o) (.ptr b o)=true:=by simp[bD,eF]
theorem aa8:bD .cM .cM=true:=rfl
theorem aa9:bD .ao .ao=true:=rfl
theorem uT (b o n:Nat) (c:Option Nat) (z:Nat):bD (.slice b o n c z) (.slice b o n c z)=true:=by simp[bD,eF]
theorem bd (o:cz):(H.push o).get H.next=some o:=by rw[ag.mU,if_pos rfl]
theorem E0 {o:cz} {b:Nat} (h1:b<=H.next) (h2:H.next<=b):(H.push o).get b=some o:=by rw[Nat.le_antisymm h1 h2];exact bd o
theorem cU {o:cz} {b:Nat} (h:b<H.next):(H.push o).get b=H.get b:=by rw[ag.mU,if_neg om]
theorem bT (o:cz) (b:Nat):(H.put b o).get b=some o:=by rw[ag.mV,if_pos rfl]
theorem cI {o:cz} {b c:Nat} (h:c≠b):(H.put b o).get c=H.get c:=by rw[ag.mV,if_neg h]
theorem dZ (o:cz):(H.push o).next=H.next+1:=rfl
theorem ea (o:cz) (b:Nat):(H.put b o).next=H.next:=rfl
theorem Ol (r:hJ) (v:SV) (h:iI ts H r=some v):lQ [r] ts H=some v:=by simp only[lQ,cj,h]
theorem bQ:lQ [] ts H=some (.aJ []):=rfl
theorem Xn (n:Nat):iI ts H (.tmp n)=some (ts.getD n SV.undef):=rfl
theorem ajq (r q:hJ) (v w:SV) (h:iI ts H r=some v) (h2:iI ts H q=some w):lQ [r,q] ts H=some (.aJ [v,w]):=by simp only[lQ,cj,h,h2]
end
attribute [go_sem] Int.sub_self dN beq_true qB acA acz acF acD adr adq ahk aiG aiI ai1 ai0 aii aij abu abw abv abC abA abx aby abB
 aik abk acO acN acM WR abj ot jl aiB agQ aiT aiU iq im alT aiN iL aiH ahf
 C5 aaR RC aaX aaS Rz aaW aaV RA aaU aaT aaY aa0 eT wrap_i64 wrap_u8 aiO alU aio acs acu aip acv acw aim ab8
 ais acK ait acW aiY aiX aiv qh aix afX afW Int.toNat_natCast Int.toNat_zero Int.toNat_one air acH aiz agH aiy agF agG
 RG aa6 abd abb aa8 aa9 uT Int.ofNat_eq_natCast
 bd E0 cU bT cI dZ ea Xn
 List.set_cons_zero List.set_cons_succ List.length_cons List.length_nil List.drop_zero List.drop_succ_cons List.take_succ_cons List.take_zero List.take_nil List.cons_append List.nil_append
 List.getElem?_cons_zero List.getElem?_cons_succ sY List.drop_nil List.all_cons List.all_nil SV.one Bool.and_self Bool.and_true
end
section
@[go_sem] def zz (z:Nat->SV) (i:Nat):Nat->List SV->List SV
  |0,l=>l
  |n+1,l=>z i::zz z (i+1) n l
theorem aN {n:Nat} (h:1<=n:=by omega):∃m,n=m+1:=⟨n-1,by omega⟩
theorem dB {A X F:Prop} {α:Type} {l:List α} {v:α} {P:α->Prop} (a:A) (b:P v) (hx:X->F:=by
 intro h;cases h) (hl:l.getLast?=some v:=by
 simp only[List.getLast?_cons_cons,List.getLast?_singleton]
 first|done|with_reducible rfl):A/\(X->F)/\∃v,l.getLast?=some v/\P v:=⟨a,hx,v,hl,b⟩
theorem cx {cH:FuncId->Option dM} {f:FuncId} {lf n:Nat} (sf:s9) {args:List SV} {ts:T} {H:ag} {P:SV->ag->Prop} (h:EC (aj cH lf n) lf sf.body ts [] H (qL sf.results P))
 (ht:cH f=some (.code sf):=by kernel_rfl) (hs:args++List.replicate (sf.ntmps-args.length) SV.undef=ts:=by
  simp only[go_sem,List.reduceReplicate,Nat.reduceAdd,Nat.reduceSub];exact rfl):∃v H',aj cH lf (n+1) f args H=some (v,H')/\P v H':=Ew ht hs h
section
variable {call:cb} {lf:Nat} {ops os:List aG} {ts aA:T} {H H':ag} {D:DS} {d n:Nat} {v:SV} {s:cJ} {a b c:er} {Q:T->ag->Prop} {R:fa->T->DS->ag->Prop}
theorem aZ {f p:Prop} (hf:f) (h:f->p:=by
 intro fs
 (simp(disch:=(first|omega|(simp only[List.length_cons,List.length_nil,List.length_append,List.length_take,List.length_drop,List.length_replicate,dZ,ea,List.all_cons,List.all_nil,SV.one,Bool.and_self,fs];done)|(simp only[List.length_cons,List.length_nil,List.length_append,List.length_take,List.length_drop,List.length_replicate,dZ,ea,List.all_cons,List.all_nil,SV.one,Bool.and_self,fs];omega)|fail)) only[go_sem,Nat.reduceAdd,Nat.reduceSub,Nat.reduceMul,Nat.zero_add,Nat.add_zero,Nat.mul_one,Nat.one_mul,Int.reduceToNat,Int.reduceAdd,Int.reduceSub,decide_true,decide_false,fs];first|done|with_reducible rfl)):p:=h hf
theorem bW {p:Prop} (h:p:=by
 (simp only[List.set_cons_zero,List.set_cons_succ,zz,Nat.reduceAdd];with_reducible rfl)):p:=h
theorem af {f p q:Prop} (hf:f) (k:q) (h:f->q->p:=by
 intro fs k
 repeat (first
  |refine mN ?_
  |refine A1 ?_
  |refine Ja ?_
  |refine s8 ?_
  |refine Jb ?_
  |refine D7 ?_
  |refine QG rfl ?_
  |refine ly ?_
  |refine Hw ?_
  |refine Hv ?_
  |refine Et ?_
  |refine JC ?_
  |refine wv ?_
  |refine RE rfl ?_
  |refine Wb ?_
  |refine xR ?_
  |refine D9 ?_
  |refine QY ?_
  |refine QT (aZ fs) bW ?_
  |refine QU (aZ fs) bW ?_
  |refine Ea (aZ fs) ?_
  |refine QZ (aZ fs) bW ?_
  |refine Eb (aZ fs) (by simp only[go_sem]) bW ?_
  |refine QM ?_
  |refine QO (aZ fs) bW ?_
  |refine QQ (aZ fs) bW ?_
  |refine QI (aZ fs) bW ?_
  |refine QJ (aZ fs) ?_
  |refine QK (aZ fs) ?_
  |refine Jc (by simp) (DC (aZ fs) (by rfl)) bW ?_
  |refine D8 (DC (aZ fs) (by rfl)) bW ?_
  |refine Jc (by simp) (DE (aZ fs)) bW ?_
  |refine D8 (DE (aZ fs)) bW ?_
  |refine QW (aZ fs) bW ?_
  |refine Zh (by simp) (aZ fs) bW ?_
  |refine QS (aZ fs) ?_
  |refine QV (aZ fs) (by rfl) bW ?_
  |refine QX (aZ fs) ?_
  |refine Zg (by simp) (aZ fs) (by rfl) bW ?_)
 exact k):p:=h hf k
theorem ai {f:Prop} {g:FuncId} {xs:List X} {args:List SV} (hf:f) (he:call g args H=some (v,H')) (h:EO call os aA H' Q)
 (ha:f->fi ts xs=args:=by
  intro fs;exact aZ fs)
 (hs:ts.set d v=aA:=by
  exact bW):EO call (⟨some d,.call g xs,none⟩::os) ts H Q:=Zf (ha hf) he hs h
theorem cst {f:Prop} {x:X} {p:Bool} (hf:f) (h1:p=true->EC call lf a ts D H R) (h2:p=false->EC call lf b ts D H R)
 (hc:f->x.ev ts=.bool p:=by
  intro fs;exact aZ fs):EC call lf (.cond x a b) ts D H R:=D6 (hc hf) h1 h2
theorem ar {f:Prop} {x:X} (hf:f) (h1:EC call lf a ts D H R)
 (hc:f->x.ev ts=.bool true:=by
  intro fs;exact aZ fs):EC call lf (.cond x a b) ts D H R:=D6 (hc hf) (fun _=>h1) (fun h=>(by cases h))
theorem ah {f:Prop} {x:X} (hf:f) (h1:EC call lf b ts D H R)
 (hc:f->x.ev ts=.bool false:=by
  intro fs;exact aZ fs):EC call lf (.cond x a b) ts D H R:=D6 (hc hf) (fun h=>(by cases h)) (fun _=>h1)
theorem aO {f:Prop} {r:hJ} {P:SV->ag->Prop} (hf:f) (h:P v H)
 (hr:f->iI ts H r=some v:=by
  intro fs;exact aZ fs):qL [r] P .ret ts [] H:=gQ (Ol _ _ (hr hf)) h
theorem cD {f:Prop} {r r':hJ} {v':SV} {P:SV->ag->Prop} (hf:f) (h:P (.aJ [v,v']) H)
 (hr:f->iI ts H r=some v:=by
  intro fs;exact aZ fs)
 (oa:f->iI ts H r'=some v':=by
  intro fs;exact aZ fs):qL [r,r'] P .ret ts [] H:=gQ (ajq _ _ _ _ (hr hf) (oa hf)) h
end
end
section
def afQ:DK->Bool
 |.cg=>true
 |_=>false
theorem QN {call:cb} {ts aA:T} {H:ag} {d:Nat} {dops:List (aG×DK)} {Q:List T->List SV->List ag->T->Prop} {k:SK} {g:Option (Nat×Bool)} {dk:DK} (hk:afQ dk=false) (hg:bL ts g=false) (hs:ts.set d SV.undef=aA) (h:ED call dops aA H fun aM vs hs tn=>Q (ts::aM) (SV.undef::vs) hs tn):ED call ((⟨some d,k,g⟩,dk)::dops) ts H Q:=
 Jc (fun e=>by rw[e]at hk;cases hk) hg hs h
section
variable {call:cb} {lf:Nat} {ops os:List aG} {ts aA:T} {H H':ag} {D:DS} {d n:Nat} {v:SV} {s:cJ} {a b c:er} {Q:T->ag->Prop} {R:fa->T->DS->ag->Prop}
theorem qu {f p q:Prop} (hf:f) (k:q) (h:f->q->p:=by
 intro fs k
 repeat (first
  |refine mN ?_
  |refine A1 ?_
  |refine Ja ?_
  |refine s8 ?_
  |refine Jb ?_
  |refine D7 ?_
  |refine QG rfl ?_
  |refine ly ?_
  |refine Hw ?_
  |refine Hv ?_
  |refine Et ?_
  |refine JC ?_
  |refine wv ?_
  |refine RE rfl ?_
  |refine Wb ?_
  |refine xR ?_
  |refine D9 ?_
  |refine QY ?_
  |refine QT (aZ fs) bW ?_
  |refine QU (aZ fs) bW ?_
  |refine Ea (aZ fs) ?_
  |refine QZ (aZ fs) bW ?_
  |refine Eb (aZ fs) (by simp only[go_sem]) bW ?_
  |refine QM ?_
  |refine QO (aZ fs) bW ?_
  |refine QQ (aZ fs) bW ?_
  |refine QI (aZ fs) bW ?_
  |refine QJ (aZ fs) ?_
  |refine QK (aZ fs) ?_
  |refine QN (by rfl) (DC (aZ fs) (by rfl)) bW ?_
  |refine D8 (DC (aZ fs) (by rfl)) bW ?_
  |refine QN (by rfl) (DE (aZ fs)) bW ?_
  |refine D8 (DE (aZ fs)) bW ?_
  |refine QW (aZ fs) bW ?_
  |refine QS (aZ fs) ?_
  |refine QV (aZ fs) (by rfl) bW ?_
  |refine QX (aZ fs) ?_)
 exact k):p:=h hf k
end
end
end Go.Sh
