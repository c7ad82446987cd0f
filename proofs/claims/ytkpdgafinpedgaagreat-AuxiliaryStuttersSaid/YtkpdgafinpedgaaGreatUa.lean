/- The evaluator D: a deterministic reading of the kit's code over pure values and a store of rows. Definitions alone. -/
import Derived.Orders
import Derived.WalkKit
import Derived.Deep.MidRow
import Derived.Lib.ConvBytes
import Derived.Laws.AppendOwn
section
namespace Go.D
inductive PV where
 | bool (b:Bool)
 | int (k:IntKind) (n:Int)
 | str (s:ByteArray)
 | nilptr | nilsl | nilmap | nilfn | niliface
 | sl (exact:Bool) (n:Nat) (cells:List PV)
inductive DV where
 | undef
 | p (v:PV)
 | osl (r ver sz n:Nat) (cells:List PV)
 | rsl (r sz off n:Nat)
 | ptr (r off:Nat)
 | pptr (cells:List PV) (off:Nat)
 | map (r:Nat)
 | yld (l:Nat)
 | fn (f:FuncId) (caps:List DV)
 | agg (cells:List DV)
 | tuple (vs:List DV)
instance:Inhabited DV:=⟨.undef⟩
inductive Row where
 | arr (cells:List PV)
 | mix (cells:List DV)
 | tok (ver:Nat)
 | map (es:List (DV×DV))
 | dead
abbrev Qa:=List Row
abbrev DV.skip:DV:=.tuple []
abbrev DV.int (n:Int):DV:=.p (.int .i64 n)
abbrev DV.bool (b:Bool):DV:=.p (.bool b)
abbrev DV.str (s:ByteArray):DV:=.p (.str s)
def DV.cells:DV->List DV
 | .agg cs=>cs
 | v=>[v]
def DV.one:DV->Bool
 | .undef | .agg _ | .tuple _=>false
 | _=>true
def DV.pure?:DV->Option PV
 | .p v=>some v
 | .osl _ _ _ n cells=>some (.sl false n cells)
 | _=>none
def cst1:Value->DV
 | .bool b=>.p (.bool b)
 | .int k n=>.p (.int k n)
 | .string s=>.p (.str s)
 | .pointer none=>.p .nilptr
 | .slice none 0 0=>.p .nilsl
 | .map none=>.p .nilmap
 | .nilFunc=>.p .nilfn
 | .nilIface=>.p .niliface
 | _=>.undef
def cst:Value->DV
 | .agg cs=>.agg (cs.toList.map cst1)
 | v=>cst1 v
abbrev Qp:=List DV
def ev (a:Qp):Operand->DV
 | .tmp t=>a.getD t .undef
 | .const v=>cst v
 | .global _=>.undef
 | .func f=>.fn f []
def put (a:Qp) (d:Option Tmp) (v:DV):Qp:=
 match d with
 | some d=>a.set d v
 | none=>a
/-! ### Reading and writing -/
def Wl (σ:Qa) (n:Nat):DV->Option (List DV)
 | .ptr r off=>
  match σ[r]? with
  | some (.mix cs)=>if off+n<=cs.length then some ((cs.drop off).take n) else none
  | some (.arr cs)=>if off+n<=cs.length then some (((cs.drop off).take n).map .p) else none
  | _=>none
 | .pptr cs off=>if off+n<=cs.length then some (((cs.drop off).take n).map .p) else none
 | _=>none
def isAgg (P:Program) (t:TypeId):Option Bool:=
 match P.underlying t with
 | some (.struct _) | some (.array _ _)=>some true
 | some _=>some false
 | none=>none
def size? (P:Program) (t:TypeId):Option Nat:=(P.info? t).map (·.size)
def bytes? (P:Program) (t:TypeId):Option Nat:=(P.info? t).map (·.bytes)
def load (P:Program) (t:TypeId) (x:DV) (σ:Qa):Option DV:=
 match isAgg P t,size? P t with
 | some true,some n=>(Wl σ n x).map .agg
 | some false,some _=>match Wl σ 1 x with
  | some [v]=>some v
  | _=>none
 | _,_=>none
def QS {α:Type} (cs:List α) (off:Nat) (vs:List α):List α:=cs.take off++vs++cs.drop (off+vs.length)
def Vg:List DV->Option (List PV)
 | []=>some []
 | v::vs=>match v.pure?,Vg vs with
  | some x,some xs=>some (x::xs)
  | _,_=>none
def Zo (lo:Nat) (vs:List DV) (σ:Qa):DV->Option Qa
 | .ptr r off=>
  if lo<=r then
   match σ[r]? with
   | some (.mix cs)=>if off+vs.length<=cs.length&&vs.all DV.one then some (σ.set r (.mix (QS cs off vs))) else none
   | some (.arr cs)=>match Vg vs with
    | some ps=>if off+vs.length<=cs.length then some (σ.set r (.arr (QS cs off ps))) else none
    | none=>none
   | _=>none
  else none
 | _=>none
def store (P:Program) (lo:Nat) (t:TypeId) (x v:DV) (σ:Qa):Option Qa:=
 match size? P t with
 | some n=>if v.cells.length=n then Zo lo v.cells σ x else none
 | none=>none
def Qx (P:Program) (t:TypeId):Option (List DV):=
 match (P.info? t).bind (·.zero) with
 | some z=>some (cst z).cells
 | none=>none
/-! ### Addresses -/
def QL (x:DV) (n:Nat):Option DV:=
 match x with
 | .ptr r off=>some (.ptr r (off+n))
 | .pptr cs off=>some (.pptr cs (off+n))
 | _=>none
def fieldAddr (P:Program) (s:TypeId) (x:DV) (i:Nat):Option DV:=
 match P.underlying s with
 | some (.struct fs)=>match fs[i]? with
  | some f=>match size? P f.type with
   | some (_+1)=>QL x f.offset
   | _=>none
  | none=>none
 | _=>none
def Ul (P:Program) (t:TypeId) (cs:List DV) (off:Nat):Option DV:=
 match isAgg P t,size? P t with
 | some true,some n=>if off+n<=cs.length then some (.agg ((cs.drop off).take n)) else none
 | some false,some _=>cs[off]?
 | _,_=>none
def field (P:Program) (s:TypeId) (x:DV) (i:Nat):Option DV:=
 match P.underlying s,x with
 | some (.struct fs),.agg cs=>match fs[i]? with
  | some f=>Ul P f.type cs f.offset
  | none=>none
 | _,_=>none
def indexAddr (P:Program) (t:TypeId) (x i:DV):Option DV:=
 match P.underlying t,i with
 | some (.slice e),.p (.int _ i)=>
  match size? P e,x with
  | some sz,.p (.sl _ n cs)=>if 0<=i/\i<n then some (.pptr cs (i.toNat*sz)) else none
  | some sz,.osl _ _ _ n cs=>if 0<=i/\i<n then some (.pptr cs (i.toNat*sz)) else none
  | some sz,.rsl r sz' off n=>if 0<=i/\i<n/\sz'=sz then some (.ptr r (off+i.toNat*sz)) else none
  | _,_=>none
 | some (.array n e),.p (.int _ i)=>
  match size? P e with
  | some sz=>if 0<=i/\i<n then QL x (i.toNat*sz) else none
  | none=>none
 | _,_=>none
def index (P:Program) (t:TypeId) (x i:DV):Option DV:=
 match P.underlying t,x,i with
 | some (.array n e),.agg cs,.p (.int _ i)=>
  match size? P e with
  | some sz=>if 0<=i/\i<n then Ul P e cs (i.toNat*sz) else none
  | none=>none
 | some .string,.p (.str s),.p (.int _ i)=>
  if 0<=i then match s[i.toNat]? with
   | some b=>some (.p (.int .u8 b.toNat))
   | none=>none
  else none
 | _,_,_=>none
/-! ### Slices -/
def Wj (x:Option DV) (dflt most:Nat):Option Nat:=
 match x with
 | none=>some dflt
 | some (.p (.int _ i))=>if 0<=i/\i<=most then some i.toNat else none
 | some _=>none
def Zy (P:Program) (t:TypeId) (x:DV) (lo hi mx:Option DV):Option DV:=
 if mx.isSome&&hi.isNone then none else
 match P.underlying t with
 | some .string=>match x,mx with
  | .p (.str s),none=>
   match Wj hi s.size s.size with
   | some h=>match Wj lo 0 h with
    | some l=>some (.p (.str (s.extract l h)))
    | none=>none
   | none=>none
  | _,_=>none
 | some (.slice e)=>match size? P e with
  | none=>none
  | some sz=>match x with
   | .p .nilsl=>
    match Wj mx 0 0 with
    | some m=>match Wj hi 0 m with
     | some h=>match Wj lo 0 h with
      | some _=>some (.p .nilsl)
      | none=>none
     | none=>none
    | none=>none
   | .p (.sl ex n cs)=>
    match Wj mx n n with
    | some m=>match Wj hi n m with
     | some h=>match Wj lo 0 h with
      | some l=>some (.p (.sl (if mx.isSome then m==h else ex&&h==n) (h-l) ((cs.drop (l*sz)).take ((h-l)*sz))))
      | none=>none
     | none=>none
    | none=>none
   | .osl r ver sz' n cs=>
    if sz'≠sz then none else
    match Wj mx n n with
    | some m=>match Wj hi n m with
     | some h=>match Wj lo 0 h with
      | some l=>
       if mx.isSome then some (.p (.sl (m==h) (h-l) ((cs.drop (l*sz)).take ((h-l)*sz))))
       else if h==n&&decide (l<n) then some (.osl r ver sz (h-l) (cs.drop (l*sz)))
       else some (.p (.sl false (h-l) ((cs.drop (l*sz)).take ((h-l)*sz))))
      | none=>none
     | none=>none
    | none=>none
   | .rsl r sz' off n=>
    if mx.isSome&&sz'==sz then
     match Wj mx n n with
     | some m=>match Wj hi n m with
      | some h=>match Wj lo 0 h with
       | some _=>if m=0 then some (.p (.sl true 0 [])) else none
       | none=>none
      | none=>none
     | none=>none
    else
    if mx.isSome\/sz'≠sz then none else
    match Wj hi n n with
    | some h=>match Wj lo 0 h with
     | some l=>some (.rsl r sz (off+l*sz) (h-l))
     | none=>none
    | none=>none
   | _=>none
 | _=>none
def dups {α:Type} (z:List α):Nat->List α
 | 0=>[]
 | n+1=>z++dups z n
def newRow (mixed:Bool) (cs:List DV):Option Row:=
 if mixed then some (.mix cs) else (Vg cs).map .arr
def makeSlice (P:Program) (mixed:Bool) (t:TypeId) (l c:DV) (σ:Qa):Option (DV×Qa):=
 match P.underlying t,l,c with
 | some (.slice e),.p (.int .i64 l),.p (.int .i64 c)=>
  match size? P e,bytes? P e,Qx P e with
  | some sz,some b,some z=>
   if 0<=l/\l<=c/\c<=140737488355328/\b*c<=140737488355328/\z.length=sz then
    if l=c then (newRow mixed (dups z l.toNat)).map fun r=>(.rsl σ.length sz 0 l.toNat,σ++[r])
    else if l=0 then some (.osl σ.length 0 sz 0 [],σ++[.tok 0])
    else none
   else none
  | _,_,_=>none
 | _,_,_=>none
def DV.isUndef:DV->Bool
 | .undef=>true
 | _=>false
def fill (place:Nat->Option (Nat×Nat)) (cs:List DV):List (Nat×DV)->Option (List DV)
 | []=>some cs
 | (i,v)::rest=>
  match place i with
  | none=>none
  | some (off,sz)=>if v.isUndef=false/\v.cells.length=sz/\off+v.cells.length<=cs.length then fill place (QS cs off v.cells) rest else none
def build (P:Program) (t:TypeId) (parts:List (Nat×DV)):Option DV:=
 match P.underlying t,Qx P t with
 | some (.struct fs),some z=>match fs.toList.mapM (fun f=>(P.info? f.type).map fun i=>(f.offset,i.size)) with
  | some places=>(fill (fun i=>places[i]?) z parts).map .agg
  | none=>none
 | some (.array _ e),some z=>match size? P e with
  | some sz=>(fill (fun i=>some (i*sz,sz)) z parts).map .agg
  | none=>none
 | _,_=>none
def buildSlice (P:Program) (asRow:Option Bool) (t:TypeId) (n:Nat) (parts:List (Nat×DV)) (σ:Qa):Option (DV×Qa):=
 match P.underlying t with
 | some (.slice e)=>match size? P e,Qx P e with
  | some sz,some z=>
   if z.length=sz/\n*sz<=16777216 then
    match fill (fun i=>some (i*sz,sz)) (dups z n) parts with
    | some cs=>match asRow with
     | none=>(Vg cs).map fun ps=>(.p (.sl true n ps),σ)
     | some mixed=>(newRow mixed cs).map fun r=>(.rsl σ.length sz 0 n,σ++[r])
    | none=>none
   else none
  | _,_=>none
 | _=>none
def ZE (σ:Qa) (sz:Nat):DV->Option (Nat×List DV)
 | .p .nilsl=>some (0,[])
 | .p (.sl _ n cs)=>if cs.length=n*sz then some (n,cs.map .p) else none
 | .osl _ _ sz' n cs=>if sz'=sz/\cs.length=n*sz then some (n,cs.map .p) else none
 | .rsl r sz' off n=>if sz'=sz then (Wl σ (n*sz) (.ptr r off)).map (n,·) else none
 | .p (.str s)=>if sz=1 then some (s.size,s.data.toList.map fun b=>.p (.int .u8 b.toNat)) else none
 | _=>none
def ZQ (P:Program) (t:TypeId):Bool:=
 match P.underlying t with
 | some (.slice _) | some .string=>true
 | _=>false
def Um (σ:Qa) (mixed:Bool) (sz b m:Nat) (vs:List DV):Option (DV×Qa):=
 if m*b<=140737488355328/\m<=140737488355328/\0<b then
  if m=0 then some (.p .nilsl,σ)
  else if mixed then some (.rsl σ.length sz 0 m,σ++[.mix vs])
  else (Vg vs).map fun ps=>(.osl σ.length 0 sz m ps,σ++[.tok 0])
 else none
def UT (σ:Qa) (mixed:Bool) (sz b m:Nat) (vs:List DV) (n:Nat) (cs:List PV):Option (DV×Qa):=
 if (n+m)*b<=140737488355328/\n+m<=140737488355328/\0<b/\cs.length=n*sz then
  if m=0 then some (.p (.sl true n cs),σ)
  else if mixed then some (.rsl σ.length sz 0 (n+m),σ++[.mix (cs.map .p++vs)])
  else (Vg vs).map fun ps=>(.osl σ.length 0 sz (n+m) (cs++ps),σ++[.tok 0])
 else none
def Ux (σ:Qa) (lo sz b m:Nat) (vs:List DV) (r ver sz' n:Nat) (cs:List PV):Option (DV×Qa):=
 if (n+m)*b<=140737488355328/\n+m<=140737488355328/\0<b/\sz'=sz/\cs.length=n*sz/\lo<=r then
  match σ[r]? with
  | some (.tok v)=>if v=ver then (Vg vs).map fun ps=>(.osl r (ver+1) sz (n+m) (cs++ps),σ.set r (.tok (ver+1))) else none
  | _=>none
 else none
def appRow (σ:Qa) (lo sz b m:Nat) (vs:List DV) (r sz' off n:Nat):Option (DV×Qa):=
 if (n+m)*b<=140737488355328/\n+m<=140737488355328/\0<b/\sz'=sz/\lo<=r then
  match σ[r]? with
  | some (.mix cs)=>
   if off+(n+m)*sz<=cs.length then
    if vs.all DV.one then some (.rsl r sz off (n+m),σ.set r (.mix (QS cs (off+n*sz) vs))) else none
   else if off+n*sz=cs.length/\vs.all DV.one then some (.rsl σ.length sz 0 (n+m),σ.set r .dead++[.mix (cs.drop off++vs)])
   else none
  | some (.arr cs)=>
   match Vg vs with
   | some ps=>
    if off+(n+m)*sz<=cs.length then some (.rsl r sz off (n+m),σ.set r (.arr (QS cs (off+n*sz) ps)))
    else if off+n*sz=cs.length then some (.rsl σ.length sz 0 (n+m),σ.set r .dead++[.arr (cs.drop off++ps)])
    else none
   | none=>none
  | _=>none
 else none
def appMake (P:Program) (mixed:Bool) (t t2:TypeId) (s x:DV) (σ:Qa):Option (DV×Qa):=
 match P.underlying t2,P.underlying t,s,x with
 | some (.int _),some (.slice e),.p .nilsl,.p (.int .i64 l)=>match size? P e,bytes? P e,Qx P e with
  | some sz,some b,some z=>
   if mixed=true/\z.length=sz/\0<sz/\0<b/\0<l/\l<=140737488355328/\l.toNat*b<=140737488355328 then some (.rsl σ.length sz 0 l.toNat,σ++[.mix (dups z l.toNat)]) else none
  | _,_,_=>none
 | _,_,_,_=>none
def append (P:Program) (lo:Nat) (mixed:Bool) (t t2:TypeId) (s x:DV) (σ:Qa):Option (DV×Qa):=
 if ZQ P t2=false then appMake P mixed t t2 s x σ else
 match P.underlying t with
 | some (.slice e)=>match size? P e,bytes? P e,Qx P e with
  | some sz,some b,some z=>if z.length≠sz\/sz=0 then none else match ZE σ sz x with
   | some (m,vs)=>
    match s with
    | .p .nilsl=>Um σ mixed sz b m vs
    | .p (.sl true n cs)=>UT σ mixed sz b m vs n cs
    | .osl r ver sz' n cs=>Ux σ lo sz b m vs r ver sz' n cs
    | .rsl r sz' off n=>appRow σ lo sz b m vs r sz' off n
    | _=>none
   | none=>none
  | _,_,_=>none
 | _=>none
/-! ### Numbers -/
def binInt (op:BinOp) (k:IntKind) (a b:Int):Option PV:=
 match op with
 | .add=>some (.int k (k.wrap (a+b)))
 | .sub=>some (.int k (k.wrap (a-b)))
 | .mul=>some (.int k (k.wrap (a*b)))
 | .quo=>if b=0 then none else some (.int k (k.wrap (a.tdiv b)))
 | .rem=>if b=0 then none else some (.int k (a.tmod b))
 | .and=>some (.int k (k.wrap (BitVec.ofInt k.bits a&&& BitVec.ofInt k.bits b).toNat))
 | .or=>some (.int k (k.wrap (BitVec.ofInt k.bits a||| BitVec.ofInt k.bits b).toNat))
 | .xor=>some (.int k (k.wrap (BitVec.ofInt k.bits a ^^^ BitVec.ofInt k.bits b).toNat))
 | .andNot=>some (.int k (k.wrap (BitVec.ofInt k.bits a&&& ~~~ BitVec.ofInt k.bits b).toNat))
 | .eql=>some (.bool (a==b))
 | .neq=>some (.bool (a != b))
 | .lss=>some (.bool (a<b))
 | .leq=>some (.bool (a<=b))
 | .gtr=>some (.bool (a>b))
 | .geq=>some (.bool (a>=b))
 | _=>none
def binShift (op:BinOp) (k:IntKind) (a b:Int):Option PV:=
 if b<0 then none else
 match op with
 | .shl=>some (.int k (k.wrap (a*2 ^ (min b.toNat k.bits))))
 | .shr=>some (.int k (a.fdiv (2 ^ (min b.toNat k.bits))))
 | _=>none
def binStr (op:BinOp) (x y:ByteArray):Option PV:=
 match op with
 | .add=>if x.size+y.size<=140737488355328 then some (.str (x++y)) else none
 | .eql=>some (.bool (x.toList==y.toList))
 | .neq=>some (.bool !(x.toList==y.toList))
 | .lss=>some (.bool (Op.bytesLess x.toList y.toList))
 | .leq=>some (.bool (Op.bytesLess x.toList y.toList||x.toList==y.toList))
 | .gtr=>some (.bool !(Op.bytesLess x.toList y.toList||x.toList==y.toList))
 | .geq=>some (.bool !(Op.bytesLess x.toList y.toList))
 | _=>none
def eqScalar:PV->PV->Option Bool
 | .bool a,.bool b=>some (a==b)
 | .int k a,.int k' b=>if k=k' then some (a==b) else none
 | .str a,.str b=>some (a==b)
 | _,_=>none
def isNilSl:DV->Option Bool
 | .p .nilsl=>some true
 | .p (.sl _ _ _) | .osl _ _ _ _ _ | .rsl _ _ _ _=>some false
 | _=>none
def isNilMap:DV->Option Bool
 | .p .nilmap=>some true
 | .map _=>some false
 | _=>none
def isNilPtr:DV->Option Bool
 | .p .nilptr=>some true
 | .ptr _ _ | .pptr _ _=>some false
 | _=>none
mutual
def eqAt (P:Program):Nat->TypeId->DV->DV->Option Bool
 | 0,_,_,_=>none
 | d+1,t,x,y=>
  match P.underlying t,x,y with
  | some .bool,.p (.bool a),.p (.bool b)=>some (a==b)
  | some (.int _),.p (.int k a),.p (.int k' b)=>if k=k' then some (a==b) else none
  | some .string,.p (.str a),.p (.str b)=>some (a==b)
  | some (.struct fs),.agg xs,.agg ys=>if P.stoodInHeld t then none else eqFields P d fs.toList xs ys
  | some (.array n e),.agg xs,.agg ys=>match size? P e with
   | some sz=>eqElems P d e sz xs ys n 0
   | none=>none
  | _,_,_=>none
def eqFields (P:Program):Nat->List Field->List DV->List DV->Option Bool
 | 0,_,_,_=>none
 | _+1,[],_,_=>some true
 | d+1,f::fs,xs,ys=>
  if f.name = "_" then none else
  match Ul P f.type xs f.offset,Ul P f.type ys f.offset with
  | some x,some y=>match eqAt P d f.type x y with
   | some true=>eqFields P d fs xs ys
   | r=>r
  | _,_=>none
def eqElems (P:Program):Nat->TypeId->Nat->List DV->List DV->Nat->Nat->Option Bool
 | 0,_,_,_,_,_,_=>none
 | _+1,_,_,_,_,0,_=>some true
 | d+1,e,sz,xs,ys,n+1,i=>
  match Ul P e xs (i*sz),Ul P e ys (i*sz) with
  | some x,some y=>match eqAt P d e x y with
   | some true=>eqElems P d e sz xs ys n (i+1)
   | r=>r
  | _,_=>none
end
def eqOp (P:Program) (t:TypeId) (x y:DV):Option Bool:=
 match x,y with
 | .p (.bool a),.p (.bool b)=>match P.underlying t with
  | some .bool=>some (a==b)
  | _=>none
 | .agg a,.agg b=>if P.eqGuardType P.depth t then none else eqAt P 40 t (.agg a) (.agg b)
 | x,.p .nilsl=>match P.underlying t with
  | some (.slice _)=>isNilSl x
  | _=>none
 | x,.p .nilmap=>match P.underlying t with
  | some (.map _ _)=>isNilMap x
  | _=>none
 | x,.p .nilptr=>match P.underlying t with
  | some (.pointer _)=>isNilPtr x
  | _=>none
 | _,_=>none
def binOp (P:Program) (op:BinOp) (t:TypeId) (x y:DV):Option DV:=
 match x,y with
 | .p (.int k a),.p (.int k' b)=>
  match op with
  | .shl | .shr=>(binShift op k a b).map .p
  | op=>if k=k' then (binInt op k a b).map .p else none
 | .p (.str a),.p (.str b)=>(binStr op a b).map .p
 | x,y=>match op with
  | .eql=>(eqOp P t x y).map fun b=>.p (.bool b)
  | .neq=>(eqOp P t x y).map fun b=>.p (.bool !b)
  | _=>none
def nilConst:Operand->Bool
 | .const .nilIface=>true
 | _=>false
def ifaceNil (P:Program) (op:BinOp) (t:TypeId) (x:DV):Option DV:=
 match P.underlying t,op,x with
 | some (.interface _),.eql,.p .niliface=>some (.p (.bool true))
 | some (.interface _),.neq,.p .niliface=>some (.p (.bool false))
 | _,_,_=>none
def unOp (op:UnOp) (x:DV):Option DV:=
 match op,x with
 | .neg,.p (.int k n)=>(binInt .sub k 0 n).map .p
 | .xor,.p (.int k n)=>(binInt .xor k (if k.signed then -1 else k.max) n).map .p
 | .not,.p (.bool b)=>some (.p (.bool !b))
 | _,_=>none
def bytesPV (s:ByteArray):List PV:=s.data.toList.map fun b=>.int .u8 b.toNat
def convert (P:Program) (src dst:TypeId) (x:DV):Option DV:=
 match P.underlying src,P.underlying dst,x with
 | some (.int _),some (.int k),.p (.int _ n)=>some (.p (.int k (k.wrap n)))
 | some .string,some .string,.p (.str s)=>some (.p (.str s))
 | some .string,some (.slice e),.p (.str s)=>match P.underlying e with
  | some (.int .u8)=>some (.p (.sl false s.size (bytesPV s)))
  | _=>none
 | _,_,_=>none
def len (P:Program) (t:TypeId) (x:DV) (σ:Qa):Option DV:=
 match P.underlying t,x with
 | some .string,.p (.str s)=>some (.int s.size)
 | some (.array n _),_=>some (.int n)
 | some (.slice _),.p .nilsl=>some (.int 0)
 | some (.slice _),.p (.sl _ n _)=>some (.int n)
 | some (.slice _),.osl _ _ _ n _=>some (.int n)
 | some (.slice _),.rsl _ _ _ n=>some (.int n)
 | some (.map _ _),.p .nilmap=>some (.int 0)
 | some (.map _ _),.map r=>match σ[r]? with
  | some (.map es)=>some (.int es.length)
  | _=>none
 | _,_=>none
def capOp (P:Program) (t:TypeId) (x:DV):Option DV:=
 match P.underlying t,x with
 | some (.array n _),_=>some (.int n)
 | some (.slice _),.p .nilsl=>some (.int 0)
 | some (.slice _),.p (.sl true n _)=>some (.int n)
 | _,_=>none
def VJ (P:Program) (lo:Nat) (t:TypeId) (x:DV) (σ:Qa):Option Qa:=
 match P.underlying t,x with
 | some (.slice _),.p .nilsl=>some σ
 | some (.slice _),.p (.sl _ 0 _)=>some σ
 | some (.slice e),.rsl r sz off n=>
  if n=0 then some σ else
  match size? P e,Qx P e with
  | some sz',some z=>if sz'=sz/\z.length=sz then Zo lo (dups z n) σ (.ptr r off) else none
  | _,_=>none
 | _,_=>none
def US (P:Program) (lo:Nat) (t:TypeId) (x y:DV) (σ:Qa):Option (DV×Qa):=
 match P.underlying t,x with
 | some (.slice e),.p .nilsl=>match size? P e with
  | some sz=>(ZE σ sz y).map fun _=>(.int 0,σ)
  | none=>none
 | some (.slice e),.rsl r sz off n=>
  match size? P e with
  | some sz'=>match ZE σ sz y with
   | some (m,vs)=>
    if sz'=sz then
     if min m n*sz=0 then some (.int (min m n:Nat),σ)
     else (Zo lo (vs.take (min m n*sz)) σ (.ptr r off)).map fun σ'=>(.int (min m n:Nat),σ')
    else none
   | none=>none
  | none=>none
 | _,_=>none
def UA (isMax:Bool):List DV->Option DV
 | [.p (.int k a),.p (.int k' b)]=>if k=k' then some (.p (.int k (if isMax then (if b>a then b else a) else (if b<a then b else a)))) else none
 | _=>none
/-! ### Maps -/
mutual
def UQ (P:Program):Nat->TypeId->DV->Bool
 | 0,_,_=>false
 | d+1,t,x=>
  match P.underlying t,x with
  | some .bool,.p (.bool _) | some (.int _),.p (.int _ _) | some .string,.p (.str _)=>true
  | some (.struct fs),.agg xs=>keyFields P d fs.toList xs
  | some (.array n e),.agg xs=>match size? P e with
   | some sz=>keyElems P d e sz xs n 0
   | none=>false
  | _,_=>false
def keyFields (P:Program):Nat->List Field->List DV->Bool
 | 0,_,_=>false
 | _+1,[],_=>true
 | d+1,f::fs,xs=>
  match Ul P f.type xs f.offset with
  | some x => f.name ≠ "_" && UQ P d f.type x && keyFields P d fs xs
  | none=>false
def keyElems (P:Program):Nat->TypeId->Nat->List DV->Nat->Nat->Bool
 | 0,_,_,_,_,_=>false
 | _+1,_,_,_,0,_=>true
 | d+1,e,sz,xs,n+1,i=>
  match Ul P e xs (i*sz) with
  | some x=>UQ P d e x&&keyElems P d e sz xs n (i+1)
  | none=>false
end
def findKey (P:Program) (t:TypeId) (k:DV):List (DV×DV)->Option (Option DV)
 | []=>some none
 | (k',v)::es=>match eqAt P 40 t k k' with
  | some true=>some (some v)
  | some false=>findKey P t k es
  | none=>none
def sameScalar:DV->DV->Bool
 | .p (.bool a),.p (.bool b)=>a==b
 | .p (.int k a),.p (.int k' b)=>k==k'&&a==b
 | .p (.str a),.p (.str b)=>a==b
 | _,_=>false
def Vi:List DV->List DV->Bool
 | [],[]=>true
 | a::as,b::bs=>sameScalar a b&&Vi as bs
 | _,_=>false
def sameKey:DV->DV->Bool
 | .agg a,.agg b=>Vi a b
 | a,b=>sameScalar a b
def UL (P:Program) (t:TypeId) (k v:DV):List (DV×DV)->Option (List (DV×DV))
 | []=>some [(k,v)]
 | (k',v')::es=>match eqAt P 40 t k k' with
  | some true=>if sameKey k' k then some ((k,v)::es) else none
  | some false=>(UL P t k v es).map ((k',v')::·)
  | none=>none
def zeroVal (P:Program) (t:TypeId):Option DV:=((P.info? t).bind (·.zero)).map cst
def lookup (P:Program) (t:TypeId) (x k:DV) (commaOk:Bool) (σ:Qa):Option DV:=
 match P.underlying t with
 | some (.map kt e)=>
  if UQ P 40 kt k then
   match (match x with
    | .p .nilmap=>some none
    | .map r=>match σ[r]? with
     | some (.map es)=>findKey P kt k es
     | _=>none
    | _=>none) with
   | some (some v)=>some (if commaOk then .tuple [v,.p (.bool true)] else v)
   | some none=>match zeroVal P e with
    | some z=>some (if commaOk then .tuple [z,.p (.bool false)] else z)
    | none=>none
   | none=>none
  else none
 | _=>none
def mapUpdate (P:Program) (lo:Nat) (t:TypeId) (x k v:DV) (σ:Qa):Option Qa:=
 match P.underlying t,x with
 | some (.map kt _),.map r=>
  if lo<=r/\UQ P 40 kt k/\v.isUndef=false then
   match σ[r]? with
   | some (.map es)=>(UL P kt k v es).map fun es'=>σ.set r (.map es')
   | _=>none
  else none
 | _,_=>none
/-! ### Calls -/
mutual
def Zs:PV->PV
 | .sl _ n cs=>.sl false n (QP cs)
 | v=>v
def QP:List PV->List PV
 | []=>[]
 | v::vs=>Zs v::QP vs
end
def mapO {α β:Type} (f:α->Option β):List α->Option (List β)
 | []=>some []
 | v::vs=>match f v,mapO f vs with
  | some x,some xs=>some (x::xs)
  | _,_=>none
def Vv (n:Nat) (σ:Qa):Nat->DV->Option PV
 | 0,.p v=>some (Zs v)
 | 0,.osl _ _ _ m cs=>some (.sl false m (QP cs))
 | 0,_=>none
 | _+1,.p v=>some (Zs v)
 | _+1,.osl _ _ _ m cs=>some (.sl false m (QP cs))
 | d+1,.rsl r sz off m=>if n<=r then match σ[r]? with
  | some (.arr cs)=>if off+m*sz<=cs.length then some (.sl false m (QP ((cs.drop off).take (m*sz)))) else none
  | some (.mix cs)=>if off+m*sz<=cs.length then (mapO (Vv n σ d) ((cs.drop off).take (m*sz))).map (.sl false m ·) else none
  | _=>none
  else none
 | _+1,_=>none
def Uu (n:Nat) (σ:Qa):DV->Option DV
 | .ptr r off=>if n<=r then match σ[r]? with
  | some (.mix cs)=>(mapO (Vv n σ 3) cs).map (.pptr · off)
  | some (.arr cs)=>some (.pptr (QP cs) off)
  | _=>none
  else none
 | .pptr cs off=>some (.pptr cs off)
 | v=>(Vv n σ 4 v).map .p
def thaw (n:Nat) (σ:Qa):DV->Option DV
 | .fn f caps=>(mapO (Uu n σ) caps).map (.fn f ·)
 | v=>Uu n σ v
def Zx (n:Nat) (σ:Qa):DV->Option DV
 | .agg cs=>(mapO (thaw n σ) cs).map .agg
 | v=>thaw n σ v
def Ze (n:Nat) (σ:Qa):DV->Option DV
 | .tuple vs=>(mapO (Zx n σ) vs).map .tuple
 | v=>Zx n σ v
def Zw:DV->DV
 | .osl _ _ _ n cells=>.p (.sl false n (QP cells))
 | .p v=>.p (Zs v)
 | v=>v
def view:DV->DV
 | .agg cs=>.agg (cs.map Zw)
 | v=>Zw v
def ZT:DV->Bool
 | .p _ | .pptr _ _ | .undef=>true
 | _=>false
def Zt:DV->Bool
 | .agg cs=>cs.all ZT
 | .fn _ caps=>caps.all ZT
 | v=>ZT v
/-! ### What is chosen for a function (none of it is trusted) -/
inductive Ann where
 | nil
 | seq (a b:Ann)
 | keep (mask:List Bool) (a:Ann)
def Ann.left:Ann->Ann
 | .seq a _=>a
 | .keep _ a=>a
 | .nil=>.nil
def Ann.right:Ann->Ann
 | .seq _ b=>b
 | _=>.nil
def mask:List Bool->Qp->Qp
 | _,[]=>[]
 | [],_::a=>.undef::mask [] a
 | b::bs,v::a=>(if b then v else .undef)::mask bs a
def Ann.cut (an:Ann) (a:Qp):Qp:=
 match an with
 | .keep m _=>mask m a
 | _=>a
inductive SeqKind where
 | backward (agg:Bool) (sz:Nat)
def elemOf (agg:Bool) (sz:Nat) (cells:List PV) (i:Nat):DV:=
 if agg then .agg (((cells.drop (i*sz)).take sz).map .p) else match cells[i*sz]? with
  | some x=>.p x
  | none=>.undef
def downFrom (agg:Bool) (sz:Nat) (cells:List PV):Nat->List (List DV)
 | 0=>[]
 | n+1=>[.int n,elemOf agg sz cells n]::downFrom agg sz cells n
def seqList:SeqKind->List DV->Option (List (List DV))
 | .backward agg sz,[.pptr cs off]=>match cs[off]? with
  | some .nilsl=>some []
  | some (.sl _ n cells)=>if cells.length=n*sz/\0<sz/\n<=140737488355328/\(agg=false->sz=1) then some (downFrom agg sz cells n) else none
  | _=>none
 | _,_=>none
structure FPol where
 ann:Ann:=.nil
 seq:FuncId->Option SeqKind:=fun _=>none
 plain:List Tmp:=[]
 mixed:List Tmp:=[]
 rows:List Tmp:=[]
 pload:List Tmp:=[]
 rload:List Tmp:=[]
 sload:List Tmp:=[]
 pbuild:List Tmp:=[]
 pbox:List Tmp:=[]
 deriving Inhabited
def FPol.isPlain (pl:FPol) (d:Option Tmp):Bool:=match d with | some t=>pl.plain.contains t | none=>true
def FPol.isMixed (pl:FPol) (d:Option Tmp):Bool:=match d with | some t=>pl.mixed.contains t | none=>false
def FPol.asRow (pl:FPol) (d:Option Tmp):Option Bool:=
 match d with
 | some t=>if pl.mixed.contains t then some true else if pl.rows.contains t then some false else none
 | none=>none
def FPol.isPload (pl:FPol) (d:Option Tmp):Bool:=match d with | some t=>pl.pload.contains t | none=>false
def FPol.isRload (pl:FPol) (d:Option Tmp):Bool:=match d with | some t=>pl.rload.contains t | none=>false
def FPol.isSload (pl:FPol) (d:Option Tmp):Bool:=!pl.rload.isEmpty&&match d with | some t=>pl.sload.contains t | none=>false
def FPol.isPbuild (pl:FPol) (d:Option Tmp):Bool:=match d with | some t=>pl.pbuild.contains t&&(pl.asRow d).isNone | none=>false
def FPol.isPbox (pl:FPol) (d:Option Tmp):Bool:=match d with | some t=>pl.pbox.contains t | none=>false
def isPptr:DV->Bool
 | .pptr _ _=>true
 | _=>false
abbrev Za:=Nat->FuncId->List DV->Qa->Option (DV×Qa)
def WM (call:Za) (f:FuncId) (args:List DV) (σ:Qa):Option (DV×Qa):=
 if (args.map view).all Zt then
  match call 0 f (args.map view) [] with
  | some (v,σ')=>(Ze 0 σ' v).map (·,σ)
  | none=>none
 else
  match call σ.length f (args.map view) σ with
  | some (v,σ')=>(Ze σ.length σ' v).map (·,σ)
  | none=>none
def Js (P:Program) (pl:FPol) (d:Option Tmp) (t:TypeId) (x:DV) (σ:Qa):Option DV:=if (pl.isPload d&&!isPptr x)=true then none else load P t x σ
theorem loadP_some {P:Program} {pl:FPol} {d:Option Tmp} {t:TypeId} {x:DV} {σ:Qa} {v:DV} (h:Js P pl d t x σ=some v):load P t x σ=some v:=by
 unfold Js at h
 split at h
 ·exact absurd h (by simp)
 ·exact h
def onlyOne (b:Bool) (r:Option (DV×Qa)):Option (DV×Qa):=if b then r else none
def op (P:Program) (pl:FPol) (call:Za) (lo:Nat) (a:Qp) (o:Oper) (σ:Qa):Option (DV×Qa):=
 match o.op with
 | .move x | .assign x=>some (ev a x,σ)
 | .pick c x y=>match ev a c with
  | .p (.bool b)=>some (if b then ev a x else ev a y,σ)
  | _=>none
 | .alloc t=>(Qx P t).map fun z=>(.ptr σ.length 0,σ++[.mix z])
 | .box _ x=>if pl.isPbox o.dst=true then (Vg (ev a x).cells).map fun ps=>(.pptr ps 0,σ) else if (ev a x).cells.all DV.one then some (.ptr σ.length 0,σ++[.mix (ev a x).cells]) else none
 | .build t ps=>(build P t (ps.toList.map fun q=>(q.1,ev a q.2))).map (·,σ)
 | .buildSlice t n ps=>buildSlice P (pl.asRow o.dst) t n (ps.toList.map fun q=>(q.1,ev a q.2)) σ
 | .load t x=>(Js P pl o.dst t (ev a x) σ).map (·,σ)
 | .store t x y=>(store P lo t (ev a x) (ev a y) σ).map (.undef,·)
 | .nilCheck x=>match ev a x with
  | .ptr r off=>some (.ptr r off,σ)
  | .pptr cs off=>some (.pptr cs off,σ)
  | _=>none
 | .binOp op t x y _=>if nilConst y=true then (ifaceNil P op t (ev a x)).map (·,σ) else (binOp P op t (ev a x) (ev a y)).map (·,σ)
 | .unOp op _ x=>(unOp op (ev a x)).map (·,σ)
 | .convert s d x=>(convert P s d (ev a x)).map (·,σ)
 | .makeFunc (.func f) first caps=>if first.size=0 then some (.fn f (caps.toList.map (ev a)),σ) else none
 | .makeMap _ none=>some (.map σ.length,σ++[.map []])
 | .makeSlice t l c=>makeSlice P (pl.isMixed o.dst) t (ev a l) (ev a c) σ
 | .slice t x l h m=>(Zy P t (ev a x) (l.map (ev a)) (h.map (ev a)) (m.map (ev a))).map (·,σ)
 | .fieldAddr t x i=>(fieldAddr P t (ev a x) i).map (·,σ)
 | .field t x i=>(field P t (ev a x) i).map (·,σ)
 | .indexAddr t x i=>(indexAddr P t (ev a x) (ev a i)).map (·,σ)
 | .index t x i=>(index P t (ev a x) (ev a i)).map (·,σ)
 | .lookup t x i ok=>(lookup P t (ev a x) (ev a i) ok σ).map (·,σ)
 | .mapUpdate t m k v=>(mapUpdate P lo t (ev a m) (ev a k) (ev a v) σ).map (.undef,·)
 | .extract x i=>match ev a x with
  | .tuple vs=>(vs[i]?).map (·,σ)
  | _=>none
 | .call c=>
  match c.callee with
  | .builtin .len=>if c.args.size=1/\c.argTypes.size=1 then (len P (c.argTypes.getD 0 0) (ev a (c.args.getD 0 (.const undef))) σ).map (·,σ) else none
  | .builtin .append=>if c.args.size=2/\c.argTypes.size=2 then append P lo (pl.isMixed o.dst) (c.argTypes.getD 0 0) (c.argTypes.getD 1 0) (ev a (c.args.getD 0 (.const undef))) (ev a (c.args.getD 1 (.const undef))) σ else none
  | .builtin .max=>(UA true (c.args.toList.map (ev a))).map (·,σ)
  | .builtin .min=>(UA false (c.args.toList.map (ev a))).map (·,σ)
  | .builtin .cap=>if c.args.size=1/\c.argTypes.size=1 then (capOp P (c.argTypes.getD 0 0) (ev a (c.args.getD 0 (.const undef)))).map (·,σ) else none
  | .builtin .clear=>if c.args.size=1/\c.argTypes.size=1 then (VJ P lo (c.argTypes.getD 0 0) (ev a (c.args.getD 0 (.const undef))) σ).map (.undef,·) else none
  | .builtin .copy=>if c.args.size=2/\c.argTypes.size=2 then US P lo (c.argTypes.getD 0 0) (ev a (c.args.getD 0 (.const undef))) (ev a (c.args.getD 1 (.const undef))) σ else none
  | .builtin _=>none
  | .value g=>match ev a g with
   | .fn f caps=>if pl.isPlain o.dst then call lo f (c.args.toList.map (ev a)++caps) σ else WM call f (c.args.toList.map (ev a)++caps) σ
   | _=>none
  | .invoke _ _=>none
 | _=>none
/-! ### Regions -/
def ZA (ops:Array Oper) (a:Qp) (o:Oper):Option Bool:=
 match o.guard with
 | none=>some true
 | some (j,want)=>match (ops[j]?).bind (·.dst) with
  | some t=>match a.getD t .undef with
   | .p (.bool b)=>some (b==want)
   | .tuple []=>some false
   | _=>none
  | none=>none
def VM (pl:FPol) (o:Oper):Bool:=
 match o.op with
 | .load ..=>pl.isPload o.dst||pl.isRload o.dst||pl.isSload o.dst
 | .buildSlice ..=>pl.isPbuild o.dst
 | .box ..=>pl.isPbox o.dst
 | .move _ | .assign _ | .pick .. | .build .. | .nilCheck _ | .binOp .. | .unOp .. | .convert .. | .makeFunc .. | .slice .. | .fieldAddr .. | .field .. | .indexAddr .. | .index .. | .extract ..=>true
 | _=>false
def Zv (b:Array Nat) (i j:Nat):Bool:=(b.getD (max i j) 0).testBit (min i j)
def Vn (pl:FPol) (ops:Array Oper):List Bool:=
 let b:=Region.before ops
 let ps:=(ops.toList.map (VM pl)).zipIdx
 ps.map fun (p,i)=>!p&&ps.all fun (q,j)=>q||i==j||Zv b i j
def drawOk (ops:Array Oper):Bool:=
 let b:=Region.before ops
 let os:=ops.toList.zipIdx
 let ws:List (Tmp×Nat):=os.filterMap fun (o,i)=>o.dst.map (·,i)
 os.all fun (o,j)=>
  (o.after.all fun e=>!Region.binds .any e||decide (e.on<j))&&
  (o.dst.toList++o.looksAt ops).all fun t=>ws.all fun (d,i)=>d != t||i==j||Zv b i j
def Wg:Code->Bool
 | .region _ ops draw=>!draw||drawOk ops
 | .seq x y | .cond _ x y=>Wg x&&Wg y
 | .block _ x | .loop x=>Wg x
 | .rangeFunc _ _ x y=>Wg x&&Wg y
 | _=>true
def opsD (P:Program) (pl:FPol) (call:Za) (all:Array Oper) (lows:Bool->Qa->Nat):List Oper->List Bool->Qp->Qa->Option (Qp×Qa)
 | [],_,a,σ=>some (a,σ)
 | o::os,cs,a,σ=>
  match ZA all a o with
  | some true=>match op P pl call (lows (cs.headD true) σ) a o σ with
   | some (v,σ')=>opsD P pl call all lows os cs.tail (put a o.dst v) σ'
   | none=>none
  | some false=>opsD P pl call all lows os cs.tail (put a o.dst .skip) σ
  | none=>none
def ZI (P:Program) (pl:FPol) (call:Za) (all:Array Oper) (lows:Bool->Qa->Nat):List Oper->List Bool->Qp->Qa->List (Qp×Qa)
 | [],_,a,σ=>[(a,σ)]
 | o::os,cs,a,σ=>(a,σ)::
  match ZA all a o with
  | some true=>match op P pl call (lows (cs.headD true) σ) a o σ with
   | some (v,σ')=>ZI P pl call all lows os cs.tail (put a o.dst v) σ'
   | none=>[]
  | some false=>ZI P pl call all lows os cs.tail (put a o.dst .skip) σ
  | none=>[]
def sameInt:Option DV->Option DV->Bool
 | some (.p (.int k n)),some (.p (.int k' m))=>k==k'&&n==m
 | _,_=>false
def stableAt (P:Program) (pl:FPol) (tr:List (Qp×Qa)) (o:Oper) (a:Qp) (σ:Qa):Bool:=
 !pl.isRload o.dst||match o.op with
  | .load t x=>tr.all fun q=>sameInt (load P t (ev a x) σ) (load P t (ev a x) q.2)
  | _=>true
def eqCs:List PV->List PV->Bool
 | [],[]=>true
 | .int k n::l,.int k' m::l'=>k==k'&&n==m&&eqCs l l'
 | _,_=>false
def Jn:Option DV->Option DV->Bool
 | some (.p (.int k n)),some (.p (.int k' m))=>k==k'&&n==m
 | some (.p .nilsl),some (.p .nilsl)=>true
 | some (.p (.bool a)),some (.p (.bool b))=>a==b
 | some (.osl r v s n cs),some (.osl r' v' s' n' cs')=>r==r'&&v==v'&&s==s'&&n==n'&&eqCs cs cs'
 | _,_=>false
def blockedB (b:Array Nat) (cs:List Bool) (j κ:Nat):Bool:=(List.range κ).any fun i=>decide (j<i)&&cs.getD i true&&Zv b i j
def stableAt2 (P:Program) (pl:FPol) (b:Array Nat) (cs:List Bool) (tr:List (Qp×Qa)) (j:Nat) (o:Oper) (a:Qp) (σ:Qa):Bool:=
 !pl.isSload o.dst||match o.op with
  | .load t x=>tr.zipIdx.all fun q=>blockedB b cs j q.2||Jn (load P t (ev a x) σ) (load P t (ev a x) q.1.2)
  | _=>true
def VR (P:Program) (pl:FPol) (os:List Oper) (tr:List (Qp×Qa)):Bool:=
 ((os.zip tr).all fun q=>stableAt P pl tr q.1 q.2.1 q.2.2)&&
  (pl.sload.isEmpty||(os.zip tr).zipIdx.all fun q=>stableAt2 P pl (Region.before os.toArray) (Vn pl os.toArray) tr q.2 q.1.1 q.1.2.1 q.1.2.2)
def VH (lo:Nat) (c:Bool) (σ:Qa):Nat:=if c then lo else σ.length
def region (P:Program) (pl:FPol) (call:Za) (lo:Nat) (ops:Array Oper) (draw:Bool) (a:Qp) (σ:Qa):Option (Qp×Qa):=
 if draw then (if pl.rload.isEmpty||VR P pl ops.toList (ZI P pl call ops (VH lo) ops.toList (Vn pl ops) a σ) then opsD P pl call ops (VH lo) ops.toList (Vn pl ops) a σ else none) else opsD P pl call ops (fun _ _=>lo) ops.toList [] a σ
/-! ### Code -/
inductive Ex where
 | normal | exit (id:Nat) | ret
abbrev St:=Ex×Qp×Qa
def iter (body:Qp->Qa->Option St):Nat->Qp->Qa->Option St
 | 0,_,_=>none
 | k+1,a,σ=>match body a σ with
  | some (.normal,a',σ')=>iter body k a' σ'
  | r=>r
def Wx:Code->Bool
 | .rangeFunc ..=>true
 | .seq x y | .cond _ x y=>Wx x||Wx y
 | .block _ x | .loop x=>Wx x
 | _=>false
def Uv:List Tmp->List DV->Qp->Qp
 | t::ts,x::xs,a=>Uv ts xs (a.set t x)
 | _,_,a=>a
def ZR (run:List DV->Qa->Option (Ex×Qa)):List (List DV)->Qa->Option (Ex×Qa)
 | [],σ=>some (.normal,σ)
 | xs::rest,σ=>match run xs σ with
  | some (.normal,σ')=>ZR run rest σ'
  | r=>r
def ZV (cx cy:Qp->Qa->Option St) (ps:List Tmp) (a:Qp) (xs:List DV) (σ:Qa):Option (Ex×Qa):=
 match cx (Uv ps xs a) σ with
 | some (.normal,a1,σ1)=>match cy a1 σ1 with
  | some (ex,_,σ2)=>some (ex,σ2)
  | none=>none
 | _=>none
def code (P:Program) (pl:FPol) (call:Za) (fuel lo:Nat):Code->Ann->Qp->Qa->Option St
 | .skip,_,a,σ=>some (.normal,a,σ)
 | .region _ ops draw,_,a,σ=>(region P pl call lo ops draw a σ).map fun (a,σ)=>(.normal,a,σ)
 | .seq x y,an,a,σ=>match code P pl call fuel lo x an.left a σ with
  | some (.normal,a',σ')=>code P pl call fuel lo y an.right a' σ'
  | r=>r
 | .cond c x y,an,a,σ=>match ev a c with
  | .p (.bool true)=>code P pl call fuel lo x an.left a σ
  | .p (.bool false)=>code P pl call fuel lo y an.right a σ
  | _=>none
 | .block id x,an,a,σ=>match code P pl call fuel lo x an.left a σ with
  | some (.normal,a',σ')=>some (.normal,an.cut a',σ')
  | some (.exit i,a',σ')=>if i=id then some (.normal,an.cut a',σ') else some (.exit i,a',σ')
  | some (.ret,a',σ')=>some (.ret,a',σ')
  | none=>none
 | .loop x,an,a,σ=>iter (fun a σ=>code P pl call fuel lo x an.left (an.cut a) σ) fuel a σ
 | .exit id,_,a,σ=>some (.exit id,a,σ)
 | .ret,_,a,σ=>some (.ret,a,σ)
 | .rangeFunc g ps x y,an,a,σ=>match ev a g with
  | .fn f caps=>match (pl.seq f).bind fun kind=>seqList kind caps with
   | some xss=>
    if xss.all (·.length==ps.size)&&!Wx x&&!Wx y then
     (ZR (ZV (fun a σ=>code P pl call fuel lo x .nil a σ) (fun a σ=>code P pl call fuel lo y an.left a σ) ps.toList a) xss σ).map fun (ex,σ')=>(ex,a,σ')
    else none
   | none=>none
  | _=>none
 | _,_,_,_=>none
def resultOf (P:Program) (a:Qp) (σ:Qa):ResultVar->Option DV
 | .tmp t=>some (a.getD t .undef)
 | .cell x t=>match a.getD x .undef with
  | .ptr r off=>load P t (.ptr r off) σ
  | _=>none
def ZF (P:Program) (a:Qp) (σ:Qa):List ResultVar->Option (List DV)
 | []=>some []
 | r::rs=>match resultOf P a σ r,ZF P a σ rs with
  | some v,some vs=>some (v::vs)
  | _,_=>none
def wrap:List DV->DV
 | [v]=>v
 | vs=>.tuple vs
def callK (P:Program) (pol:FuncId->FPol):Nat->Za
 | 0,_,_,_,_=>none
 | k+1,lo,f,args,σ=>
  match P.funcs[f]? with
  | some fn => match fn.name == "runtime.NumGoroutine", fn.body with
   | false,some c=>
    if Wg c=false then none else
    match code P (pol f) (callK P pol k) k lo c (pol f).ann (args++List.replicate (fn.ntmps-args.length) .undef) σ with
    | some (.normal,a,σ') | some (.ret,a,σ')=>(ZF P a σ' fn.results.toList).map fun vs=>(wrap vs,σ')
    | _=>none
   | _,_=>none
  | none=>none
end Go.D
end
/- What D's values and rows mean in the kit's memory. -/
section
namespace Go.D
structure Loc where
 b:Nat
 o:Nat
 n:Nat
 s:Nat
abbrev Locs:=Nat->Nat->Option Loc
abbrev Mem:=Nat->Nat->Option Value
inductive PRel (M:Mem):PV->Value->Prop where
 | bool (b:Bool):PRel M (.bool b) (.bool b)
 | int (k:IntKind) (n:Int):PRel M (.int k n) (.int k n)
 | str (s:ByteArray):PRel M (.str s) (.string s)
 | nilptr:PRel M .nilptr (.pointer none)
 | nilsl:PRel M .nilsl (.slice none 0 0)
 | nilmap:PRel M .nilmap (.map none)
 | nilfn:PRel M .nilfn .nilFunc
 | niliface:PRel M .niliface .nilIface
 | sl {ex:Bool} {n:Nat} {cs:List PV} {a:Addr} {cap:Nat} (vs:Nat->Value) (hs:cap≠0->a.spot=none) (hc:n<=cap) (he:ex=true->cap=n)
   (hm:∀ j,j<cs.length->M a.block (a.off+j)=some (vs j)) (hv:∀ j (h:j<cs.length),PRel M cs[j] (vs j)) :
   PRel M (.sl ex n cs) (.slice (some a) n cap)
inductive VRel (L:Locs) (M:Mem):DV->Value->Prop where
 | undef (v:Value):VRel L M .undef v
 | p {x:PV} {v:Value} (h:PRel M x v):VRel L M (.p x) v
 | osl {r ver sz n:Nat} {cs:List PV} {a:Addr} {cap:Nat} {l:Loc} (vs:Nat->Value) (hl:L r ver=some l) (hs:a.spot=none) (hc:n<=cap)
   (hb:a.block=l.b) (ho:a.off+n*sz=l.o) (hn:l.n=0) (hsp:l.s=(cap-n)*sz) (hlen:cs.length=n*sz)
   (hm:∀ j,j<cs.length->M a.block (a.off+j)=some (vs j)) (hv:∀ j (h:j<cs.length),PRel M cs[j] (vs j)) :
   VRel L M (.osl r ver sz n cs) (.slice (some a) n cap)
 | rsl {r sz off n:Nat} {a:Addr} {cap:Nat} {l:Loc} (hl:L r 0=some l) (hc:n<=cap) (hs:a.spot=none)
   (h:(cap=0/\l.n<=off)\/(a.block=l.b/\a.off=l.o+off/\l.n<=off+cap*sz/\off+cap*sz<=l.n+l.s)) :
   VRel L M (.rsl r sz off n) (.slice (some a) n cap)
 | ptr {r off:Nat} {l:Loc} (hl:L r 0=some l):VRel L M (.ptr r off) (.pointer (some ⟨l.b,l.o+off,none⟩))
 | pptr {cs:List PV} {off:Nat} {b o:Nat} (vs:Nat->Value) (hm:∀ j,j<cs.length->M b (o+j)=some (vs j))
   (hv:∀ j (h:j<cs.length),PRel M cs[j] (vs j)):VRel L M (.pptr cs off) (.pointer (some ⟨b,o+off,none⟩))
 | map {r:Nat} {l:Loc} (hl:L r 0=some l):VRel L M (.map r) (.map (some l.b))
 | yld (l:Nat):VRel L M (.yld l) (.func (.yield l) #[] #[])
 | fn {f:FuncId} {caps:List DV} {vs:Array Value} (hn:vs.size=caps.length) (h:∀ j (h1:j<caps.length) (h2:j<vs.size),VRel L M caps[j] vs[j]) :
   VRel L M (.fn f caps) (.func (.func f) #[] vs)
 | agg {cs:List DV} {vs:Array Value} (hn:vs.size=cs.length) (h:∀ j (h1:j<cs.length) (h2:j<vs.size),VRel L M cs[j] vs[j]) :
   VRel L M (.agg cs) (.agg vs)
 | tuple {cs:List DV} {vs:Array Value} (hn:vs.size=cs.length) (h:∀ j (h1:j<cs.length) (h2:j<vs.size),VRel L M cs[j] vs[j]) :
   VRel L M (.tuple cs) (.tuple vs)
theorem VRel.skip {L:Locs} {M:Mem}:VRel L M DV.skip Go.undef:=VRel.tuple (cs:=[]) (vs:=#[]) rfl fun j h=>absurd h (by simp)
def Mem.le (M M':Mem):Prop:=∀ b o v,M b o=some v->M' b o=some v
def Locs.le (L L':Locs):Prop:=∀ r k l,L r k=some l->L' r k=some l
theorem Mem.le_refl (M:Mem):M.le M:=fun _ _ _ h=>h
theorem Locs.le_refl (L:Locs):L.le L:=fun _ _ _ h=>h
theorem Mem.le_trans {M M' M'':Mem} (h:M.le M') (h':M'.le M''):M.le M'':=fun _ _ _ x=>h' _ _ _ (h _ _ _ x)
theorem Locs.le_trans {L L' L'':Locs} (h:L.le L') (h':L'.le L''):L.le L'':=fun _ _ _ x=>h' _ _ _ (h _ _ _ x)
theorem PRel.mono {M M':Mem} {x:PV} {v:Value} (h:PRel M x v) (hM:M.le M'):PRel M' x v:=by
 induction h with
 | sl vs hs hc he hm _ ih=>exact .sl vs hs hc he (fun j hj=>hM _ _ _ (hm j hj)) ih
 | _=>constructor
theorem VRel.mono {L L':Locs} {M M':Mem} {x:DV} {v:Value} (h:VRel L M x v) (hL:L.le L') (hM:M.le M'):VRel L' M' x v:=by
 induction h with
 | undef v=>exact .undef v
 | p h=>exact .p (h.mono hM)
 | osl vs hl hs hc hb ho hn hsp hlen hm hv=>exact .osl vs (hL _ _ _ hl) hs hc hb ho hn hsp hlen (fun j hj=>hM _ _ _ (hm j hj)) (fun j hj=>(hv j hj).mono hM)
 | rsl hl hc hs h=>exact .rsl (hL _ _ _ hl) hc hs h
 | ptr hl=>exact .ptr (hL _ _ _ hl)
 | pptr vs hm hv=>exact .pptr vs (fun j hj=>hM _ _ _ (hm j hj)) (fun j hj=>(hv j hj).mono hM)
 | map hl=>exact .map (hL _ _ _ hl)
 | yld l=>exact .yld l
 | fn hn _ ih=>exact .fn hn ih
 | agg hn _ ih=>exact .agg hn ih
 | tuple hn _ ih=>exact .tuple hn ih
def Row.ver:Row->Nat
 | .tok v=>v
 | _=>0
def Row.owns:Row->Bool
 | .arr _ | .mix _ | .tok _=>true
 | _=>false
def Cells (L:Locs) (M:Mem) (w:World) (b o:Nat) (cs:List DV):Prop:=
 ∀ j (h:j<cs.length),∃ v,w.cell? ⟨b,o+j,none⟩=some v/\VRel L M cs[j] v
def RowRel (L:Locs) (M:Mem) (w:World) (l:Loc):Row->Prop
 | .arr cs=>cs.length=l.n/\Cells L M w l.b l.o (cs.map .p)
 | .mix cs=>cs.length=l.n/\Cells L M w l.b l.o cs
 | .tok _=>l.n=0
 | .map es=>∃ (vs:Array MapEntry) (clock:Nat),w.heap[l.b]?=some (.map vs clock)/\vs.size=es.length/\
   ∀ j (h1:j<es.length) (h2:j<vs.size),VRel L M es[j].1 vs[j].key/\VRel L M es[j].2 vs[j].val
 | .dead=>True
def Loc.has (l:Loc) (b o:Nat):Prop:=l.b=b/\l.o<=o/\o<l.o+l.n+l.s
def At (σ:Qa) (L:Locs) (r:Nat) (row:Row) (l:Loc):Prop:=σ[r]?=some row/\L r row.ver=some l
structure SRel (σ:Qa) (L:Locs) (M:Mem) (w:World):Prop where
 fresh:∀ r k,σ.length<=r->L r k=none
 ver:∀ r v k,σ[r]?=some (.tok v)->v<k->L r k=none
 mem:∀ b o v,M b o=some v->w.cell? ⟨b,o,none⟩=some v
 row:∀ r row l,At σ L r row l->RowRel L M w l row
 own:∀ r row l,At σ L r row l->row.owns=true->∀ o,l.has l.b o->(∃ v,w.cell? ⟨l.b,o,none⟩=some v)/\w.frozen? ⟨l.b,o,none⟩=false
 disj:∀ r row l r' row' l',At σ L r row l->At σ L r' row' l'->row.owns=true->row'.owns=true->r≠r'->∀ b o,l.has b o->¬ l'.has b o
 maps:∀ r es l r' es' l',At σ L r (.map es) l->At σ L r' (.map es') l'->r≠r'->l.b≠l'.b
 away:∀ r row l,At σ L r row l->row.owns=true->∀ b o,l.has b o->M b o=none
def Wr (lo:Nat) (σ:Qa) (L:Locs) (b o:Nat):Prop:=∃ r row l,lo<=r/\At σ L r row l/\row.owns=true/\l.has b o
def Wm (lo:Nat) (σ:Qa) (L:Locs) (b:Nat):Prop:=∃ r es l,lo<=r/\At σ L r (.map es) l/\l.b=b
def ObjKept (C:Nat->Prop) (m:Prop):Option Obj->Option Obj->Prop
 | some (.cells c e f),some (.cells c' e' f')=>e=e'/\f=f'/\c.size=c'.size/\∀ o,¬ C o->c'[o]?=c[o]?
 | some (.map es k),some (.map es' k')=>m\/(es=es'/\k=k')
 | x,y=>x=y
structure Frm (C:Nat->Nat->Prop) (m:Nat->Prop) (w w':World):Prop where
 size:w.heap.size<=w'.heap.size
 os:w'.os=w.os
 tape:w'.tape=w.tape
 output:w'.output=w.output
 obj:∀ b,b<w.heap.size->ObjKept (C b) (m b) w.heap[b]? w'.heap[b]?
structure Post (lo:Nat) (σ:Qa) (L:Locs) (M:Mem) (w:World) (σ':Qa) (L':Locs) (M':Mem) (w':World):Prop where
 srel:SRel σ' L' M' w'
 lle:L.le L'
 mle:M.le M'
 len:σ.length<=σ'.length
 low:∀ r,r<lo->r<σ.length->σ'[r]?=σ[r]?
 llow:∀ r k,r<lo->r<σ.length->L' r k=L r k
 frm:Frm (Wr lo σ L) (Wm lo σ L) w w'
 mnew:∀ b o v,M' b o=some v->M b o=some v\/w.heap.size<=b\/Wr lo σ L b o
 wr:∀ b o,Wr lo σ' L' b o->Wr lo σ L b o\/w.heap.size<=b
 wm:∀ b,Wm lo σ' L' b->Wm lo σ L b\/w.heap.size<=b
end Go.D
end
/- Operations that touch temporaries alone: what D answers, the kit's operation answers. -/
section
set_option linter.unusedVariables false
set_option linter.unusedSimpArgs false
namespace Go.D
variable {P : Program} {L : Locs} {M : Mem} {t : TypeId}
theorem cst1_rel (v:Value):VRel L M (cst1 v) v:=by
 unfold cst1
 split <;> first | exact .undef _ | (refine .p ?_; constructor)
theorem cst_rel (v:Value):VRel L M (cst v) v:=by
 unfold cst
 split
 ·rename_i cs
  refine .agg (by simp) fun j h1 h2=>?_
  simp only [List.getElem_map,Array.getElem_toList]
  exact cst1_rel _
 ·exact cst1_rel _
structure ARel (L:Locs) (M:Mem) (a:Qp) (act:Act):Prop where
 size:act.tmps.size=a.length
 get:∀ t,VRel L M (a.getD t .undef) (act.tmps.getD t undef)
theorem ARel.mono {L':Locs} {M':Mem} {a:Qp} {act:Act} (h:ARel L M a act) (hL:L.le L') (hM:M.le M'):ARel L' M' a act:=
 ⟨h.size,fun t=>(h.get t).mono hL hM⟩
theorem ARel.put {a:Qp} {act:Act} (h:ARel L M a act) (d:Option Tmp) {v:DV} {v':Value} (hv:VRel L M v v'):ARel L M (put a d v) (act.put d v'):=by
 cases d with
 | none=>exact h
 | some d=>
  refine ⟨by simp [Act.put,D.put,h.size],fun t=>?_⟩
  have hs:=h.size
  have hg:=h.get t
  simp only [Act.put,D.put,Array.getD_eq_getD_getElem?,List.getD_eq_getElem?_getD,Array.getElem?_setIfInBounds,List.getElem?_set,hs] at hg ⊢
  by_cases hdt:d=t
  ·subst hdt
   by_cases hlt:d<a.length
   ·simpa [hlt] using hv
   ·simp only [hlt,if_true,if_false] ; simp only [Option.getD_none]; exact .undef _
  ·simpa [hdt] using hg
theorem ARel.ev {a:Qp} {act:Act} (h:ARel L M a act) (x:Operand):VRel L M (ev a x) (act.eval x):=by
 cases x with
 | tmp t=>exact h.get t
 | const v=>exact cst_rel v
 | global g=>exact .undef _
 | func f=>exact .fn rfl (fun j h1 _=>absurd h1 (by simp))
theorem VRel.cells {v:DV} {v':Value} (h:VRel L M v v') (hu:v≠.undef):v'.cells.size=v.cells.length/\∀ j (h1:j<v.cells.length) (h2:j<v'.cells.size),VRel L M v.cells[j] v'.cells[j]:=by
 have one:∀ {v:DV} {v':Value},VRel L M v v'->v.cells=[v]->v'.cells = #[v']->v'.cells.size=v.cells.length/\∀ j (h1:j<v.cells.length) (h2:j<v'.cells.size),VRel L M v.cells[j] v'.cells[j]:=by
  intro v v' h e e'
  refine ⟨by rw [e,e']; rfl,?_⟩
  rw [e,e']
  intro j h1 _
  have:j=0:=by simp at h1; omega
  subst this
  exact h
 cases h with
 | undef v=>exact absurd rfl hu
 | p h=>
  have h0:=h
  cases h <;> exact one (.p h0) rfl rfl
 | osl vs hl hs hc hb ho hn hsp hlen hm hv=>exact one (.osl vs hl hs hc hb ho hn hsp hlen hm hv) rfl rfl
 | rsl hl hc hs h=>exact one (.rsl hl hc hs h) rfl rfl
 | ptr hl=>exact one (.ptr hl) rfl rfl
 | pptr vs hm hv=>exact one (.pptr vs hm hv) rfl rfl
 | map hl=>exact one (.map hl) rfl rfl
 | yld l=>exact one (.yld l) rfl rfl
 | fn hn h=>exact one (.fn hn h) rfl rfl
 | tuple hn h=>exact one (.tuple hn h) rfl rfl
 | agg hn h=>exact ⟨hn,h⟩
theorem VRel.one {v:DV} {v':Value} (h:VRel L M v v') (h1:v.one=true):v'.oneCell'=true:=by
 cases h with
 | undef v=>simp [DV.one] at h1
 | p h=>cases h <;> rfl
 | agg hn h=>simp [DV.one] at h1
 | tuple hn h=>simp [DV.one] at h1
 | pptr vs hm hv=>rfl
 | _=>rfl
theorem VRel.pure {v:DV} {v':Value} (h:VRel L M v v') {x:PV} (hx:v.pure?=some x):PRel M x v':=by
 cases h with
 | p h=>simp [DV.pure?] at hx; subst hx; exact h
 | osl vs hl hs hc hb ho hn hsp hlen hm hv=>simp [DV.pure?] at hx; subst hx; exact .sl vs (fun _=>hs) hc (by simp) hm hv
 | _=>simp [DV.pure?] at hx
theorem PRel.oneCell {x:PV} {v:Value} (h:PRel M x v):v.oneCell'=true:=by cases h <;> rfl
theorem run_binInt {op:BinOp} {k:IntKind} {a b:Int} {r:PV} (h:binInt op k a b=some r) (w:World) :
  ∃ v,(Go.binOp op t (.int k a) (.int k b)).run P w=.ok v w/\PRel M r v:=by
 cases op <;> simp only [binInt,reduceCtorEq,Option.some.injEq] at h
 case quo=>
  split at h
  ·exact absurd h (by simp)
  ·rename_i hb
   injection h with h; subst h
   simp only [Go.binOp,Op.intDiv,ne_eq,not_true_eq_false,if_false,hb]
   exact ⟨_,rfl,by constructor⟩
 case rem=>
  split at h
  ·exact absurd h (by simp)
  ·rename_i hb
   injection h with h; subst h
   simp only [Go.binOp,Op.intDiv,ne_eq,not_true_eq_false,if_false,hb]
   exact ⟨_,rfl,by constructor⟩
 all_goals subst h
 all_goals simp only [Go.binOp,Op.intArith,Op.intBits,Op.intCmp,ne_eq,not_true_eq_false,if_false]
 all_goals exact ⟨_,rfl,by constructor⟩
theorem run_binShift {op:BinOp} {k yk:IntKind} {a b:Int} {r:PV} (h:binShift op k a b=some r) (w:World) :
  ∃ v,(Go.binOp op t (.int k a) (.int yk b)).run P w=.ok v w/\PRel M r v:=by
 unfold binShift at h
 split at h
 ·exact absurd h (by simp)
 ·rename_i hb
  cases op <;> simp at h
  all_goals subst h
  all_goals simp only [Go.binOp,Op.shift,hb,if_false]
  all_goals exact ⟨_,rfl,by constructor⟩
theorem run_binStr {op:BinOp} {a b:ByteArray} {r:PV} (h:binStr op a b=some r) (w:World) :
  ∃ v,(Go.binOp op t (.string a) (.string b)).run P w=.ok v w/\PRel M r v:=by
 cases op <;> simp only [binStr,reduceCtorEq,Option.some.injEq] at h
 case add=>
  split at h
  ·rename_i hb
   injection h with h; subst h
   simp only [Go.binOp,Op.stringOp]
   have:¬ (((a.size+b.size:Nat):Int)>IntKind.i64.max):=by
    have:IntKind.i64.max=9223372036854775807:=rfl
    omega
   simp only [this,if_false]
   exact ⟨_,rfl,by constructor⟩
  ·exact absurd h (by simp)
 all_goals subst h
 all_goals simp only [Go.binOp,Op.stringOp]
 all_goals exact ⟨_,rfl,by constructor⟩
def Same (P:Program) (s:Sem Value) (w:World) (R:Value->Prop):Prop:=∃ v,s.run P w=.ok v w/\R v
theorem Wd {k:IntKind} {n:Int} {v:Value} (h:VRel L M (.p (.int k n)) v):v=.int k n:=by
 cases h with | p h=>cases h; rfl
theorem WB {b:Bool} {v:Value} (h:VRel L M (.p (.bool b)) v):v=.bool b:=by
 cases h with | p h=>cases h; rfl
theorem Vc {s:ByteArray} {v:Value} (h:VRel L M (.p (.str s)) v):v=.string s:=by
 cases h with | p h=>cases h; rfl
theorem Wv {v:Value} (h:VRel L M (.p .nilsl) v):v=.slice none 0 0:=by
 cases h with | p h=>cases h; rfl
theorem nilmap_of {v:Value} (h:VRel L M (.p .nilmap) v):v=.map none:=by
 cases h with | p h=>cases h; rfl
theorem nilptr_of {v:Value} (h:VRel L M (.p .nilptr) v):v=.pointer none:=by
 cases h with | p h=>cases h; rfl
theorem same_unOp {op:UnOp} {x r:DV} {x':Value} (h:unOp op x=some r) (hx:VRel L M x x') (w:World):Same P (Op.unary op x') w (VRel L M r):=by
 unfold unOp at h
 split at h
 ·rename_i k n
  cases Wd hx
  obtain ⟨q,hq,rfl⟩:=Option.map_eq_some_iff.1 h
  obtain ⟨v,hv,hr⟩:=run_binInt (P:=P) (M:=M) (t:=0) hq w
  exact ⟨v,by simpa [Op.unary,Go.binOp] using hv,.p hr⟩
 ·rename_i k n
  cases Wd hx
  obtain ⟨q,hq,rfl⟩:=Option.map_eq_some_iff.1 h
  obtain ⟨v,hv,hr⟩:=run_binInt (P:=P) (M:=M) (t:=0) hq w
  exact ⟨v,by simpa [Op.unary,Go.binOp] using hv,.p hr⟩
 ·rename_i b
  cases WB hx
  injection h with h; subst h
  exact ⟨_,rfl,.p (by constructor)⟩
 ·exact absurd h (by simp)
end Go.D
end
/- Addresses, fields, elements, slices of slices: operations on temporaries alone. -/
section
set_option linter.unusedVariables false
set_option linter.unusedSimpArgs false
namespace Go.D
variable {P : Program} {L : Locs} {M : Mem} {t : TypeId}
theorem Zl {t:TypeId} {n:Nat} (h:size? P t=some n) (w:World):(sizeOf t).run P w=.ok n w:=by
 unfold size? at h
 obtain ⟨i,hi,rfl⟩:=Option.map_eq_some_iff.1 h
 simp [sizeOf,typeInfo,hi]
theorem run_isAgg {t:TypeId} {b:Bool} (h:isAgg P t=some b) (w:World):(Go.isAgg t).run P w=.ok b w:=by
 unfold isAgg at h
 split at h
 ·rename_i fs hu; injection h with h; subst h; simp [Go.isAgg,run_underlying hu]
 ·rename_i n e hu; injection h with h; subst h; simp [Go.isAgg,run_underlying hu]
 ·rename_i d hd1 hd2 hu
  injection h with h; subst h
  unfold Go.isAgg
  rw [Sem.run_bind,run_underlying hu]
  simp only [Result.andThen_ok]
  cases d <;> first | rfl | exact absurd rfl (hd1 _) | exact absurd rfl (hd2 _ _)
 ·exact absurd h (by simp)
theorem Vz {t:TypeId} {cs:List DV} {vs:Array Value} {off:Nat} {r:DV} (h:Ul P t cs off=some r) (hn:vs.size=cs.length)
  (hv:∀ j (h1:j<cs.length) (h2:j<vs.size),VRel L M cs[j] vs[j]) (w:World):Same P (part t vs off) w (VRel L M r):=by
 unfold Ul at h
 split at h
 ·rename_i n ha hsz
  split at h
  ·rename_i hle
   injection h with h; subst h
   refine ⟨.agg (vs.extract off (off+n)),by simp [part,run_isAgg ha,Zl hsz],.agg ?_ fun j h1 h2=>?_⟩
   ·simp; omega
   ·simp only [List.getElem_take,List.getElem_drop,Array.getElem_extract]
    exact hv _ _ _
  ·exact absurd h (by simp)
 ·rename_i n ha hsz
  obtain ⟨hlt,he⟩:=List.getElem?_eq_some_iff.1 h
  have hlt':off<vs.size:=by omega
  refine ⟨vs[off],?_,by subst he; exact hv _ _ _⟩
  simp [part,run_isAgg ha,Array.getElem?_eq_getElem hlt']
 ·exact absurd h (by simp)
theorem Ve {cs:List DV} {v:Value} (h:VRel L M (.agg cs) v):∃ vs:Array Value,v=.agg vs/\vs.size=cs.length/\∀ j (h1:j<cs.length) (h2:j<vs.size),VRel L M cs[j] vs[j]:=by
 cases h with | agg hn h=>exact ⟨_,rfl,hn,h⟩
theorem same_field {s:TypeId} {x r:DV} {x':Value} {i:Nat} (h:field P s x i=some r) (hx:VRel L M x x') (w:World):Same P (Instr.field s x' i) w (VRel L M r):=by
 unfold field at h
 split at h
 ·rename_i fs cs hu
  obtain ⟨vs,rfl,hn,hv⟩:=Ve hx
  split at h
  ·rename_i f hf
   obtain ⟨v,hr,hv'⟩:=Vz h hn hv w
   exact ⟨v,by simp [Instr.field,run_underlying hu,hf,asAgg,hr],hv'⟩
  ·exact absurd h (by simp)
 ·exact absurd h (by simp)
theorem same_extract {x r:DV} {x':Value} {i:Nat} (h:(match x with | .tuple vs=>vs[i]? | _=>none)=some r) (hx:VRel L M x x') (w:World):Same P (Instr.extract x' i) w (VRel L M r):=by
 split at h
 ·rename_i cs
  cases hx with
  | tuple hn hv=>
   obtain ⟨hlt,he⟩:=List.getElem?_eq_some_iff.1 h
   rename_i vs
   have hlt':i<vs.size:=by omega
   exact ⟨vs[i],by simp [Instr.extract,Array.getElem?_eq_getElem hlt'],by subst he; exact hv _ _ _⟩
 ·exact absurd h (by simp)
theorem shift_rel {x r:DV} {x':Value} {n:Nat} (h:QL x n=some r) (hx:VRel L M x x'):∃ b o,x'=.pointer (some ⟨b,o,none⟩)/\VRel L M r (.pointer (some ⟨b,o+n,none⟩)):=by
 unfold QL at h
 split at h
 ·injection h with h; subst h
  cases hx with
  | ptr hl=>rename_i off l; exact ⟨_,_,rfl,by rw [Nat.add_assoc]; exact .ptr hl⟩
 ·injection h with h; subst h
  cases hx with
  | pptr vs hm hv=>exact ⟨_,_,rfl,by rw [Nat.add_assoc]; exact .pptr vs hm hv⟩
 ·exact absurd h (by simp)
theorem same_fieldAddr {s:TypeId} {x r:DV} {x':Value} {i:Nat} (h:fieldAddr P s x i=some r) (hx:VRel L M x x') (w:World):Same P (Instr.fieldAt s x' i) w (VRel L M r):=by
 unfold fieldAddr at h
 split at h
 ·rename_i fs hu
  split at h
  ·rename_i f hf
   split at h
   ·rename_i n hsz
    obtain ⟨b,o,rfl,hr⟩:=shift_rel h hx
    refine ⟨_,?_,hr⟩
    simp [Instr.fieldAt,run_underlying hu,hf,Instr.sureAddr,fieldPlace,Zl hsz,Addr.add_mid]
   ·exact absurd h (by simp)
  ·exact absurd h (by simp)
 ·exact absurd h (by simp)
theorem WQ {a:Addr} (hs:a.spot=none) (n:Nat):a.add n=⟨a.block,a.off+n,none⟩:=by
 cases a with | mk b o s=>simp at hs; subst hs; exact Addr.add_mid b o n
theorem same_indexAddr {x i r:DV} {x' i':Value} (h:indexAddr P t x i=some r) (hx:VRel L M x x') (hi:VRel L M i i') (w:World):Same P (Instr.indexAt t x' i') w (VRel L M r):=by
 unfold indexAddr at h
 split at h
 ·rename_i e k i hu
  cases Wd hi
  split at h
  ·rename_i sz ex n cs hsz
   split at h
   ·rename_i hin
    injection h with h; subst h
    cases hx with
    | p hp=>
     cases hp with
     | sl vs hs hc he hm hv=>
      rename_i a cap
      have hs:=hs (by omega)
      refine ⟨_,?_,VRel.pptr vs hm hv⟩
      simp [Instr.indexAt,asIntOf,run_underlying hu,hin,Zl hsz,WQ hs]
   ·exact absurd h (by simp)
  ·rename_i sz r0 ver sz' n cs hsz
   split at h
   ·rename_i hin
    injection h with h; subst h
    cases hx with
    | osl vs hl hs hc hb ho hn hsp hlen hm hv=>
     rename_i a cap l
     refine ⟨_,?_,VRel.pptr vs hm hv⟩
     simp [Instr.indexAt,asIntOf,run_underlying hu,hin,Zl hsz,WQ hs]
   ·exact absurd h (by simp)
  ·rename_i sz r0 sz' off n hsz
   split at h
   ·rename_i hin
    injection h with h; subst h
    obtain ⟨h0,h1,rfl⟩:=hin
    cases hx with
    | rsl hl hc hs hq=>
     rename_i a cap l
     have hcap:cap≠0:=by omega
     obtain ⟨hb,ho,_,_⟩:=hq.resolve_left (fun hq=>hcap hq.1)
     refine ⟨.pointer (some ⟨l.b,l.o+(off+i.toNat*sz'),none⟩),?_,VRel.ptr hl⟩
     simp [Instr.indexAt,asIntOf,run_underlying hu,h0,h1,Zl hsz,WQ hs,hb,ho,Nat.add_assoc]
   ·exact absurd h (by simp)
  ·exact absurd h (by simp)
 ·rename_i n e k i hu
  cases Wd hi
  split at h
  ·rename_i sz hsz
   split at h
   ·rename_i hin
    obtain ⟨b,o,rfl,hr⟩:=shift_rel h hx
    refine ⟨_,?_,hr⟩
    simp [Instr.indexAt,asIntOf,run_underlying hu,Instr.sureAddr,hin,Zl hsz,Addr.add_mid]
   ·exact absurd h (by simp)
  ·exact absurd h (by simp)
 ·exact absurd h (by simp)
theorem same_index {x i r:DV} {x' i':Value} (h:index P t x i=some r) (hx:VRel L M x x') (hi:VRel L M i i') (w:World):Same P (Instr.index t x' i') w (VRel L M r):=by
 unfold index at h
 split at h
 ·rename_i n e cs k i hu
  cases Wd hi
  obtain ⟨vs,rfl,hn,hv⟩:=Ve hx
  split at h
  ·rename_i sz hsz
   split at h
   ·rename_i hin
    obtain ⟨v,hr,hv'⟩:=Vz h hn hv w
    exact ⟨v,by simp [Instr.index,asIntOf,run_underlying hu,hin,Zl hsz,hr],hv'⟩
   ·exact absurd h (by simp)
  ·exact absurd h (by simp)
 ·rename_i s k i hu
  cases Wd hi
  cases Vc hx
  split at h
  ·rename_i h0
   split at h
   ·rename_i b hb
    injection h with h; subst h
    exact ⟨_,by simp [Instr.index,asIntOf,run_underlying hu,h0,hb]; rfl,.p (by constructor)⟩
   ·exact absurd h (by simp)
  ·exact absurd h (by simp)
 ·exact absurd h (by simp)
theorem run_bound {x:Option DV} {x':Option Value} {d m n most:Nat} (h:Wj x d m=some n) (hx:∀ y,x=some y->∃ y',x'=some y'/\VRel L M y y') (hn:x=none->x'=none) (hm:m<=most) (code:BoundsCode) (w:World) :
  (x=none/\x'=none/\n=d)\/(∃ y',x'=some y'/\n<=m/\(Instr.sliceBound y' most code).run P w=.ok n w):=by
 unfold Wj at h
 split at h
 ·injection h with h; exact .inl ⟨rfl,hn rfl,h.symm⟩
 ·rename_i k i
  obtain ⟨y',rfl,hy⟩:=hx _ rfl
  cases Wd hy
  split at h
  ·rename_i hi
   injection h with h; subst h
   refine .inr ⟨_,rfl,by omega,?_⟩
   have:0<=i/\i<=(most:Int):=⟨hi.1,by omega⟩
   simp [Instr.sliceBound,asIntOf,this]
  ·exact absurd h (by simp)
 ·exact absurd h (by simp)
theorem run_bounds {lo hi mx:Option DV} {lo' hi' mx':Option Value} {n cap m h l:Nat} (hm:Wj mx n n=some m) (hh:Wj hi n m=some h) (hl:Wj lo 0 h=some l)
  (rl:∀ y,lo=some y->∃ y',lo'=some y'/\VRel L M y y') (rl0:lo=none->lo'=none) (rh:∀ y,hi=some y->∃ y',hi'=some y'/\VRel L M y y') (rh0:hi=none->hi'=none)
  (rm:∀ y,mx=some y->∃ y',mx'=some y'/\VRel L M y y') (rm0:mx=none->mx'=none) (hc:n<=cap) (hno:mx.isSome=true->hi.isSome=true) (b:Bool) (w:World) :
  (Instr.sliceBounds b n cap lo' hi' mx').run P w=.ok (l,h,if mx.isSome then m else cap) w/\l<=h/\h<=m/\m<=n/\(mx.isSome=false->m=n):=by
 have h1:l<=h/\h<=m/\m<=n:=by
  have bd:∀ {x:Option DV} {d m n:Nat},Wj x d m=some n->n=d\/n<=m:=by
   intro x d m n hb
   unfold Wj at hb
   split at hb
   ·injection hb with hb; exact .inl hb.symm
   ·split at hb
    ·injection hb with hb; exact .inr (by omega)
    ·exact absurd hb (by simp)
   ·exact absurd hb (by simp)
  have a1:=bd hm
  have a3:=bd hl
  have a2:h<=m:=by
   unfold Wj at hh
   split at hh
   ·injection hh with hh
    subst hh
    rcases a1 with rfl | a1
    ·exact Nat.le_refl _
    ·
     cases mx with
     | none=>unfold Wj at hm; injection hm with hm; omega
     | some y=>simp at hno
   ·split at hh
    ·injection hh with hh; omega
    ·exact absurd hh (by simp)
   ·exact absurd hh (by simp)
  omega
 refine ⟨?_,h1.1,h1.2.1,h1.2.2,fun hs=>?_⟩
 ·rcases run_bound (P:=P) hm rm rm0 hc (if b then .slice3Acap else .slice3Alen) w with ⟨rfl,rfl,rfl⟩ | ⟨my,rfl,hmle,hmr⟩
  ·rcases run_bound (P:=P) (most:=cap) hh rh rh0 (by omega) (if b then .sliceAcap else .sliceAlen) w with ⟨rfl,rfl,rfl⟩ | ⟨hy,rfl,hhle,hhr⟩
   ·rcases run_bound (P:=P) (most:=h) hl rl rl0 (Nat.le_refl _) .sliceB w with ⟨rfl,rfl,rfl⟩ | ⟨ly,rfl,hlle,hlr⟩
    ·simp [Instr.sliceBounds]
    ·simp [Instr.sliceBounds,hlr]
   ·rcases run_bound (P:=P) (most:=h) hl rl rl0 (Nat.le_refl _) .sliceB w with ⟨rfl,rfl,rfl⟩ | ⟨ly,rfl,hlle,hlr⟩
    ·simp [Instr.sliceBounds,hhr]
    ·simp [Instr.sliceBounds,hhr,hlr]
  ·have hsome:mx.isSome=true:=by
    cases mx with
    | none=>simp at rm0
    | some y=>rfl
   rcases run_bound (P:=P) (most:=m) hh rh rh0 (Nat.le_refl _) .slice3B w with ⟨rfl,rfl,rfl⟩ | ⟨hy,rfl,hhle,hhr⟩
   ·simp [hsome] at hno
   ·rcases run_bound (P:=P) (most:=h) hl rl rl0 (Nat.le_refl _) .slice3C w with ⟨rfl,rfl,rfl⟩ | ⟨ly,rfl,hlle,hlr⟩
    ·simp [Instr.sliceBounds,hmr,hhr,hsome]
    ·simp [Instr.sliceBounds,hmr,hhr,hlr,hsome]
 ·cases mx with
  | none=>unfold Wj at hm; injection hm with hm; exact hm.symm
  | some y=>simp at hs
theorem drop_take_getElem {cs:List PV} {a b j:Nat} (h:j<((cs.drop a).take b).length):∃ h':a+j<cs.length,((cs.drop a).take b)[j]=cs[a+j]:=by
 simp at h
 refine ⟨by omega,?_⟩
 simp
theorem mul_sub_add {l n sz:Nat} (h:l<=n):l*sz+(n-l)*sz=n*sz:=by
 rw [<-Nat.add_mul]; congr 1; omega
theorem part_sl {l h m sz:Nat} {cs:List PV} {a:Addr} {vs:Nat->Value} {ex:Bool} (hs:m≠0->a.spot=none) (hlh:l<=h) (hhm:h<=m)
  (hm:∀ j,j<cs.length->M a.block (a.off+j)=some (vs j)) (hv:∀ j (h:j<cs.length),PRel M cs[j] (vs j)) (he:ex=true->m=h) :
  PRel M (.sl ex (h-l) ((cs.drop (l*sz)).take ((h-l)*sz))) (.slice (if m=l then some a else (some a).map (·.add (l*sz))) (h-l) (m-l)):=by
 by_cases hml:m=l
 ·have h0:h-l=0:=by omega
  rw [if_pos hml,h0]
  simp only [Nat.zero_mul,List.take_zero]
  exact .sl (fun _=>undef) (fun h=>by omega) (Nat.zero_le _) (fun e=>by have:=he e; omega) (fun j hj=>absurd hj (by simp)) (fun j hj=>absurd hj (by simp))
 ·rw [if_neg hml]
  have hs:=hs (by omega)
  simp only [Option.map_some,WQ hs]
  refine .sl (fun j=>vs (l*sz+j)) (fun _=>rfl) (by omega) (fun e=>by have:=he e; omega) (fun j hj=>?_) (fun j hj=>?_)
  ·obtain ⟨h',_⟩:=drop_take_getElem hj
   rw [Nat.add_assoc]
   exact hm _ h'
  ·obtain ⟨h',e⟩:=drop_take_getElem hj
   rw [e]
   exact hv _ h'
theorem same_slice {x r:DV} {lo hi mx:Option DV} {x':Value} {lo' hi' mx':Option Value} (h:Zy P t x lo hi mx=some r) (hx:VRel L M x x')
  (rl:∀ y,lo=some y->∃ y',lo'=some y'/\VRel L M y y') (rl0:lo=none->lo'=none) (rh:∀ y,hi=some y->∃ y',hi'=some y'/\VRel L M y y') (rh0:hi=none->hi'=none)
  (rm:∀ y,mx=some y->∃ y',mx'=some y'/\VRel L M y y') (rm0:mx=none->mx'=none) (w:World):Same P (Instr.sliceAt t x' lo' hi' mx') w (VRel L M r):=by
 unfold Zy at h
 split at h
 ·exact absurd h (by simp)
 rename_i hno
 have hno:mx.isSome=true->hi.isSome=true:=by
  intro hm
  cases hi with
  | some y=>rfl
  | none=>simp [hm] at hno
 split at h
 ·
  rename_i hu
  split at h
  ·rename_i s _
   cases Vc hx
   split at h
   ·rename_i hh hb
    split at h
    ·rename_i l hl
     injection h with h; subst h
     have hm:Wj none s.size s.size=some s.size:=rfl
     obtain ⟨hr,_⟩:=run_bounds (P:=P) hm hb hl rl rl0 rh rh0 (mx':=none) (by simp) (by simp) (Nat.le_refl _) (by simp) false w
     have hmx:mx'=none:=rm0 rfl
     subst hmx
     exact ⟨_,by simp [Instr.sliceAt,run_underlying hu,Instr.slice,hr]; rfl,.p (by constructor)⟩
    ·exact absurd h (by simp)
   ·exact absurd h (by simp)
  ·exact absurd h (by simp)
 ·rename_i e hu
  split at h
  ·exact absurd h (by simp)
  ·rename_i sz hsz
   split at h
   ·
    cases Wv hx
    split at h
    ·rename_i m hm
     split at h
     ·rename_i hh hb
      split at h
      ·rename_i l hl
       injection h with h; subst h
       obtain ⟨hr,h1,h2,h3,h4⟩:=run_bounds (P:=P) hm hb hl rl rl0 rh rh0 rm rm0 (Nat.le_refl _) hno true w
       refine ⟨.slice none 0 0,?_,.p (by constructor)⟩
       have e1:hh-l=0:=by omega
       have e2:(if mx.isSome then m else 0)-l=0:=by split <;> omega
       simp [Instr.sliceAt,run_underlying hu,Instr.slice,hr,Zl hsz,e1,e2]
      ·exact absurd h (by simp)
     ·exact absurd h (by simp)
    ·exact absurd h (by simp)
   ·
    rename_i ex n cs
    cases hx with | p hp=>cases hp with | sl vs hs hc he hmem hv=>
    rename_i a cap
    split at h
    ·rename_i m hm
     split at h
     ·rename_i hh hb
      split at h
      ·rename_i l hl
       injection h with h; subst h
       obtain ⟨hr,h1,h2,h3,h4⟩:=run_bounds (P:=P) hm hb hl rl rl0 rh rh0 rm rm0 hc hno true w
       refine ⟨_,?_,.p (part_sl (M:=M) (m:=if mx.isSome then m else cap) (fun hh=>hs (by split at hh <;> omega)) h1 (by split <;> omega) hmem hv (fun e=>?_))⟩
       ·simp [Instr.sliceAt,run_underlying hu,Instr.slice,hr,Zl hsz]
       ·cases hmx:mx.isSome with
        | true=>simp only [hmx,if_true] at e ⊢; simpa using e
        | false=>simp [hmx] at e ⊢; have:=he e.1; omega
      ·exact absurd h (by simp)
     ·exact absurd h (by simp)
    ·exact absurd h (by simp)
   ·
    rename_i r0 ver sz' n cs
    split at h
    ·exact absurd h (by simp)
    ·rename_i hne
     obtain rfl:sz'=sz:=by simpa using hne
     cases hx with | osl vs hl0 hs hc hb0 ho hn0 hsp hlen hmem hv=>
     rename_i a cap loc
     split at h
     ·rename_i m hm
      split at h
      ·rename_i hh hb
       split at h
       ·rename_i l hl
        obtain ⟨hr,h1,h2,h3,h4⟩:=run_bounds (P:=P) hm hb hl rl rl0 rh rh0 rm rm0 hc hno true w
        have hrun:(Instr.sliceAt t (.slice (some a) n cap) lo' hi' mx').run P w=.ok (.slice (if (if mx.isSome then m else cap)=l then some a else (some a).map (·.add (l*sz'))) (hh-l) ((if mx.isSome then m else cap)-l)) w:=by
         simp [Instr.sliceAt,run_underlying hu,Instr.slice,hr,Zl hsz]
        split at h
        ·rename_i hmx
         injection h with h; subst h
         simp only [hmx,if_true] at hrun
         exact ⟨_,hrun,.p (part_sl (M:=M) (fun _=>hs) h1 h2 hmem hv (fun e=>by simpa using e))⟩
        ·rename_i hmx
         simp only [hmx,if_false,Bool.false_eq_true] at hrun
         split at h
         ·rename_i hfull
          injection h with h; subst h
          simp only [Bool.and_eq_true,beq_iff_eq,decide_eq_true_eq] at hfull
          obtain ⟨rfl,hlt⟩:=hfull
          rw [if_neg (by omega)] at hrun
          refine ⟨_,hrun,?_⟩
          simp only [Option.map_some,WQ hs]
          have e1:=mul_sub_add (sz:=sz') (Nat.le_of_lt hlt)
          refine .osl (fun j=>vs (l*sz'+j)) hl0 rfl (by omega) hb0 (by simp only []; omega) hn0 (by rw [hsp]; congr 1; omega) (by simp; omega) (fun j hj=>?_) (fun j hj=>?_)
          ·simp at hj
           rw [Nat.add_assoc]
           exact hmem _ (by omega)
          ·simp at hj
           simp only [List.getElem_drop]
           exact hv _ _
         ·injection h with h; subst h
          exact ⟨_,hrun,.p (part_sl (M:=M) (fun _=>hs) h1 (by omega) hmem hv (by simp))⟩
       ·exact absurd h (by simp)
      ·exact absurd h (by simp)
     ·exact absurd h (by simp)
   ·
    rename_i r0 sz' off n
    split at h
    ·rename_i hz
     rw [Bool.and_eq_true,beq_iff_eq] at hz
     obtain ⟨hmx,rfl⟩:=hz
     cases hx with | rsl hl0 hc hs hq=>
     rename_i a cap loc
     split at h
     ·rename_i m hm
      split at h
      ·rename_i hh hb
       split at h
       ·rename_i l hl
        split at h
        ·rename_i hm0
         subst hm0
         injection h with h; subst h
         obtain ⟨hr,h1,h2,h3,h4⟩:=run_bounds (P:=P) hm hb hl rl rl0 rh rh0 rm rm0 hc hno true w
         have hrun:(Instr.sliceAt t (.slice (some a) n cap) lo' hi' mx').run P w=.ok (.slice (if (if mx.isSome then 0 else cap)=l then some a else (some a).map (·.add (l*sz'))) (hh-l) ((if mx.isSome then 0 else cap)-l)) w:=by
          simp [Instr.sliceAt,run_underlying hu,Instr.slice,hr,Zl hsz]
         rw [hmx] at hrun
         have e1:l=0:=by omega
         have e2:hh=0:=by omega
         subst e1; subst e2
         simp only [if_true,Nat.sub_self] at hrun
         exact ⟨_,hrun,.p (.sl (fun _=>undef) (fun h=>absurd rfl h) (Nat.le_refl _) (fun _=>rfl) (fun j hj=>absurd hj (by simp)) (fun j hj=>absurd hj (by simp)))⟩
        ·exact absurd h (by simp)
       ·exact absurd h (by simp)
      ·exact absurd h (by simp)
     ·exact absurd h (by simp)
    split at h
    ·exact absurd h (by simp)
    ·rename_i hne
     simp only [not_or,Bool.not_eq_true] at hne
     obtain ⟨hmx,hne⟩:=hne
     obtain rfl:sz'=sz:=by simpa using hne
     have hmx0:mx=none:=by cases mx with | none=>rfl | some y=>simp at hmx
     subst hmx0
     cases rm0 rfl
     cases hx with | rsl hl0 hc hs hq=>
     rename_i a cap loc
     split at h
     ·rename_i hh hb
      split at h
      ·rename_i l hl
       injection h with h; subst h
       have hm:Wj none n n=some n:=rfl
       obtain ⟨hr,h1,h2,h3,h4⟩:=run_bounds (P:=P) hm hb hl rl rl0 rh rh0 (mx':=none) (by simp) (by simp) hc (by simp) true w
       refine ⟨.slice (if cap=l then some a else (some a).map (·.add (l*sz'))) (hh-l) (cap-l),by simp [Instr.sliceAt,run_underlying hu,Instr.slice,hr,Zl hsz],?_⟩
       by_cases hcl:cap=l
       ·rw [if_pos hcl]
        refine .rsl hl0 (by omega) hs (.inl ⟨by omega,?_⟩)
        rcases hq with ⟨h5,h6⟩ | ⟨_,_,h6,_⟩
        ·omega
        ·rw [<-hcl]; exact h6
       ·rw [if_neg hcl]
        have hq':=hq.resolve_left (fun h5=>by omega)
        obtain ⟨hb',ho',h5,h6⟩:=hq'
        have e1:=mul_sub_add (sz:=sz') (show l<=cap by omega)
        simp only [Option.map_some,WQ hs]
        exact .rsl hl0 (by omega) rfl (.inr ⟨hb',by simp only []; omega,by omega,by omega⟩)
      ·exact absurd h (by simp)
     ·exact absurd h (by simp)
   ·exact absurd h (by simp)
 ·exact absurd h (by simp)
end Go.D
end
/- Steps of the memory: the central lemmas. -/
section
set_option linter.unusedVariables false
set_option linter.unusedSimpArgs false
namespace Go.D
variable {P : Program}
theorem ObjKept.refl (C:Nat->Prop) (m:Prop) (x:Option Obj):ObjKept C m x x:=by
 unfold ObjKept
 split
 ·simp_all
 ·simp_all
 ·rfl
theorem ObjKept.mono {C C':Nat->Prop} {m m':Prop} {x y:Option Obj} (h:ObjKept C m x y) (hC:∀ o,C o->C' o) (hm:m->m'):ObjKept C' m' x y:=by
 unfold ObjKept at *
 split at h
 ·exact ⟨h.1,h.2.1,h.2.2.1,fun o ho=>h.2.2.2 o (fun hc=>ho (hC o hc))⟩
 ·exact h.imp hm id
 ·exact h
theorem ObjKept.trans {C:Nat->Prop} {m:Prop} {x y z:Option Obj} (h:ObjKept C m x y) (h':ObjKept C m y z):ObjKept C m x z:=by
 cases x with
 | none=>cases y <;> simp_all [ObjKept]
 | some x=>
  cases y with
  | none=>exact absurd h (by cases x <;> simp [ObjKept])
  | some y=>
   cases z with
   | none=>cases y <;> simp_all [ObjKept]
   | some z=>
    cases x <;> cases y <;> first | (simp [ObjKept] at h; done) | skip
    case cells.cells c e f c' e' f'=>
     cases z <;> first | (simp [ObjKept] at h'; done) | skip
     simp only [ObjKept] at *
     exact ⟨h.1.trans h'.1,h.2.1.trans h'.2.1,h.2.2.1.trans h'.2.2.1,fun o ho=>(h'.2.2.2 o ho).trans (h.2.2.2 o ho)⟩
    case map.map es k es' k'=>
     cases z <;> first | (simp [ObjKept] at h'; done) | skip
     simp only [ObjKept] at *
     rcases h with h | ⟨rfl,rfl⟩
     ·exact .inl h
     ·exact h'
    all_goals (simp only [ObjKept,Option.some.injEq,reduceCtorEq] at h)
    all_goals (first | exact h.elim | (rw [h]; exact h'))
theorem Frm.refl (C:Nat->Nat->Prop) (m:Nat->Prop) (w:World):Frm C m w w:=⟨Nat.le_refl _,rfl,rfl,rfl,fun b _=>ObjKept.refl _ _ _⟩
theorem Frm.trans {C C':Nat->Nat->Prop} {m m':Nat->Prop} {w w1 w2:World} (h:Frm C m w w1) (h':Frm C' m' w1 w2) (hC:∀ b o,C' b o->C b o\/w.heap.size<=b) (hm:∀ b,m' b->m b\/w.heap.size<=b):Frm C m w w2:=
 ⟨Nat.le_trans h.size h'.size,h'.os.trans h.os,h'.tape.trans h.tape,h'.output.trans h.output,fun b hb=>
  (h.obj b hb).trans ((h'.obj b (Nat.lt_of_lt_of_le hb h.size)).mono (fun o ho=>(hC b o ho).resolve_right (by omega)) (fun hx=>(hm b hx).resolve_right (by omega)))⟩
theorem Frm.mono {C C':Nat->Nat->Prop} {m m':Nat->Prop} {w w1:World} (h:Frm C m w w1) (hC:∀ b o,C b o->C' b o) (hm:∀ b,m b->m' b):Frm C' m' w w1:=
 ⟨h.size,h.os,h.tape,h.output,fun b hb=>(h.obj b hb).mono (hC b) (hm b)⟩
theorem Frm.alloc (C:Nat->Nat->Prop) (m:Nat->Prop) (w:World) (o:Obj):Frm C m w (w.alloc o):=by
 refine ⟨by simp,rfl,rfl,rfl,fun b hb=>?_⟩
 have:(w.alloc o).heap[b]?=w.heap[b]?:=by
  show (w.heap.push o)[b]?=_
  rw [Array.getElem?_push,if_neg (by omega)]
 rw [this]
 exact ObjKept.refl _ _ _
theorem Frm.drew (C:Nat->Nat->Prop) (m:Nat->Prop) (w:World):Frm C m w w.drew:=⟨Nat.le_refl _,rfl,rfl,rfl,fun b hb=>ObjKept.refl _ _ _⟩
theorem Frm.setCell {C:Nat->Nat->Prop} (m:Nat->Prop) (w:World) (b o:Nat) (v:Value) (hC:C b o):Frm C m w (w.setCell ⟨b,o,none⟩ v):=by
 refine ⟨by simp,rfl,rfl,rfl,fun c hc=>?_⟩
 by_cases hbc:b=c
 ·subst hbc
  simp only [World.setCell,Array.getElem?_modify,if_true]
  cases hx:w.heap[b]? with
  | none=>exact ObjKept.refl _ _ _
  | some x=>
   cases x <;> simp [ObjKept]
   intro o' ho'
   rw [Array.getElem?_setIfInBounds_ne]
   rintro rfl
   exact ho' hC
 ·have:(w.setCell ⟨b,o,none⟩ v).heap[c]?=w.heap[c]?:=by
   simp only [World.setCell,Array.getElem?_modify,if_neg hbc]
  rw [this]
  exact ObjKept.refl _ _ _
theorem Frm.setCells {C:Nat->Nat->Prop} (m:Nat->Prop) (b:Nat):∀ (vs:List Value) (o:Nat) (w:World),(∀ j,j<vs.length->C b (o+j))->Frm C m w (w.setCells b o vs)
 | [],_,w,_=>Frm.refl _ _ _
 | v::r,o,w,h=>by
  rw [World.setCells]
  refine (Frm.setCell m w b o v (by simpa using h 0 (by simp))).trans (Frm.setCells (C:=C) m b r (o+1) _ fun j hj=>?_) (fun _ _ h=>.inl h) (fun _ h=>.inl h)
  have:=h (j+1) (by simp; omega)
  rwa [show o+(j+1)=o+1+j by omega] at this
theorem Frm.cell {C:Nat->Nat->Prop} {m:Nat->Prop} {w w':World} (h:Frm C m w w') {b o:Nat} {v:Value} (hc:w.cell? ⟨b,o,none⟩=some v) (hn:¬ C b o):w'.cell? ⟨b,o,none⟩=some v:=by
 have hb:=World.block_lt_of_cell? w _ hc
 have hk:=h.obj b hb
 unfold World.cell? at hc ⊢
 simp only [] at hc hb hk ⊢
 cases hx:w.heap[b]? with
 | none=>simp [hx] at hc
 | some x=>
  cases x <;> simp [hx] at hc
  rename_i c e f
  rw [hx] at hk
  cases hy:w'.heap[b]? with
  | none=>simp [hy,ObjKept] at hk
  | some y=>
   rw [hy] at hk
   cases y <;> simp [ObjKept] at hk
   simp only [Option.isSome_none,Bool.false_eq_true,if_false]
   rw [hk.2.2.2 o hn]
   simpa using hc
theorem Frm.there {C:Nat->Nat->Prop} {m:Nat->Prop} {w w':World} (h:Frm C m w w') {b o:Nat} (hc:∃ v,w.cell? ⟨b,o,none⟩=some v):(∃ v,w'.cell? ⟨b,o,none⟩=some v)/\w'.frozen? ⟨b,o,none⟩=w.frozen? ⟨b,o,none⟩:=by
 obtain ⟨v,hc⟩:=hc
 have hb:=World.block_lt_of_cell? w _ hc
 have hk:=h.obj b hb
 unfold World.cell? at hc ⊢
 unfold World.frozen?
 simp only [] at hc hb hk ⊢
 cases hx:w.heap[b]? with
 | none=>simp [hx] at hc
 | some x=>
  cases x <;> simp [hx] at hc
  rename_i c e f
  rw [hx] at hk
  cases hy:w'.heap[b]? with
  | none=>simp [hy,ObjKept] at hk
  | some y=>
   rw [hy] at hk
   cases y <;> simp [ObjKept] at hk
   rename_i c' e' f'
   obtain ⟨rfl,rfl,hs,_⟩:=hk
   have:o<c.size:=by
    have:=Array.getElem?_eq_some_iff.1 hc
    exact this.1
   simp only [Option.isSome_none,Bool.false_eq_true,if_false,and_true]
   exact ⟨_,Array.getElem?_eq_getElem (by omega)⟩
theorem Frm.map {C:Nat->Nat->Prop} {m:Nat->Prop} {w w':World} (h:Frm C m w w') {b:Nat} {es:Array MapEntry} {k:Nat} (hc:w.heap[b]?=some (.map es k)) (hn:¬ m b):w'.heap[b]?=some (.map es k):=by
 have hb:=(Array.getElem?_eq_some_iff.1 hc).1
 have hk:=h.obj b hb
 rw [hc] at hk
 cases hy:w'.heap[b]? with
 | none=>simp [hy,ObjKept] at hk
 | some y=>
  rw [hy] at hk
  cases y <;> simp [ObjKept] at hk
  rcases hk with hk | ⟨rfl,rfl⟩
  ·exact absurd hk hn
  ·rfl
theorem Cells.mono {L L':Locs} {M M':Mem} {w w':World} {b o:Nat} {cs:List DV} (h:Cells L M w b o cs) (hL:L.le L') (hM:M.le M') (hw:∀ j v,j<cs.length->w.cell? ⟨b,o+j,none⟩=some v->w'.cell? ⟨b,o+j,none⟩=some v):Cells L' M' w' b o cs:=by
 intro j hj
 obtain ⟨v,h1,h2⟩:=h j hj
 exact ⟨v,hw j v hj h1,h2.mono hL hM⟩
theorem SRel.put {σ σ':Qa} {L L':Locs} {M M':Mem} {w w':World} (h:SRel σ L M w) (r0:Nat) (row0:Row) (l0:Loc) {C:Nat->Nat->Prop} {m:Nat->Prop}
  (hσ:∀ r,r≠r0->σ'[r]?=σ[r]?) (hσ0:σ'[r0]?=some row0)
  (hL:∀ r k,r≠r0->L' r k=L r k) (hL0:L' r0 row0.ver=some l0) (hLle:L.le L') (hver:∀ v,row0=.tok v->∀ k,v<k->L' r0 k=none)
  (hM:M.le M') (hMn:∀ b o v,M' b o=some v->M b o=some v\/(w'.cell? ⟨b,o,none⟩=some v/\¬ l0.has b o/\∀ r row l,r≠r0->At σ L r row l->row.owns=true->¬ l.has b o))
  (hw:Frm C m w w') (hCM:∀ b o,C b o->M b o=none) (hC:∀ r row l,r≠r0->At σ L r row l->row.owns=true->∀ b o,l.has b o->¬ C b o)
  (hm:∀ r es l,r≠r0->At σ L r (.map es) l->¬ m l.b)
  (hrow:RowRel L' M' w' l0 row0)
  (hown:row0.owns=true->∀ o,l0.has l0.b o->(∃ v,w'.cell? ⟨l0.b,o,none⟩=some v)/\w'.frozen? ⟨l0.b,o,none⟩=false)
  (hdis:row0.owns=true->∀ r row l,r≠r0->At σ L r row l->row.owns=true->∀ b o,l.has b o->¬ l0.has b o)
  (haw:row0.owns=true->∀ b o,l0.has b o->M b o=none)
  (hmap:∀ es,row0=.map es->∀ r es' l,r≠r0->At σ L r (.map es') l->l.b≠l0.b):SRel σ' L' M' w':=by
 have hlen:σ.length<=σ'.length:=by
  rcases Nat.lt_or_ge σ'.length σ.length with hlt | hge
  ·exfalso
   by_cases hr:σ'.length=r0
   ·have:=(List.getElem?_eq_some_iff.1 hσ0).1; omega
   ·have:=hσ σ'.length hr
    rw [List.getElem?_eq_none (Nat.le_refl _)] at this
    rw [List.getElem?_eq_getElem hlt] at this
    exact absurd this (by simp)
  ·exact hge
 have old:∀ {r row l},r≠r0->At σ' L' r row l->At σ L r row l:=fun hr ha=>⟨(hσ _ hr) ▸ ha.1,(hL _ _ hr) ▸ ha.2⟩
 have self:∀ {row l},At σ' L' r0 row l->row=row0/\l=l0:=by
  intro row l ha
  have h1:=ha.1
  rw [hσ0] at h1
  injection h1 with h1
  subst h1
  have h2:=ha.2
  rw [hL0] at h2
  injection h2 with h2
  exact ⟨rfl,h2.symm⟩
 refine ⟨fun r k hr=>?_,fun r v k hr hk=>?_,fun b o v hv=>?_,fun r row l ha=>?_,fun r row l ha ho o hl=>?_,fun r row l r' row' l' ha ha' ho ho' hne b o hl hl'=>?_,fun r es l r' es' l' ha ha' hne=>?_,fun r row l ha ho b o hl=>?_⟩
 ·have h0:=(List.getElem?_eq_some_iff.1 hσ0).1
  rw [hL r k (by omega)]
  exact h.fresh r k (by omega)
 ·by_cases hr0:r=r0
  ·subst hr0
   rw [hσ0] at hr
   injection hr with hr
   exact hver v hr k hk
  ·rw [hL r k hr0]
   exact h.ver r v k ((hσ r hr0) ▸ hr) hk
 ·rcases hMn b o v hv with h1 | h1
  ·exact hw.cell (h.mem b o v h1) (fun hc=>by rw [hCM b o hc] at h1; exact absurd h1 (by simp))
  ·exact h1.1
 ·by_cases hr0:r=r0
  ·subst hr0
   obtain ⟨rfl,rfl⟩:=self ha
   exact hrow
  ·have ha':=old hr0 ha
   have hr:=h.row r row l ha'
   have hno:=fun (ho:row.owns=true) b o hl=>hC r row l hr0 ha' ho b o hl
   cases row with
   | arr cs=>
    refine ⟨hr.1,hr.2.mono hLle hM fun j v hj hc=>hw.cell hc (hno rfl _ _ ⟨rfl,by omega,?_⟩)⟩
    have:=hr.1; simp at hj; omega
   | mix cs=>
    refine ⟨hr.1,hr.2.mono hLle hM fun j v hj hc=>hw.cell hc (hno rfl _ _ ⟨rfl,by omega,?_⟩)⟩
    have:=hr.1; omega
   | tok v=>exact hr
   | map es=>
    obtain ⟨vs,clock,h1,h2,h3⟩:=hr
    exact ⟨vs,clock,hw.map h1 (hm r es l hr0 ha'),h2,fun j h4 h5=>⟨(h3 j h4 h5).1.mono hLle hM,(h3 j h4 h5).2.mono hLle hM⟩⟩
   | dead=>trivial
 ·by_cases hr0:r=r0
  ·subst hr0
   obtain ⟨rfl,rfl⟩:=self ha
   exact hown ho o hl
  ·have:=h.own r row l (old hr0 ha) ho o hl
   obtain ⟨h1,h2⟩:=hw.there this.1
   exact ⟨h1,h2.trans this.2⟩
 ·by_cases hr0:r=r0
  ·subst hr0
   obtain ⟨rfl,rfl⟩:=self ha
   exact hdis ho r' row' l' (Ne.symm hne) (old (Ne.symm hne) ha') ho' b o hl' hl
  ·by_cases hr0':r'=r0
   ·subst hr0'
    obtain ⟨rfl,rfl⟩:=self ha'
    exact hdis ho' r row l hr0 (old hr0 ha) ho b o hl hl'
   ·exact h.disj r row l r' row' l' (old hr0 ha) (old hr0' ha') ho ho' hne b o hl hl'
 ·by_cases hr0:r=r0
  ·subst hr0
   obtain ⟨h1,rfl⟩:=self ha
   exact (hmap es h1.symm r' es' l' (Ne.symm hne) (old (Ne.symm hne) ha')).symm
  ·by_cases hr0':r'=r0
   ·subst hr0'
    obtain ⟨h1,rfl⟩:=self ha'
    exact hmap es' h1.symm r es l hr0 (old hr0 ha)
   ·exact h.maps r es l r' es' l' (old hr0 ha) (old hr0' ha') hne
 ·cases hx:M' b o with
  | none=>rfl
  | some v=>
   exfalso
   rcases hMn b o v hx with h1 | h1
   ·by_cases hr0:r=r0
    ·subst hr0
     obtain ⟨rfl,rfl⟩:=self ha
     rw [haw ho b o hl] at h1; exact absurd h1 (by simp)
    ·rw [h.away r row l (old hr0 ha) ho b o hl] at h1; exact absurd h1 (by simp)
   ·by_cases hr0:r=r0
    ·subst hr0
     obtain ⟨rfl,rfl⟩:=self ha
     exact h1.2.1 hl
    ·exact h1.2.2 r row l hr0 (old hr0 ha) ho hl
end Go.D
end
/- Loads, stores, new variables. -/
section
set_option linter.unusedVariables false
set_option linter.unusedSimpArgs false
namespace Go.D
variable {P : Program} {t : TypeId} {σ σ' : Qa} {L : Locs} {M : Mem} {w : World}
theorem Post.refl (lo:Nat) (h:SRel σ L M w):Post lo σ L M w σ L M w:=
 ⟨h,Locs.le_refl _,Mem.le_refl _,Nat.le_refl _,fun _ _ _=>rfl,fun _ _ _ _=>rfl,Frm.refl _ _ _,fun _ _ _ h=>.inl h,fun _ _ h=>.inl h,fun _ h=>.inl h⟩
theorem Post.trans {lo:Nat} {σ1 σ2:Qa} {L1 L2:Locs} {M1 M2:Mem} {w1 w2:World} (h:Post lo σ L M w σ1 L1 M1 w1) (h':Post lo σ1 L1 M1 w1 σ2 L2 M2 w2):Post lo σ L M w σ2 L2 M2 w2 where
 srel:=h'.srel
 lle:=Locs.le_trans h.lle h'.lle
 mle:=Mem.le_trans h.mle h'.mle
 len:=Nat.le_trans h.len h'.len
 low:=fun r hr hl=>(h'.low r hr (Nat.lt_of_lt_of_le hl h.len)).trans (h.low r hr hl)
 llow:=fun r k hr hl=>(h'.llow r k hr (Nat.lt_of_lt_of_le hl h.len)).trans (h.llow r k hr hl)
 frm:=h.frm.trans h'.frm h.wr h.wm
 mnew:=fun b o v hv=>by
  rcases h'.mnew b o v hv with h1 | h1 | h1
  ·exact h.mnew b o v h1
  ·exact .inr (.inl (Nat.le_trans h.frm.size h1))
  ·rcases h.wr b o h1 with h2 | h2
   ·exact .inr (.inr h2)
   ·exact .inr (.inl h2)
 wr:=fun b o hv=>by
  rcases h'.wr b o hv with h1 | h1
  ·exact h.wr b o h1
  ·exact .inr (Nat.le_trans h.frm.size h1)
 wm:=fun b hv=>by
  rcases h'.wm b hv with h1 | h1
  ·exact h.wm b h1
  ·exact .inr (Nat.le_trans h.frm.size h1)
theorem SRel.drew (h:SRel σ L M w):SRel σ L M w.drew:=
 ⟨h.fresh,h.ver,h.mem,fun r row l ha=>by
  have:=h.row r row l ha
  cases row <;> exact this,h.own,h.disj,h.maps,h.away⟩
theorem Post.drew (lo:Nat) (h:SRel σ L M w):Post lo σ L M w σ L M w.drew:=
 ⟨h.drew,Locs.le_refl _,Mem.le_refl _,Nat.le_refl _,fun _ _ _=>rfl,fun _ _ _ _=>rfl,Frm.drew _ _ _,fun _ _ _ h=>.inl h,fun _ _ h=>.inl h,fun _ h=>.inl h⟩
theorem loadN_ok {n:Nat} {x:DV} {x':Value} {vs:List DV} (hs:SRel σ L M w) (h:Wl σ n x=some vs) (hx:VRel L M x x') :
  ∃ b o,x'=.pointer (some ⟨b,o,none⟩)/\vs.length=n/\Cells L M w b o vs:=by
 unfold Wl at h
 split at h
 ·rename_i r off
  cases hx with | ptr hl=>
  rename_i l
  split at h
  ·rename_i cs hr
   split at h
   ·rename_i hle
    injection h with h; subst h
    obtain ⟨hlen,hc⟩:=hs.row r _ l ⟨hr,hl⟩
    refine ⟨_,_,rfl,by simp; omega,fun j hj=>?_⟩
    simp at hj
    obtain ⟨v,h1,h2⟩:=hc (off+j) (by omega)
    refine ⟨v,by rw [Nat.add_assoc]; exact h1,?_⟩
    simp only [List.getElem_take,List.getElem_drop]
    exact h2
   ·exact absurd h (by simp)
  ·rename_i cs hr
   split at h
   ·rename_i hle
    injection h with h; subst h
    obtain ⟨hlen,hc⟩:=hs.row r _ l ⟨hr,hl⟩
    refine ⟨_,_,rfl,by simp; omega,fun j hj=>?_⟩
    simp at hj
    obtain ⟨v,h1,h2⟩:=hc (off+j) (by simp; omega)
    refine ⟨v,by rw [Nat.add_assoc]; exact h1,?_⟩
    simp only [List.getElem_map,List.getElem_take,List.getElem_drop] at h2 ⊢
    exact h2
   ·exact absurd h (by simp)
  ·exact absurd h (by simp)
 ·rename_i cs off
  cases hx with | pptr vs' hm hv=>
  rename_i b o
  split at h
  ·rename_i hle
   injection h with h; subst h
   refine ⟨_,_,rfl,by simp; omega,fun j hj=>?_⟩
   simp at hj
   refine ⟨vs' (off+j),by rw [Nat.add_assoc]; exact hs.mem _ _ _ (hm _ (by omega)),?_⟩
   simp only [List.getElem_map,List.getElem_take,List.getElem_drop]
   exact .p (hv _ _)
  ·exact absurd h (by simp)
 ·exact absurd h (by simp)
def Wo (w:World) (b o n:Nat):List Value:=(List.range n).map fun j=>(w.cell? ⟨b,o+j,none⟩).getD undef
theorem Cells.at {b o:Nat} {vs:List DV} (h:Cells L M w b o vs):(∀ j,j<vs.length->w.cell? ⟨b,o+j,none⟩=some ((Wo w b o vs.length).getD j undef))/\(Wo w b o vs.length).length=vs.length/\
  ∀ j (h1:j<vs.length) (h2:j<(Wo w b o vs.length).length),VRel L M vs[j] (Wo w b o vs.length)[j]:=by
 refine ⟨fun j hj=>?_,by simp [Wo],fun j h1 h2=>?_⟩
 ·obtain ⟨v,h3,_⟩:=h j hj
  simp [Wo,hj,h3]
 ·obtain ⟨v,h3,h4⟩:=h j h1
  simp only [Wo,List.getElem_map,List.getElem_range,h3,Option.getD_some]
  exact h4
theorem run_loadCells_at {b o:Nat} {vs:List DV} (h:Cells L M w b o vs):(loadCells ⟨b,o,none⟩ vs.length).run P w=.ok (Wo w b o vs.length).toArray w:=by
 have:=run_loadCells (P:=P) w ⟨b,o,none⟩ vs.length (fun j=>(Wo w b o vs.length).getD j undef) (fun j hj=>by rw [Addr.add_mid]; exact h.at.1 j hj)
 rw [this]
 congr 2
 refine List.ext_getElem (by simp [Wo]) fun j h1 h2=>?_
 simp at h1
 simp [Wo,h1]
theorem same_load {x r:DV} {x':Value} (hs:SRel σ L M w) (h:load P t x σ=some r) (hx:VRel L M x x'):Same P (Instr.loadAt t x') w (VRel L M r):=by
 unfold load at h
 split at h
 ·rename_i n ha hsz
  obtain ⟨vs,hv,rfl⟩:=Option.map_eq_some_iff.1 h
  obtain ⟨b,o,rfl,hn,hc⟩:=loadN_ok hs hv hx
  subst hn
  refine ⟨.agg (Wo w b o vs.length).toArray,?_,.agg (by simp [Wo]) fun j h1 h2=>hc.at.2.2 j h1 (by simpa using h2)⟩
  simp [Instr.loadAt,Instr.sureAddr,loadVar,run_isAgg ha,Zl hsz,run_loadCells_at hc]
 ·rename_i n ha hsz
  split at h
  ·rename_i v hv
   injection h with h; subst h
   obtain ⟨b,o,rfl,hn,hc⟩:=loadN_ok hs hv hx
   obtain ⟨v',h1,h2⟩:=hc 0 (by simp)
   refine ⟨v',?_,h2⟩
   simp at h1
   simp [Instr.loadAt,Instr.sureAddr,loadVar,run_isAgg ha,h1]
  ·exact absurd h (by simp)
 ·exact absurd h (by simp)
def Row.dv:Row->Option (List DV)
 | .arr cs=>some (cs.map .p)
 | .mix cs=>some cs
 | _=>none
theorem rowRel_dv {row:Row} {l:Loc} {cs:List DV} (h:row.dv=some cs):RowRel L M w l row↔cs.length=l.n/\Cells L M w l.b l.o cs:=by
 cases row <;> simp [Row.dv] at h
 ·subst h; simp [RowRel]
 ·subst h; simp [RowRel]
theorem VW {row:Row} {cs:List DV} (h:row.dv=some cs):row.owns=true/\row.ver=0/\(∀ v,row≠.tok v)/\∀ es,row≠.map es:=by
 cases row <;> simp [Row.dv] at h <;> simp [Row.owns,Row.ver]
theorem ZJ {α:Type} (cs vs:List α) (off:Nat) (h:off+vs.length<=cs.length):(QS cs off vs).length=cs.length:=by
 simp [QS]; omega
theorem splice_getElem {α:Type} {cs vs:List α} {off j:Nat} (h:off+vs.length<=cs.length) (hj:j<(QS cs off vs).length) :
  (QS cs off vs)[j]=if h1:off<=j/\j<off+vs.length then vs[j-off]'(by omega) else cs[j]'(by rw [ZJ _ _ _ h] at hj; exact hj):=by
 have hl:j<cs.length:=by rw [ZJ _ _ _ h] at hj; exact hj
 simp only [QS,List.append_assoc]
 by_cases h1:j<off
 ·rw [List.getElem_append_left (by simp; omega)]
  rw [dif_neg (by omega)]
  simp
 ·rw [List.getElem_append_right (by simp; omega)]
  have e1:(List.take off cs).length=off:=by simp; omega
  simp only [e1]
  by_cases h2:j<off+vs.length
  ·rw [List.getElem_append_left (by omega),dif_pos (by omega)]
  ·rw [List.getElem_append_right (by omega),dif_neg (by omega)]
   simp only [List.getElem_drop]
   congr 1
   omega
theorem splice_map {α β:Type} (f:α->β) (cs vs:List α) (off:Nat):(QS cs off vs).map f=QS (cs.map f) off (vs.map f):=by
 simp [QS,List.map_take,List.map_drop]
theorem write_row {lo r off:Nat} {row row':Row} {cs vs:List DV} {vs':List Value} {l:Loc} (hs:SRel σ L M w) (hlo:lo<=r) (ha:At σ L r row l) (hd:row.dv=some cs) (hd':row'.dv=some (QS cs off vs))
  (hle:off+vs.length<=cs.length) (hn:vs'.length=vs.length) (hv:∀ j (h1:j<vs.length) (h2:j<vs'.length),VRel L M vs[j] vs'[j]) :
  Post lo σ L M w (σ.set r row') L M (w.setCells l.b (l.o+off) vs')/\w.there l.b (l.o+off) vs.length:=by
 obtain ⟨ho,hv0,hnt,hnm⟩:=VW hd
 obtain ⟨ho',hv0',hnt',hnm'⟩:=VW hd'
 obtain ⟨hlen,hc⟩:=(rowRel_dv hd).1 (hs.row r row l ha)
 have hrl:r<σ.length:=(List.getElem?_eq_some_iff.1 ha.1).1
 have hhas:∀ j,j<vs.length->l.has l.b (l.o+off+j):=fun j hj=>⟨rfl,by omega,by omega⟩
 have hthere:w.there l.b (l.o+off) vs.length:=fun j hj=>by
  obtain ⟨⟨v,h1⟩,h2⟩:=hs.own r row l ha ho _ (hhas j hj)
  exact ⟨by rw [h1]; rfl,h2⟩
 have hcell:∀ o,(w.setCells l.b (l.o+off) vs').cell? ⟨l.b,o,none⟩=if h:l.o+off<=o/\o<l.o+off+vs'.length then some (vs'[o-(l.o+off)]'(by omega)) else w.cell? ⟨l.b,o,none⟩:=by
  intro o
  by_cases h:l.o+off<=o/\o<l.o+off+vs'.length
  ·rw [dif_pos h]
   have:=World.cell?_setCells_in l.b vs' (l.o+off) w (fun j hj=>(hthere j (by omega)).1) (o-(l.o+off)) (by omega)
   rwa [show l.o+off+(o-(l.o+off))=o by omega] at this
  ·rw [dif_neg h]
   exact World.cell?_setCells_out _ _ _ _ _ (fun _ _=>by simp only []; omega)
 have hfrm:Frm (fun b o=>b=l.b/\l.o+off<=o/\o<l.o+off+vs.length) (fun _=>False) w (w.setCells l.b (l.o+off) vs'):=
  Frm.setCells _ _ _ _ _ (fun j hj=>⟨rfl,by omega,by omega⟩)
 have hset:∀ r',r'≠r->(σ.set r row')[r']?=σ[r']?:=fun r' hr'=>List.getElem?_set_ne (Ne.symm hr')
 have hset0:(σ.set r row')[r]?=some row':=by rw [List.getElem?_set_self hrl]
 have hCl:∀ {b o:Nat},(b=l.b/\l.o+off<=o/\o<l.o+off+vs.length)->l.has b o:=fun h=>⟨h.1.symm,by omega,by omega⟩
 have hsr:SRel (σ.set r row') L M (w.setCells l.b (l.o+off) vs'):=by
  refine hs.put r row' l hset hset0 (fun _ _ _=>rfl) (by rw [hv0',<-hv0]; exact ha.2) (Locs.le_refl _) (fun v hv=>absurd hv (hnt' v)) (Mem.le_refl _) (fun _ _ _ h=>.inl h) hfrm
   (fun b o hC=>hs.away r row l ha ho b o (hCl hC)) (fun r' row1 l' hne ha' ho1 b o hl' hC=>hs.disj r' row1 l' r row l ha' ha ho1 ho hne b o hl' (hCl hC)) (fun _ _ _ _ _ h=>h)
   ((rowRel_dv hd').2 ⟨by rw [ZJ _ _ _ hle]; exact hlen,fun j hj=>?_⟩) (fun _ o hl=>?_) (fun _ r' row1 l' hne ha' ho1=>hs.disj r' row1 l' r row l ha' ha ho1 ho hne) (fun _ b o hl=>hs.away r row l ha ho b o hl)
   (fun es he=>absurd he (hnm' es))
  ·rw [hcell,splice_getElem hle hj]
   rw [ZJ _ _ _ hle] at hj
   by_cases h1:off<=j/\j<off+vs.length
   ·rw [dif_pos (by omega),dif_pos h1]
    refine ⟨_,rfl,?_⟩
    have:l.o+j-(l.o+off)=j-off:=by omega
    simp only [this]
    exact hv _ (by omega) (by omega)
   ·rw [dif_neg (by omega),dif_neg h1]
    exact hc j hj
  ·obtain ⟨h1,h2⟩:=hs.own r row l ha ho o hl
   obtain ⟨h3,h4⟩:=hfrm.there h1
   exact ⟨h3,h4.trans h2⟩
 have hback:∀ {r1 row1 l1},At (σ.set r row') L r1 row1 l1->row1.owns=true->∃ row2,At σ L r1 row2 l1/\row2.owns=true:=by
  intro r1 row1 l1 h1 h2
  by_cases hr1:r1=r
  ·subst hr1
   have e1:=h1.1
   rw [hset0] at e1
   injection e1 with e1
   subst e1
   refine ⟨row,⟨ha.1,?_⟩,ho⟩
   have:=h1.2
   rw [hv0'] at this
   rw [hv0]; exact this
  ·exact ⟨row1,⟨(hset r1 hr1) ▸ h1.1,h1.2⟩,h2⟩
 refine ⟨⟨hsr,Locs.le_refl _,Mem.le_refl _,by simp,fun r' h1 h2=>hset r' (by omega),fun _ _ _ _=>rfl,
  hfrm.mono (fun b o hC=>⟨r,row,l,hlo,ha,ho,hCl hC⟩) (fun _ h=>h.elim),fun _ _ _ h=>.inl h,fun b o h=>?_,fun b h=>?_⟩,hthere⟩
 ·obtain ⟨r1,row1,l1,h1,h2,h3,h4⟩:=h
  obtain ⟨row2,h5,h6⟩:=hback h2 h3
  exact .inl ⟨r1,row2,l1,h1,h5,h6,h4⟩
 ·obtain ⟨r1,es,l1,h1,h2,h3⟩:=h
  by_cases hr1:r1=r
  ·subst hr1
   have e1:=h2.1
   rw [hset0] at e1
   injection e1 with e1
   exact absurd e1 (hnm' es)
  ·exact .inl ⟨r1,es,l1,h1,⟨(hset r1 hr1) ▸ h2.1,h2.2⟩,h3⟩
theorem pures_ok {vs:List DV} {ps:List PV} (h:Vg vs=some ps):ps.length=vs.length/\∀ j (h1:j<vs.length) (h2:j<ps.length),(vs[j]).pure?=some ps[j]:=by
 induction vs generalizing ps with
 | nil=>simp [Vg] at h; subst h; exact ⟨rfl,fun j h1=>absurd h1 (by simp)⟩
 | cons v vs ih=>
  simp only [Vg] at h
  split at h
  ·rename_i x xs h1 h2
   injection h with h; subst h
   obtain ⟨h3,h4⟩:=ih h2
   refine ⟨by simp [h3],fun j hj1 hj2=>?_⟩
   cases j with
   | zero=>exact h1
   | succ j=>exact h4 j (by simpa using hj1) (by simpa using hj2)
  ·exact absurd h (by simp)
theorem store_ok {lo:Nat} {x v:DV} {x' v':Value} (hs:SRel σ L M w) (h:store P lo t x v σ=some σ') (hx:VRel L M x x') (hv:VRel L M v v') (hu:v≠.undef) :
  ∃ w',(Instr.storeAt t x' v').run P w=.ok () w'/\Post lo σ L M w σ' L M w':=by
 obtain ⟨hcn,hcv⟩:=hv.cells hu
 unfold store at h
 split at h
 ·rename_i n hsz
  split at h
  ·rename_i hlen
   unfold Zo at h
   split at h
   ·rename_i r off
    cases hx with | ptr hl=>
    rename_i l
    split at h
    ·rename_i hlo
     have fin:∀ (row row':Row) (cs vs:List DV),σ[r]?=some row->row.dv=some cs->row'.dv=some (QS cs off vs)->off+vs.length<=cs.length->v.cells.length=vs.length->
       (∀ j (h1:j<vs.length) (h2:j<v'.cells.size),VRel L M vs[j] v'.cells[j])->(∀ x∈v'.cells.toList,x.oneCell'=true)->
       ∃ w',(Instr.storeAt t (.pointer (some ⟨l.b,l.o+off,none⟩)) v').run P w=.ok () w'/\Post lo σ L M w (σ.set r row') L M w':=by
      intro row row' cs vs hr hd hd' hle hvl hrel hone
      have ha:At σ L r row l:=⟨hr,by rw [(VW hd).2.1]; exact hl⟩
      obtain ⟨hp,hth⟩:=write_row (vs':=v'.cells.toList) hs hlo ha hd hd' hle (by simp; omega) (fun j h1 h2=>by simpa using hrel j h1 (by simpa using h2))
      refine ⟨_,?_,hp⟩
      have hst:=run_storeCells_cells (P:=P) l.b (l.o+off) v'.cells.toList 0 w (fun j hj=>by simpa using (hth j (by simp at hj; omega)).1) (fun j hj=>by simpa using (hth j (by simp at hj; omega)).2) hone
      have hsize:v'.cells.size=n:=by omega
      simp only [Nat.add_zero] at hst
      simp [Instr.storeAt,Instr.sureAddr,storeVar,Zl hsz,hsize,hst]
     split at h
     ·rename_i cs hr
      split at h
      ·rename_i hall
       injection h with h; subst h
       simp only [Bool.and_eq_true,decide_eq_true_eq] at hall
       refine fin _ _ cs v.cells hr rfl rfl hall.1 rfl hcv (fun x hx=>?_)
       obtain ⟨j,hj,rfl⟩:=List.getElem_of_mem hx
       have hj':j<v'.cells.size:=by simpa using hj
       have h1:=hcv j (by omega) hj'
       have h2:=List.all_eq_true.1 hall.2 _ (List.getElem_mem (show j<v.cells.length by omega))
       simpa using h1.one h2
      ·exact absurd h (by simp)
     ·rename_i cs hr
      split at h
      ·rename_i ps hps
       split at h
       ·rename_i hle
        injection h with h; subst h
        obtain ⟨hpl,hpe⟩:=pures_ok hps
        have hpr:∀ j (h1:j<ps.length) (h2:j<v'.cells.size),PRel M ps[j] v'.cells[j]:=fun j h1 h2=>(hcv j (by omega) h2).pure (hpe j (by omega) h1)
        refine fin _ _ (cs.map .p) (ps.map .p) hr rfl (by simp [Row.dv,splice_map]) (by simp; omega) (by simp; omega) (fun j h1 h2=>by simp at h1; simpa using VRel.p (hpr j h1 h2)) (fun x hx=>?_)
        obtain ⟨j,hj,rfl⟩:=List.getElem_of_mem hx
        have hj':j<v'.cells.size:=by simpa using hj
        simpa using (hpr j (by omega) hj').oneCell
       ·exact absurd h (by simp)
      ·exact absurd h (by simp)
     ·exact absurd h (by simp)
    ·exact absurd h (by simp)
   ·exact absurd h (by simp)
  ·exact absurd h (by simp)
 ·exact absurd h (by simp)
theorem storeN_run {lo r off:Nat} {l:Loc} {vs:List DV} {vs':Array Value} (hs:SRel σ L M w) (h:Zo lo vs σ (.ptr r off)=some σ') (hl:L r 0=some l) (hn:vs'.size=vs.length)
  (hcv:∀ j (h1:j<vs.length) (h2:j<vs'.size),VRel L M vs[j] vs'[j]):∃ w',(storeCells ⟨l.b,l.o+off,none⟩ vs'.toList).run P w=.ok () w'/\Post lo σ L M w σ' L M w':=by
 unfold Zo at h
 simp only [] at h
 split at h
 ·rename_i hlo
  have fin:∀ (row row':Row) (cs us:List DV),σ[r]?=some row->row.dv=some cs->row'.dv=some (QS cs off us)->off+us.length<=cs.length->vs.length=us.length->
    (∀ j (h1:j<us.length) (h2:j<vs'.size),VRel L M us[j] vs'[j])->(∀ x∈vs'.toList,x.oneCell'=true)->
    ∃ w',(storeCells ⟨l.b,l.o+off,none⟩ vs'.toList).run P w=.ok () w'/\Post lo σ L M w (σ.set r row') L M w':=by
   intro row row' cs us hr hd hd' hle hvl hrel hone
   have ha:At σ L r row l:=⟨hr,by rw [(VW hd).2.1]; exact hl⟩
   obtain ⟨hp,hth⟩:=write_row (vs':=vs'.toList) hs hlo ha hd hd' hle (by simp; omega) (fun j h1 h2=>by simpa using hrel j h1 (by simpa using h2))
   refine ⟨_,?_,hp⟩
   have hst:=run_storeCells_cells (P:=P) l.b (l.o+off) vs'.toList 0 w (fun j hj=>by simpa using (hth j (by simp at hj; omega)).1) (fun j hj=>by simpa using (hth j (by simp at hj; omega)).2) hone
   simpa only [Nat.add_zero] using hst
  split at h
  ·rename_i cs hr
   split at h
   ·rename_i hall
    injection h with h; subst h
    simp only [Bool.and_eq_true,decide_eq_true_eq] at hall
    refine fin _ _ cs vs hr rfl rfl hall.1 rfl hcv (fun x hx=>?_)
    obtain ⟨j,hj,rfl⟩:=List.getElem_of_mem hx
    have hj':j<vs'.size:=by simpa using hj
    have h1:=hcv j (by omega) hj'
    have h2:=List.all_eq_true.1 hall.2 _ (List.getElem_mem (show j<vs.length by omega))
    simpa using h1.one h2
   ·exact absurd h (by simp)
  ·rename_i cs hr
   split at h
   ·rename_i ps hps
    split at h
    ·rename_i hle
     injection h with h; subst h
     obtain ⟨hpl,hpe⟩:=pures_ok hps
     have hpr:∀ j (h1:j<ps.length) (h2:j<vs'.size),PRel M ps[j] vs'[j]:=fun j h1 h2=>(hcv j (by omega) h2).pure (hpe j (by omega) h1)
     refine fin _ _ (cs.map .p) (ps.map .p) hr rfl (by simp [Row.dv,splice_map]) (by simp; omega) (by simp; omega) (fun j h1 h2=>by simp at h1; simpa using VRel.p (hpr j h1 h2)) (fun x hx=>?_)
     obtain ⟨j,hj,rfl⟩:=List.getElem_of_mem hx
     have hj':j<vs'.size:=by simpa using hj
     simpa using (hpr j (by omega) hj').oneCell
    ·exact absurd h (by simp)
   ·exact absurd h (by simp)
  ·exact absurd h (by simp)
 ·exact absurd h (by simp)
end Go.D
end
/- New blocks and new rows. -/
section
set_option linter.unusedVariables false
set_option linter.unusedSimpArgs false
namespace Go.D
variable {P : Program} {t : TypeId} {σ σ' : Qa} {L : Locs} {M : Mem} {w : World}
theorem SRel.grow {M':Mem} {w':World} (h:SRel σ L M w) (hw:Frm (fun _ _=>False) (fun _=>False) w w') (hM:M.le M')
  (hMn:∀ b o v,M' b o=some v->M b o=some v\/(w'.cell? ⟨b,o,none⟩=some v/\∀ r row l,At σ L r row l->row.owns=true->¬ l.has b o)):SRel σ L M' w':=by
 refine ⟨h.fresh,h.ver,fun b o v hv=>?_,fun r row l ha=>?_,fun r row l ha ho o hl=>?_,h.disj,h.maps,fun r row l ha ho b o hl=>?_⟩
 ·rcases hMn b o v hv with h1 | h1
  ·exact hw.cell (h.mem b o v h1) (fun h=>h)
  ·exact h1.1
 ·have hr:=h.row r row l ha
  cases row with
  | arr cs=>exact ⟨hr.1,hr.2.mono (Locs.le_refl _) hM fun j v hj hc=>hw.cell hc (fun h=>h)⟩
  | mix cs=>exact ⟨hr.1,hr.2.mono (Locs.le_refl _) hM fun j v hj hc=>hw.cell hc (fun h=>h)⟩
  | tok v=>exact hr
  | map es=>
   obtain ⟨vs,clock,h1,h2,h3⟩:=hr
   exact ⟨vs,clock,hw.map h1 (fun h=>h),h2,fun j h4 h5=>⟨(h3 j h4 h5).1.mono (Locs.le_refl _) hM,(h3 j h4 h5).2.mono (Locs.le_refl _) hM⟩⟩
  | dead=>trivial
 ·obtain ⟨h1,h2⟩:=h.own r row l ha ho o hl
  obtain ⟨h3,h4⟩:=hw.there h1
  exact ⟨h3,h4.trans h2⟩
 ·cases hx:M' b o with
  | none=>rfl
  | some v=>
   exfalso
   rcases hMn b o v hx with h1 | h1
   ·rw [h.away r row l ha ho b o hl] at h1; exact absurd h1 (by simp)
   ·exact h1.2 r row l ha ho hl
theorem SRel.block_lt (h:SRel σ L M w) {b o:Nat} {v:Value} (hm:M b o=some v):b<w.heap.size:=World.block_lt_of_cell? w _ (h.mem b o v hm)
theorem SRel.own_lt (h:SRel σ L M w) {r:Nat} {row:Row} {l:Loc} (ha:At σ L r row l) (ho:row.owns=true) {b o:Nat} (hl:l.has b o):b<w.heap.size:=by
 obtain ⟨⟨v,hv⟩,_⟩:=h.own r row l ha ho o ⟨rfl,hl.2⟩
 rw [<-hl.1]
 exact World.block_lt_of_cell? w _ hv
theorem SRel.map_lt (h:SRel σ L M w) {r:Nat} {es:List (DV×DV)} {l:Loc} (ha:At σ L r (.map es) l):l.b<w.heap.size:=by
 obtain ⟨vs,clock,h1,_⟩:=h.row r _ l ha
 exact (Array.getElem?_eq_some_iff.1 h1).1
def Mem.ext (M:Mem) (b:Nat) (vs:Array Value) (k:Nat):Mem:=fun b' o=>if b'=b/\o<k then vs[o]? else M b' o
def Locs.upd (L:Locs) (r k:Nat) (l:Loc):Locs:=fun r' k'=>if r'=r/\k'=k then some l else L r' k'
theorem Mem.le_ext (h:SRel σ L M w) (vs:Array Value) (k:Nat):M.le (M.ext w.heap.size vs k):=by
 intro b o v hv
 have:=h.block_lt hv
 simp only [Mem.ext]
 rw [if_neg (by omega)]
 exact hv
theorem cell_new (w:World) (vs:Array Value) (e:TypeId) (o:Nat):(w.alloc (.cells vs e)).cell? ⟨w.heap.size,o,none⟩=vs[o]?:=World.cell?_alloc_new w vs e o
theorem frozen_new (w:World) (vs:Array Value) (e:TypeId) (o:Nat):(w.alloc (.cells vs e)).frozen? ⟨w.heap.size,o,none⟩=false:=World.frozen?_alloc_new w vs e o
theorem grow_alloc (h:SRel σ L M w) (vs:Array Value) (e:TypeId) (k:Nat):SRel σ L (M.ext w.heap.size vs k) (w.alloc (.cells vs e)):=by
 refine h.grow (Frm.alloc _ _ _ _) (Mem.le_ext h vs k) fun b o v hv=>?_
 simp only [Mem.ext] at hv
 split at hv
 ·rename_i hb
  obtain ⟨rfl,_⟩:=hb
  refine .inr ⟨by rw [cell_new]; exact hv,fun r row l ha ho hl=>?_⟩
  have:=h.own_lt ha ho hl
  omega
 ·exact .inl hv
theorem post_block (lo:Nat) (h:SRel σ L M w) (vs:Array Value) (e:TypeId) (k:Nat):Post lo σ L M w σ L (M.ext w.heap.size vs k) (w.alloc (.cells vs e)):=
 ⟨grow_alloc h vs e k,Locs.le_refl _,Mem.le_ext h vs k,Nat.le_refl _,fun _ _ _=>rfl,fun _ _ _ _=>rfl,Frm.alloc _ _ _ _,fun b o v hv=>by
  simp only [Mem.ext] at hv
  split at hv
  ·rename_i hb; exact .inr (.inl (by omega))
  ·exact .inl hv,fun _ _ h=>.inl h,fun _ h=>.inl h⟩
theorem post_row (lo:Nat) (h:SRel σ L M w) (vs:Array Value) (e:TypeId) (k:Nat) (row:Row) (l:Loc) (ho:row.owns=true) (hb:l.b=w.heap.size) (hk:k<=l.o) (hs:l.o+l.n+l.s<=vs.size)
  (hrow:RowRel (L.upd σ.length row.ver l) (M.ext w.heap.size vs k) (w.alloc (.cells vs e)) l row) :
  Post lo σ L M w (σ++[row]) (L.upd σ.length row.ver l) (M.ext w.heap.size vs k) (w.alloc (.cells vs e)):=by
 have hle:L.le (L.upd σ.length row.ver l):=by
  intro r k l' hl'
  simp only [Locs.upd]
  rw [if_neg]
  ·exact hl'
  ·rintro ⟨rfl,_⟩
   rw [h.fresh _ _ (Nat.le_refl _)] at hl'
   exact absurd hl' (by simp)
 have hfar:∀ {r row l'},At σ L r row l'->row.owns=true->∀ b o,l'.has b o->b≠w.heap.size:=fun ha ho b o hl=>by have:=h.own_lt ha ho hl; omega
 have hsr:SRel (σ++[row]) (L.upd σ.length row.ver l) (M.ext w.heap.size vs k) (w.alloc (.cells vs e)):=by
  refine (grow_alloc h vs e k).put σ.length row l (C:=fun _ _=>False) (m:=fun _=>False) (fun r hr=>?_) (by simp) (fun r k hr=>by simp [Locs.upd,hr]) (by simp [Locs.upd]) hle (fun v hv k hk=>?_)
   (Mem.le_refl _) (fun _ _ _ h=>.inl h) (Frm.refl _ _ _) (fun _ _ h=>h.elim) (fun _ _ _ _ _ _ _ _ _ h=>h.elim) (fun _ _ _ _ _ h=>h.elim) hrow (fun _ o hl=>?_) (fun _ r row1 l1 hne ha ho1 b o hl hl0=>?_) (fun _ b o hl=>?_)
   (fun es he=>by subst he; simp [Row.owns] at ho)
  ·rcases Nat.lt_or_ge r σ.length with h1 | h1
   ·rw [List.getElem?_append_left h1]
   ·rw [List.getElem?_eq_none (by simp; omega),List.getElem?_eq_none (by omega)]
  ·subst hv
   simp only [Locs.upd,Row.ver]
   rw [if_neg (by omega)]
   exact h.fresh _ _ (Nat.le_refl _)
  ·rw [hb,cell_new,frozen_new]
   refine ⟨⟨_,Array.getElem?_eq_getElem (by have:=hl.2.2; omega)⟩,rfl⟩
  ·have:=hfar ha ho1 b o hl
   have:=hl0.1
   omega
  ·have:=hl.1
   have h2:=hl.2.1
   simp only [Mem.ext]
   rw [if_neg (by omega)]
   cases hx:M b o with
   | none=>rfl
   | some v=>have:=h.block_lt hx; omega
 have hold:∀ {r row1 l1},At (σ++[row]) (L.upd σ.length row.ver l) r row1 l1->(r=σ.length/\row1=row/\l1=l)\/At σ L r row1 l1:=by
  intro r row1 l1 ha
  rcases Nat.lt_trichotomy r σ.length with h1 | h1 | h1
  ·right
   refine ⟨by have:=ha.1; rwa [List.getElem?_append_left h1] at this,?_⟩
   have:=ha.2
   simp only [Locs.upd] at this
   rwa [if_neg (by omega)] at this
  ·left
   subst h1
   have e1:=ha.1
   simp at e1
   subst e1
   have e2:=ha.2
   simp [Locs.upd] at e2
   exact ⟨rfl,rfl,e2.symm⟩
  ·have:=ha.1
   rw [List.getElem?_eq_none (by simp; omega)] at this
   exact absurd this (by simp)
 refine ⟨hsr,hle,Mem.le_ext h vs k,by simp,fun r h1 h2=>List.getElem?_append_left h2,fun r k h1 h2=>by simp only [Locs.upd]; rw [if_neg (by omega)],Frm.alloc _ _ _ _,(post_block lo h vs e k).mnew,fun b o hw=>?_,fun b hw=>?_⟩
 ·obtain ⟨r1,row1,l1,h1,h2,h3,h4⟩:=hw
  rcases hold h2 with ⟨_,_,rfl⟩ | h5
  ·exact .inr (by have:=h4.1; omega)
  ·exact .inl ⟨r1,row1,l1,h1,h5,h3,h4⟩
 ·obtain ⟨r1,es,l1,h1,h2,h3⟩:=hw
  rcases hold h2 with ⟨_,h5,_⟩ | h5
  ·subst h5; simp [Row.owns] at ho
  ·exact .inl ⟨r1,es,l1,h1,h5,h3⟩
theorem post_cells (lo:Nat) (h:SRel σ L M w) (vs:Array Value) (e:TypeId) (row:Row) (cs:List DV) (s:Nat) (hd:row.dv=some cs) (hn:cs.length+s=vs.size)
  (hv:∀ j (h1:j<cs.length) (h2:j<vs.size),VRel L M cs[j] vs[j]) :
  Post lo σ L M w (σ++[row]) (L.upd σ.length 0 ⟨w.heap.size,0,cs.length,s⟩) (M.ext w.heap.size vs 0) (w.alloc (.cells vs e)):=by
 obtain ⟨ho,hv0,hnt,hnm⟩:=VW hd
 have hp:=post_row lo h vs e 0 row ⟨w.heap.size,0,cs.length,s⟩ ho rfl (Nat.le_refl _) (by simp only []; omega)
 rw [hv0] at hp
 refine hp ((rowRel_dv hd).2 ⟨rfl,fun j hj=>?_⟩)
 refine ⟨vs[j]'(by omega),by simp only [Nat.zero_add]; rw [cell_new]; exact Array.getElem?_eq_getElem _,(hv j hj (by omega)).mono ?_ (Mem.le_ext h vs 0)⟩
 intro r k l' hl'
 simp only [Locs.upd]
 rw [if_neg]
 ·exact hl'
 ·rintro ⟨rfl,_⟩
  rw [h.fresh _ _ (Nat.le_refl _)] at hl'
  exact absurd hl' (by simp)
theorem zero_rel {z:List DV} (h:Qx P t=some z) (w:World):∃ v,(zeroValue t).run P w=.ok v w/\v.cells.size=z.length/\∀ j (h1:j<z.length) (h2:j<v.cells.size),VRel L M z[j] v.cells[j]:=by
 unfold Qx at h
 split at h
 ·rename_i v hv
  injection h with h; subst h
  obtain ⟨i,hi,hz⟩:=Option.bind_eq_some_iff.1 hv
  refine ⟨v,by simp [zeroValue,typeInfo,hi,hz],?_⟩
  have hr:=cst_rel (L:=L) (M:=M) v
  by_cases hu:cst v=.undef
  ·have e1:v.cells.size=1:=by
    unfold cst at hu
    split at hu
    ·exact absurd hu (by simp)
    ·rename_i hna
     cases v <;> first | rfl | exact absurd rfl (hna _)
   rw [hu]
   refine ⟨e1,fun j h1 h2=>?_⟩
   simp [DV.cells] at h1
   subst h1
   exact .undef _
  ·exact hr.cells hu
 ·exact absurd h (by simp)
theorem Wb (e:TypeId) (vs:Array Value) (w:World):(Go.newRow e vs).run P w=.ok ⟨w.heap.size,0,none⟩ (w.alloc (.cells vs e)):=by
 simp [Go.newRow,newObj,Sem.run]
theorem alloc_ok (lo:Nat) (hs:SRel σ L M w) {z:List DV} (h:Qx P t=some z) :
  ∃ v w' L' M',(Instr.alloc t true (.tuple #[])).run P w=.ok v w'/\Post lo σ L M w (σ++[.mix z]) L' M' w'/\VRel L' M' (.ptr σ.length 0) v:=by
 obtain ⟨v,hr,hn,hv⟩:=zero_rel (L:=L) (M:=M) h w
 refine ⟨.pointer (some ⟨w.heap.size,0,none⟩),_,_,_,?_,post_cells lo hs v.cells t (.mix z) z 0 rfl (by omega) (fun j h1 h2=>hv j h1 h2),?_⟩
 ·simp [Instr.alloc,hr,newVar,Wb]
 ·exact VRel.ptr (l:=⟨w.heap.size,0,z.length,0⟩) (by simp [Locs.upd])
theorem box_ok (lo:Nat) (hs:SRel σ L M w) {x:DV} {x':Value} (h:x.cells.all DV.one=true) (hx:VRel L M x x') :
  ∃ v w' L' M',(Instr.box t x').run P w=.ok v w'/\Post lo σ L M w (σ++[.mix x.cells]) L' M' w'/\VRel L' M' (.ptr σ.length 0) v:=by
 have hu:x≠.undef:=by rintro rfl; simp [DV.cells,DV.one] at h
 obtain ⟨hn,hv⟩:=hx.cells hu
 refine ⟨.pointer (some ⟨w.heap.size,0,none⟩),_,_,_,?_,post_cells lo hs x'.cells t (.mix x.cells) x.cells 0 rfl (by omega) (fun j h1 h2=>hv j h1 h2),?_⟩
 ·simp [Instr.box,newVar,Wb]
 ·exact VRel.ptr (l:=⟨w.heap.size,0,x.cells.length,0⟩) (by simp [Locs.upd])
end Go.D
end
/- Literals, make. -/
section
set_option linter.unusedVariables false
set_option linter.unusedSimpArgs false
namespace Go.D
variable {P : Program} {t : TypeId} {σ σ' : Qa} {L : Locs} {M : Mem} {w : World}
theorem foldl_set (off:Nat):∀ (l:List Value) (k:Nat) (cs:Array Value),off+k+l.length<=cs.size->
  ((l.zipIdx k).foldl (fun (cs:Array Value) (q:Value×Nat)=>cs.setIfInBounds (off+q.2) q.1) cs).size=cs.size/\
  ∀ j,((l.zipIdx k).foldl (fun (cs:Array Value) (q:Value×Nat)=>cs.setIfInBounds (off+q.2) q.1) cs)[j]?=if off+k<=j/\j<off+k+l.length then l[j-(off+k)]? else cs[j]?
 | [],k,cs,h=>⟨rfl,fun j=>by simp only [List.zipIdx_nil,List.foldl_nil,List.length_nil]; rw [if_neg (by omega)]⟩
 | v::l,k,cs,h=>by
  simp only [List.length_cons] at h
  obtain ⟨h1,h2⟩:=foldl_set off l (k+1) (cs.setIfInBounds (off+k) v) (by simp; omega)
  simp only [List.zipIdx_cons,List.foldl_cons]
  refine ⟨by rw [h1]; simp,fun j=>?_⟩
  rw [h2 j]
  simp only [List.length_cons]
  by_cases hj:off+(k+1)<=j/\j<off+(k+1)+l.length
  ·rw [if_pos hj,if_pos (by omega)]
   rw [show j-(off+k)=(j-(off+(k+1)))+1 by omega]
   simp
  ·rw [if_neg hj]
   by_cases hj2:j=off+k
   ·subst hj2
    rw [if_pos (by omega),Array.getElem?_setIfInBounds_self,if_pos (by omega)]
    simp
   ·rw [if_neg (by omega)]
    rw [Array.getElem?_setIfInBounds_ne (by omega)]
theorem fill_ok {place place':Nat->Option (Nat×Nat)} (hp:∀ i q,place i=some q->place' i=some q):∀ (parts:List (Nat×DV)) (parts':List (Nat×Value)) (cs r:List DV) (vs:Array Value),fill place cs parts=some r->
  parts'.length=parts.length->(∀ j (h1:j<parts.length) (h2:j<parts'.length),parts'[j].1=parts[j].1/\VRel L M parts[j].2 parts'[j].2)->vs.size=cs.length->(∀ j (h1:j<cs.length) (h2:j<vs.size),VRel L M cs[j] vs[j])->
  ∃ rs,Instr.fill place' vs parts'=some rs/\rs.size=r.length/\r.length=cs.length/\∀ j (h1:j<r.length) (h2:j<rs.size),VRel L M r[j] rs[j]
 | [],[],cs,r,vs,h,_,_,hn,hv=>by
  simp only [fill,Option.some.injEq] at h
  subst h
  exact ⟨vs,rfl,hn,rfl,hv⟩
 | (i,v)::parts,(i',v')::parts',cs,r,vs,h,hl,hr,hn,hv=>by
  obtain ⟨e0,hvv⟩:=hr 0 (by simp) (by simp)
  simp only [List.getElem_cons_zero] at e0 hvv
  subst e0
  simp only [fill] at h
  split at h
  ·exact absurd h (by simp)
  ·rename_i off sz hpl
   split at h
   ·rename_i hc
    obtain ⟨hc0,hc1,hc2⟩:=hc
    have hu:v≠.undef:=by rintro rfl; simp [DV.isUndef] at hc0
    ·obtain ⟨hcn,hcv⟩:=hvv.cells hu
     have hfs:=foldl_set off v'.cells.toList 0 vs (by simp; omega)
     obtain ⟨hs1,hs2⟩:=hfs
     have:=fill_ok hp parts parts' (QS cs off v.cells) r (v'.cells.zipIdx.foldl (fun cs (q:Value×Nat)=>cs.setIfInBounds (off+q.2) q.1) vs) h (by simpa using hl)
      (fun j h1 h2=>by have:=hr (j+1) (by simpa using h1) (by simpa using h2); simpa only [List.getElem_cons_succ] using this) ?_ ?_
     ·obtain ⟨rs,h1,h2,h3,h4⟩:=this
      refine ⟨rs,?_,h2,by rw [h3,ZJ _ _ _ hc2],h4⟩
      have hpl':=hp _ _ hpl
      simp only [Instr.fill,hpl']
      rw [if_neg (by simp; omega)]
      exact h1
     ·rw [ZJ _ _ _ hc2,<-hn,<-Array.foldl_toList,Array.toList_zipIdx]
      exact hs1
     ·intro j h1 h2
      rw [splice_getElem hc2 h1]
      have e:=hs2 j
      rw [<-Array.toList_zipIdx,Array.foldl_toList] at e
      rw [Array.getElem?_eq_getElem h2] at e
      rw [ZJ _ _ _ hc2] at h1
      by_cases hj:off<=j/\j<off+v.cells.length
      ·rw [if_pos (by simp; omega)] at e
       rw [dif_pos hj]
       have e2:v'.cells.toList[j-(off+0)]?=some (v'.cells[j-off]'(by omega)):=by
        rw [Nat.add_zero]
        simp
       rw [e2] at e
       injection e with e
       rw [e]
       exact hcv _ _ _
      ·rw [if_neg (by simp; omega)] at e
       rw [dif_neg hj]
       rw [Array.getElem?_eq_getElem (by omega)] at e
       injection e with e
       rw [e]
       exact hv _ _ _
   ·exact absurd h (by simp)
theorem Vh {z:List DV} (h:Qx P t=some z):∃ i zv,P.info? t=some i/\i.zero=some zv/\zv.cells.size=z.length/\∀ j (h1:j<z.length) (h2:j<zv.cells.size),VRel L M z[j] zv.cells[j]:=by
 obtain ⟨v,hr,h1,h2⟩:=zero_rel (L:=L) (M:=M) h default
 unfold Qx at h
 split at h
 ·rename_i v' hv
  obtain ⟨i,hi,hz⟩:=Option.bind_eq_some_iff.1 hv
  have:v=v':=by
   simp [zeroValue,typeInfo,hi,hz] at hr
   exact hr.symm
  subst this
  exact ⟨i,v,hi,hz,h1,h2⟩
 ·exact absurd h (by simp)
theorem same_build {parts:List (Nat×DV)} {parts':Array (Nat×Value)} {r:DV} (h:build P t parts=some r) (hl:parts'.size=parts.length)
  (hr:∀ j (h1:j<parts.length) (h2:j<parts'.size),parts'[j].1=parts[j].1/\VRel L M parts[j].2 parts'[j].2) (w:World):Same P (Instr.build t parts') w (VRel L M r):=by
 have hl':parts'.toList.length=parts.length:=by simpa using hl
 have hr':∀ j (h1:j<parts.length) (h2:j<parts'.toList.length),parts'.toList[j].1=parts[j].1/\VRel L M parts[j].2 parts'.toList[j].2:=fun j h1 h2=>by simpa using hr j h1 (by simpa using h2)
 unfold build at h
 split at h
 ·rename_i fs z hu hz
  obtain ⟨i,zv,hi,hzv,hzn,hzr⟩:=Vh (L:=L) (M:=M) hz
  split at h
  ·rename_i places hp
   obtain ⟨q,hq,rfl⟩:=Option.map_eq_some_iff.1 h
   obtain ⟨rs,h1,h2,h3,h4⟩:=fill_ok (place':=(places.toArray[·]?)) (fun i q hq=>by simpa using hq) parts parts'.toList z q zv.cells hq hl' hr' hzn hzr
   refine ⟨_,run_build w t parts' rs ?_,.agg h2 h4⟩
   simp only [Program.built,hi,hu,hzv,hp]
   exact h1
  ·exact absurd h (by simp)
 ·rename_i n e z hu hz
  obtain ⟨i,zv,hi,hzv,hzn,hzr⟩:=Vh (L:=L) (M:=M) hz
  split at h
  ·rename_i sz hsz
   obtain ⟨q,hq,rfl⟩:=Option.map_eq_some_iff.1 h
   obtain ⟨ie,hie,rfl⟩:=Option.map_eq_some_iff.1 hsz
   obtain ⟨rs,h1,h2,h3,h4⟩:=fill_ok (place':=fun i=>some (i*ie.size,ie.size)) (fun i q hq=>hq) parts parts'.toList z q zv.cells hq hl' hr' hzn hzr
   refine ⟨_,run_build w t parts' rs ?_,.agg h2 h4⟩
   simp only [Program.built,hi,hu,hzv,hie]
   exact h1
  ·exact absurd h (by simp)
 ·exact absurd h (by simp)
theorem Wn {α:Type} (z:List α) (n:Nat):(dups z n).length=n*z.length:=by
 induction n with
 | zero=>simp [dups]
 | succ n ih=>simp [dups,ih,Nat.add_mul]; omega
theorem dups_getElem {α:Type} (z:List α) (n j:Nat) (h:j<(dups z n).length):∃ h':j % z.length<z.length,(dups z n)[j]=z[j % z.length]:=by
 have hz:0<z.length:=by
  rw [Wn] at h
  rcases Nat.eq_zero_or_pos z.length with h0 | h0
  ·rw [h0] at h; simp at h
  ·exact h0
 refine ⟨Nat.mod_lt _ hz,?_⟩
 induction n generalizing j with
 | zero=>simp [dups] at h
 | succ n ih=>
  simp only [dups]
  by_cases hj:j<z.length
  ·rw [List.getElem_append_left hj]
   simp only [Nat.mod_eq_of_lt hj]
  ·rw [List.getElem_append_right (by omega)]
   have:=ih (j-z.length) (by rw [Wn] at h ⊢; rw [Nat.add_mul] at h; omega)
   rw [this]
   congr 1
   rw [<-Nat.mod_eq_sub_mod (by omega)]
def Ub (zv:Array Value) (n:Nat):Array Value:=(Array.range n).map fun j=>zv[j % zv.size]!
theorem zeros_rel {z:List DV} {zv:Array Value} (hzn:zv.size=z.length) (hzr:∀ j (h1:j<z.length) (h2:j<zv.size),VRel L M z[j] zv[j]) (n:Nat) :
  (Ub zv (n*z.length)).size=(dups z n).length/\∀ j (h1:j<(dups z n).length) (h2:j<(Ub zv (n*z.length)).size),VRel L M (dups z n)[j] (Ub zv (n*z.length))[j]:=by
 refine ⟨by simp [Ub,Wn],fun j h1 h2=>?_⟩
 obtain ⟨h',e⟩:=dups_getElem z n j h1
 rw [e]
 simp only [Ub,Array.getElem_map,Array.getElem_range]
 have hlt:j % zv.size<zv.size:=by rw [hzn]; exact h'
 rw [getElem!_pos zv _ hlt]
 simp only [hzn]
 exact hzr _ _ _
theorem newRow_ok {mixed:Bool} {cs:List DV} {row:Row} (h:D.newRow mixed cs=some row) {vs:Array Value} (hn:vs.size=cs.length) (hv:∀ j (h1:j<cs.length) (h2:j<vs.size),VRel L M cs[j] vs[j]) :
  ∃ ds,row.dv=some ds/\ds.length=cs.length/\∀ j (h1:j<ds.length) (h2:j<vs.size),VRel L M ds[j] vs[j]:=by
 unfold D.newRow at h
 split at h
 ·injection h with h; subst h
  exact ⟨cs,rfl,rfl,hv⟩
 ·obtain ⟨ps,hp,rfl⟩:=Option.map_eq_some_iff.1 h
  obtain ⟨hl,he⟩:=pures_ok hp
  exact ⟨ps.map .p,rfl,by simp [hl],fun j h1 h2=>by simp at h1; simpa using VRel.p ((hv j (by omega) h2).pure (he j (by omega) h1))⟩
theorem buildSlice_ok (lo:Nat) (hs:SRel σ L M w) {parts:List (Nat×DV)} {parts':Array (Nat×Value)} {r:DV} {asRow:Option Bool} {n:Nat} (h:buildSlice P asRow t n parts σ=some (r,σ')) (hl:parts'.size=parts.length)
  (hr:∀ j (h1:j<parts.length) (h2:j<parts'.size),parts'[j].1=parts[j].1/\VRel L M parts[j].2 parts'[j].2) :
  ∃ v w' L' M',(Instr.buildSlice t n parts').run P w=.ok v w'/\Post lo σ L M w σ' L' M' w'/\VRel L' M' r v:=by
 have hl':parts'.toList.length=parts.length:=by simpa using hl
 have hr':∀ j (h1:j<parts.length) (h2:j<parts'.toList.length),parts'.toList[j].1=parts[j].1/\VRel L M parts[j].2 parts'.toList[j].2:=fun j h1 h2=>by simpa using hr j h1 (by simpa using h2)
 unfold buildSlice at h
 split at h
 ·rename_i e hu
  split at h
  ·rename_i sz z hsz hz
   split at h
   ·rename_i hc
    obtain ⟨rfl,hsmall⟩:=hc
    obtain ⟨i,zv,hi,hzv,hzn,hzr⟩:=Vh (L:=L) (M:=M) hz
    obtain ⟨hz1,hz2⟩:=zeros_rel (L:=L) (M:=M) hzn hzr n
    split at h
    ·rename_i cs hf
     obtain ⟨rs,h1,h2,h3,h4⟩:=fill_ok (place':=fun i=>some (i*z.length,z.length)) (fun i q hq=>hq) parts parts'.toList (dups z n) cs (Ub zv.cells (n*z.length)) hf hl' hr' hz1 hz2
     have hcl:cs.length=n*z.length:=by rw [h3,Wn]
     have hrun:(Instr.buildSlice t n parts').run P w=.ok (.slice (some ⟨w.heap.size,0,none⟩) n n) (w.alloc (.cells rs e)):=by
      have h24:¬ (n*z.length>2 ^ 24):=by omega
      simp only [Instr.buildSlice,Sem.run_bind,run_underlying hu,Result.andThen_ok,Zl hsz,if_neg h24]
      by_cases h0:n*z.length=0
      ·rw [if_pos h0]
       have hze:Array.map (fun x=>(#[]:Array Value)[x % (#[]:Array Value).size]!) (Array.range (n*z.length))=Ub zv.cells (n*z.length):=by rw [h0]; simp [Ub]
       simp only [Sem.run_bind,Sem.run_pure,Result.andThen_ok,hze,h1,Wb]
      ·rw [if_neg h0]
       have hze:Array.map (fun x=>zv.cells[x % zv.cells.size]!) (Array.range (n*z.length))=Ub zv.cells (n*z.length):=rfl
       simp only [zeroValue,typeInfo,hi,hzv,run_program,Sem.run_bind,Sem.run_pure,Result.andThen_ok,hze,h1,Wb]
     split at h
     ·obtain ⟨ps,hp,he⟩:=Option.map_eq_some_iff.1 h
      injection he with he1 he2
      subst he1; subst he2
      obtain ⟨hpl,hpe⟩:=pures_ok hp
      refine ⟨_,_,_,_,hrun,post_block lo hs rs e rs.size,.p (.sl (fun j=>rs.getD j undef) (fun _=>rfl) (Nat.le_refl _) (fun _=>rfl) (fun j hj=>?_) fun j hj=>?_)⟩
      ·show (if w.heap.size=w.heap.size/\0+j<rs.size then rs[0+j]? else M w.heap.size (0+j))=_
       rw [if_pos ⟨rfl,by omega⟩]
       simp only [Nat.zero_add]
       rw [Array.getElem?_eq_getElem (by omega)]
       simp [show j<rs.size by omega]
      ·have:=((h4 j (by omega) (by omega)).pure (hpe j (by omega) hj)).mono (Mem.le_ext hs rs rs.size)
       simpa [show j<rs.size by omega] using this
     ·rename_i mixed
      obtain ⟨row,hp,he⟩:=Option.map_eq_some_iff.1 h
      injection he with he1 he2
      subst he1; subst he2
      obtain ⟨ds,hd,hdl,hdv⟩:=newRow_ok hp h2 h4
      refine ⟨_,_,_,_,hrun,post_cells lo hs rs e row ds 0 hd (by omega) hdv,?_⟩
      exact VRel.rsl (l:=⟨w.heap.size,0,ds.length,0⟩) (by simp [Locs.upd]) (Nat.le_refl _) rfl (.inr ⟨rfl,rfl,by simp only []; omega,by simp only []; omega⟩)
    ·exact absurd h (by simp)
   ·exact absurd h (by simp)
  ·exact absurd h (by simp)
 ·exact absurd h (by simp)
theorem pbox_ok (lo:Nat) (hs:SRel σ L M w) {x:DV} {x':Value} {ps:List PV} (h:Vg x.cells=some ps) (hx:VRel L M x x') :
  ∃ v w' L' M',(Instr.box t x').run P w=.ok v w'/\Post lo σ L M w σ L' M' w'/\VRel L' M' (.pptr ps 0) v:=by
 have hu:x≠.undef:=by rintro rfl; simp [DV.cells,Vg,DV.pure?] at h
 obtain ⟨hn,hv⟩:=hx.cells hu
 obtain ⟨hpl,hpe⟩:=pures_ok h
 refine ⟨.pointer (some ⟨w.heap.size,0,none⟩),_,_,_,?_,post_block lo hs x'.cells t x'.cells.size,.pptr (o:=0) (fun j=>x'.cells.getD j undef) (fun j hj=>?_) fun j hj=>?_⟩
 ·simp [Instr.box,newVar,Wb]
 ·show (if w.heap.size=w.heap.size/\0+j<x'.cells.size then x'.cells[0+j]? else M w.heap.size (0+j))=_
  rw [if_pos ⟨rfl,by omega⟩]
  simp only [Nat.zero_add]
  rw [Array.getElem?_eq_getElem (by omega)]
  simp [show j<x'.cells.size by omega]
 ·have:=((hv j (by omega) (by omega)).pure (hpe j (by omega) hj)).mono (Mem.le_ext hs x'.cells x'.cells.size)
  simpa [show j<x'.cells.size by omega] using this
theorem frm_bytes (w:World) (e:TypeId) (s:ByteArray):Frm (fun _ _=>False) (fun _=>False) w (Go.Lib.bytesWorld w e s):=
 ⟨by rw [Go.Lib.bytesWorld_size]; omega,rfl,rfl,rfl,fun b hb=>by rw [Go.Lib.bytesWorld_at_old w e s b hb]; exact ObjKept.refl _ _ _⟩
theorem convert_ok (lo:Nat) (hs:SRel σ L M w) {src dst:TypeId} {x r:DV} {x':Value} (h:convert P src dst x=some r) (hx:VRel L M x x') :
  ∃ v w' L' M',(Go.convert src dst x').run P w=.ok v w'/\Post lo σ L M w σ L' M' w'/\VRel L' M' r v:=by
 unfold convert at h
 split at h
 ·rename_i hs' hd
  cases Wd hx
  injection h with h; subst h
  refine ⟨_,w,L,M,?_,Post.refl lo hs,.p (by constructor)⟩
  simp [Go.convert,run_underlying hs',run_underlying hd,Conv.intToInt]
 ·rename_i hs' hd
  cases Vc hx
  injection h with h; subst h
  refine ⟨_,w,L,M,?_,Post.refl lo hs,.p (by constructor)⟩
  simp [Go.convert,run_underlying hs',run_underlying hd]
 ·rename_i e s hs' hd
  split at h
  ·rename_i he
   cases Vc hx
   injection h with h; subst h
   have hle:M.le (M.ext w.heap.size (Go.Lib.bytesCells w e s) s.size):=Mem.le_ext hs _ _
   have hcs:s.size<=(Go.Lib.bytesCells w e s).size:=by
    simp [Go.Lib.bytesCells]
   have hlen:(bytesPV s).length=s.size:=by simp [bytesPV]
   have hcell:∀ j,j<s.size->(Go.Lib.bytesWorld w e s).cell? ⟨w.heap.size,j,none⟩=(Go.Lib.bytesCells w e s)[j]?:=fun j hj=>by
    simp [World.cell?,Go.Lib.bytesWorld_at_new]
   have hsr:SRel σ L (M.ext w.heap.size (Go.Lib.bytesCells w e s) s.size) (Go.Lib.bytesWorld w e s):=by
    refine hs.grow (frm_bytes w e s) hle fun b o v hv=>?_
    simp only [Mem.ext] at hv
    split at hv
    ·rename_i hb
     obtain ⟨rfl,ho⟩:=hb
     refine .inr ⟨by rw [hcell o ho]; exact hv,fun r row l ha ho hl=>?_⟩
     have:=hs.own_lt ha ho hl
     omega
    ·exact .inl hv
   refine ⟨_,_,L,_,Go.Lib.run_convert_string_bytes w src dst e s hs' hd he,⟨hsr,Locs.le_refl _,hle,Nat.le_refl _,fun _ _ _=>rfl,fun _ _ _ _=>rfl,(frm_bytes w e s).mono (fun _ _ h=>h.elim) (fun _ h=>h.elim),fun b o v hv=>?_,fun _ _ h=>.inl h,fun _ h=>.inl h⟩,?_⟩
   ·simp only [Mem.ext] at hv
    split at hv
    ·rename_i hb; exact .inr (.inl (by omega))
    ·exact .inl hv
   ·refine .p (.sl (fun j=>(Go.Lib.bytesCells w e s).getD j undef) (fun _=>rfl) ?_ (by simp) (fun j hj=>?_) fun j hj=>?_)
    ·exact grownCap_ge w s.size 0 e
    ·rw [hlen] at hj
     show (if w.heap.size=w.heap.size/\0+j<s.size then (Go.Lib.bytesCells w e s)[0+j]? else M w.heap.size (0+j))=_
     rw [if_pos ⟨rfl,by omega⟩]
     simp only [Nat.zero_add]
     rw [Array.getElem?_eq_getElem (by omega)]
     simp [show j<(Go.Lib.bytesCells w e s).size by omega]
    ·rw [hlen] at hj
     have h1:j<s.data.size:=hj
     have e1:(Go.Lib.bytesCells w e s).getD j undef=.int .u8 (s.data[j]).toNat:=by
      simp [Go.Lib.bytesCells,Array.getD_eq_getD_getElem?,Array.getElem?_append,hj,Array.getElem?_eq_getElem h1]
     have e2:(bytesPV s)[j]'(by rw [hlen]; exact hj)=.int .u8 (s.data[j]).toNat:=by simp [bytesPV]
     rw [e1,e2]
     exact .int _ _
  ·exact absurd h (by simp)
 ·exact absurd h (by simp)
end Go.D
end
/- make, append. -/
section
set_option linter.unusedVariables false
set_option linter.unusedSimpArgs false
namespace Go.D
variable {P : Program} {t : TypeId} {σ σ' : Qa} {L : Locs} {M : Mem} {w : World}
theorem wrap_small {l:Int} (h0:0<=l) (h1:l<=140737488355328):IntKind.i64.wrap l=l:=by
 unfold IntKind.wrap IntKind.bits IntKind.signed
 simp only [Bool.true_and]
 split
 ·rename_i h; simp at h; omega
 ·omega
theorem run_askRoom (n:Nat) (w:World):(askRoom n).run P w=.ok () w:=by
 unfold askRoom; split <;> rfl
theorem post_tok (lo:Nat) (h:SRel σ L M w) (vs:Array Value) (e:TypeId) (k:Nat) (hk:k<=vs.size) (s:Nat) (hs:k+s<=vs.size) :
  Post lo σ L M w (σ++[.tok 0]) (L.upd σ.length 0 ⟨w.heap.size,k,0,s⟩) (M.ext w.heap.size vs k) (w.alloc (.cells vs e)):=
 post_row lo h vs e k (.tok 0) ⟨w.heap.size,k,0,s⟩ rfl rfl (Nat.le_refl _) (by simp only []; omega) rfl
theorem makeSlice_ok (lo:Nat) (hs:SRel σ L M w) {mixed:Bool} {l c r:DV} {l' c':Value} (h:makeSlice P mixed t l c σ=some (r,σ')) (hl:VRel L M l l') (hc:VRel L M c c') :
  ∃ v w' L' M',(Instr.makeSlice t l' c').run P w=.ok v w'/\Post lo σ L M w σ' L' M' w'/\VRel L' M' r v:=by
 unfold makeSlice at h
 split at h
 ·rename_i e l c hu
  cases Wd hl
  cases Wd hc
  split at h
  ·rename_i sz b z hsz hb hz
   split at h
   ·rename_i hcd
    obtain ⟨h0,h1,h2,h3,rfl⟩:=hcd
    obtain ⟨i,zv,hi,hzv,hzn,hzr⟩:=Vh (L:=L) (M:=M) hz
    obtain ⟨i',hi',rfl⟩:=Option.map_eq_some_iff.1 hb
    have:i'=i:=by rw [hi] at hi'; injection hi' with h; exact h.symm
    subst this
    have hwl:=wrap_small h0 (by omega)
    have hwc:=wrap_small (l:=c) (by omega) h2
    have hrun:(Instr.makeSlice t (.int .i64 l) (.int .i64 c)).run P w=.ok (.slice (some ⟨w.heap.size,0,none⟩) l.toNat c.toNat) (w.alloc (.cells (Ub zv.cells (c.toNat*z.length)) e)):=by
     have hti:(typeInfo e).run P w=.ok i' w:=by simp [typeInfo,hi]
     have hbad:((decide (c<0)||decide ((i'.bytes:Int)*c>2 ^ 48))||decide (l<0)||decide (l>c))=false:=by
      simp only [Bool.or_eq_false_iff,decide_eq_false_iff_not]
      refine ⟨⟨⟨by omega,by omega⟩,by omega⟩,by omega⟩
     simp only [Instr.makeSlice,Sem.run_bind,run_underlying hu,Result.andThen_ok,asInt,asIntOf,Sem.run_pure,hti,hwl,hwc]
     rw [if_neg (by rw [hbad]; simp)]
     simp only [Sem.run_bind,run_askRoom,Result.andThen_ok,Zl hsz]
     by_cases hn:c.toNat*z.length=0
     ·rw [if_pos hn]
      have hze:Array.map (fun x=>(#[]:Array Value)[x % (#[]:Array Value).size]!) (Array.range (c.toNat*z.length))=Ub zv.cells (c.toNat*z.length):=by rw [hn]; simp [Ub]
      simp only [Sem.run_bind,Sem.run_pure,Result.andThen_ok,hze,Wb]
     ·rw [if_neg hn]
      have hze:Array.map (fun x=>zv.cells[x % zv.cells.size]!) (Array.range (c.toNat*z.length))=Ub zv.cells (c.toNat*z.length):=rfl
      simp only [zeroValue,typeInfo,hi,hzv,run_program,Sem.run_bind,Sem.run_pure,Result.andThen_ok,hze,Wb]
    obtain ⟨hz1,hz2⟩:=zeros_rel (L:=L) (M:=M) hzn hzr c.toNat
    split at h
    ·rename_i hlc
     subst hlc
     obtain ⟨row,hr,he⟩:=Option.map_eq_some_iff.1 h
     injection he with he1 he2
     subst he1; subst he2
     obtain ⟨ds,hd,hdl,hdv⟩:=newRow_ok hr hz1 hz2
     have hdn:ds.length=l.toNat*z.length:=by rw [hdl,Wn]
     refine ⟨_,_,_,_,hrun,post_cells lo hs _ e row ds 0 hd (by omega) hdv,?_⟩
     exact VRel.rsl (l:=⟨w.heap.size,0,ds.length,0⟩) (by simp [Locs.upd]) (Nat.le_refl _) rfl (.inr ⟨rfl,rfl,by simp only []; omega,by simp only []; omega⟩)
    ·split at h
     ·rename_i hl0
      subst hl0
      injection h with h
      injection h with h1 h2
      subst h1; subst h2
      have hzs:(Ub zv.cells (c.toNat*z.length)).size=c.toNat*z.length:=by rw [hz1,Wn]
      refine ⟨_,_,_,_,hrun,post_tok lo hs _ e 0 (Nat.zero_le _) (c.toNat*z.length) (by omega),?_⟩
      exact VRel.osl (l:=⟨w.heap.size,0,0,c.toNat*z.length⟩) (fun _=>undef) (by simp [Locs.upd]) rfl (Nat.zero_le _) rfl (by simp) rfl (by simp) (by simp) (fun j hj=>absurd hj (by simp)) (fun j hj=>absurd hj (by simp))
     ·exact absurd h (by simp)
   ·exact absurd h (by simp)
  ·exact absurd h (by simp)
 ·exact absurd h (by simp)
theorem source_ok (hs:SRel σ L M w) {sz m:Nat} {x:DV} {x':Value} {vs:List DV} (h:ZE σ sz x=some (m,vs)) (hx:VRel L M x x') :
  ∃ news:Array Value,(Builtin.lenOf x').run P w=.ok m w/\(Builtin.firstCells sz m x').run P w=.ok news w/\(Builtin.firstCells sz m x').run P w.drew=.ok news w.drew/\news.size=vs.length/\vs.length=m*sz/\
   (∀ j (h1:j<vs.length) (h2:j<news.size),VRel L M vs[j] news[j]):=by
 have two:∀ (a:Addr) (n c:Nat) (vs:List DV) (f:Nat->Value),(vs.length≠0->a.spot=none)->vs.length=n*sz->(∀ j,j<vs.length->w.cell? ⟨a.block,a.off+j,none⟩=some (f j))->(∀ j (h:j<vs.length),VRel L M vs[j] (f j))->
   ∃ news:Array Value,(Builtin.lenOf (.slice (some a) n c)).run P w=.ok n w/\(Builtin.firstCells sz n (.slice (some a) n c)).run P w=.ok news w/\(Builtin.firstCells sz n (.slice (some a) n c)).run P w.drew=.ok news w.drew/\news.size=vs.length/\vs.length=n*sz/\
    (∀ j (h1:j<vs.length) (h2:j<news.size),VRel L M vs[j] news[j]):=by
  intro a n c vs f hsp hl hc hv
  have hr:∀ w':World,(∀ x,w'.cell? x=w.cell? x)->(loadCells a (n*sz)).run P w'=.ok ((List.range (n*sz)).map f).toArray w':=fun w' hw=>run_loadCells w' a (n*sz) f (fun j hj=>by rw [WQ (hsp (by omega)),hw]; exact hc j (by omega))
  refine ⟨((List.range (n*sz)).map f).toArray,rfl,?_,?_,by simp [hl],hl,fun j h1 h2=>?_⟩
  ·simpa [Builtin.firstCells] using hr w (fun _=>rfl)
  ·simpa [Builtin.firstCells] using hr w.drew (fun _=>rfl)
  ·simpa using hv j h1
 unfold ZE at h
 split at h
 ·injection h with h; injection h with h1 h2; subst h1; subst h2
  cases Wv hx
  exact ⟨#[],rfl,rfl,rfl,rfl,by simp,fun j h1=>absurd h1 (by simp)⟩
 ·split at h
  ·rename_i ex n cs hl
   injection h with h; injection h with h1 h2; subst h1; subst h2
   cases hx with | p hp=>cases hp with | sl f hsp hc he hm hv=>
   exact two _ _ _ (cs.map .p) f (fun h=>hsp fun e=>h (by rw [List.length_map,hl,show n=0 by omega,Nat.zero_mul])) (by simpa using hl) (fun j hj=>hs.mem _ _ _ (hm j (by simpa using hj))) (fun j hj=>by simpa using VRel.p (hv j (by simpa using hj)))
  ·exact absurd h (by simp)
 ·split at h
  ·rename_i r0 ver sz' n cs hl
   obtain ⟨rfl,hl⟩:=hl
   injection h with h; injection h with h1 h2; subst h1; subst h2
   cases hx with | osl f hl0 hsp hc hb0 ho hn0 hspr hlen hm hv=>
   exact two _ _ _ (cs.map .p) f (fun _=>hsp) (by simpa using hl) (fun j hj=>hs.mem _ _ _ (hm j (by simpa using hj))) (fun j hj=>by simpa using VRel.p (hv j (by simpa using hj)))
  ·exact absurd h (by simp)
 ·split at h
  ·rename_i r0 sz' off n hl
   subst hl
   obtain ⟨vs',hv,he⟩:=Option.map_eq_some_iff.1 h
   injection he with h1 h2; subst h1; subst h2
   cases hx with | rsl hl0 hc hsp hq=>
   rename_i a cap l
   obtain ⟨b,o,hp,hn,hcs⟩:=loadN_ok hs hv (VRel.ptr hl0:VRel L M (.ptr r0 off) _)
   injection hp with hp; injection hp with hp; injection hp with hb ho _
   subst hb; subst ho
   by_cases h0:n*sz'=0
   ·have hvs:vs'=[]:=List.eq_nil_of_length_eq_zero (by omega)
    subst hvs
    exact two a n cap [] (fun _=>undef) (fun _=>hsp) (by simp; omega) (fun j hj=>absurd hj (by simp)) (fun j hj=>absurd hj (by simp))
   ·have hcap:¬ (cap=0):=by
     rintro rfl
     have h00:n=0:=by omega
     exact h0 (by rw [h00,Nat.zero_mul])
    obtain ⟨hb,ho,_,_⟩:=hq.resolve_left (fun h=>hcap h.1)
    refine two a n cap vs' (fun j=>(Wo w l.b (l.o+off) vs'.length).getD j undef) (fun _=>hsp) hn (fun j hj=>?_) (fun j hj=>?_)
    ·rw [hb,ho]; exact hcs.at.1 j hj
    ·have:=hcs.at.2.2 j hj (by rw [hcs.at.2.1]; exact hj)
     rw [List.getD_eq_getElem?_getD,List.getElem?_eq_getElem (by rw [hcs.at.2.1]; exact hj)]
     exact this
  ·exact absurd h (by simp)
 ·split at h
  ·rename_i s hl
   subst hl
   injection h with h; injection h with h1 h2; subst h1; subst h2
   cases Vc hx
   have e:(s.extract 0 s.size).data.map (fun b=>Value.int .u8 b.toNat)=s.data.map (fun b=>Value.int .u8 b.toNat):=by
    congr 1
    simp
   refine ⟨s.data.map fun b=>Value.int .u8 b.toNat,rfl,?_,?_,by simp,by simp,fun j h1 h2=>by simp; exact .p (.int _ _)⟩
   ·simp [Builtin.firstCells,e]
   ·simp [Builtin.firstCells,e]
  ·exact absurd h (by simp)
 ·exact absurd h (by simp)
theorem source_first (hs:SRel σ L M w) {sz m k:Nat} {x:DV} {x':Value} {vs:List DV} (hk:k<=m) (h:ZE σ sz x=some (m,vs)) (hx:VRel L M x x') :
  ∃ news:Array Value,(Builtin.firstCells sz k x').run P w=.ok news w/\news.size=k*sz/\k*sz<=vs.length/\
   (∀ j (h1:j<vs.length) (h2:j<news.size),VRel L M vs[j] news[j]):=by
 have hm:∀ {n:Nat},k<=n->k*sz<=n*sz:=fun h=>Nat.mul_le_mul_right _ h
 have two:∀ (a:Addr) (n c:Nat) (vs:List DV) (f:Nat->Value),k<=n->(vs.length≠0->a.spot=none)->vs.length=n*sz->(∀ j,j<vs.length->w.cell? ⟨a.block,a.off+j,none⟩=some (f j))->(∀ j (h:j<vs.length),VRel L M vs[j] (f j))->
   ∃ news:Array Value,(Builtin.firstCells sz k (.slice (some a) n c)).run P w=.ok news w/\news.size=k*sz/\k*sz<=vs.length/\
    (∀ j (h1:j<vs.length) (h2:j<news.size),VRel L M vs[j] news[j]):=by
  intro a n c vs f hkn hsp hl hc hv
  have hkm:=hm hkn
  have hr:(loadCells a (k*sz)).run P w=.ok ((List.range (k*sz)).map f).toArray w:=run_loadCells w a (k*sz) f (fun j hj=>by rw [WQ (hsp (by omega))]; exact hc j (by omega))
  refine ⟨((List.range (k*sz)).map f).toArray,?_,by simp,by omega,fun j h1 h2=>?_⟩
  ·simpa [Builtin.firstCells] using hr
  ·simpa using hv j h1
 unfold ZE at h
 split at h
 ·injection h with h; injection h with h1 h2; subst h1; subst h2
  cases Wv hx
  have:k=0:=by omega
  subst this
  exact ⟨#[],rfl,by simp,by simp,fun j h1=>absurd h1 (by simp)⟩
 ·split at h
  ·rename_i ex n cs hl
   injection h with h; injection h with h1 h2; subst h1; subst h2
   cases hx with | p hp=>cases hp with | sl f hsp hc he hm hv=>
   exact two _ _ _ (cs.map .p) f hk (fun h=>hsp fun e=>h (by rw [List.length_map,hl,show n=0 by omega,Nat.zero_mul])) (by simpa using hl) (fun j hj=>hs.mem _ _ _ (hm j (by simpa using hj))) (fun j hj=>by simpa using VRel.p (hv j (by simpa using hj)))
  ·exact absurd h (by simp)
 ·split at h
  ·rename_i r0 ver sz' n cs hl
   obtain ⟨rfl,hl⟩:=hl
   injection h with h; injection h with h1 h2; subst h1; subst h2
   cases hx with | osl f hl0 hsp hc hb0 ho hn0 hspr hlen hm hv=>
   exact two _ _ _ (cs.map .p) f hk (fun _=>hsp) (by simpa using hl) (fun j hj=>hs.mem _ _ _ (hm j (by simpa using hj))) (fun j hj=>by simpa using VRel.p (hv j (by simpa using hj)))
  ·exact absurd h (by simp)
 ·split at h
  ·rename_i r0 sz' off n hl
   subst hl
   obtain ⟨vs',hv,he⟩:=Option.map_eq_some_iff.1 h
   injection he with h1 h2; subst h1; subst h2
   cases hx with | rsl hl0 hc hsp hq=>
   rename_i a cap l
   obtain ⟨b,o,hp,hn,hcs⟩:=loadN_ok hs hv (VRel.ptr hl0:VRel L M (.ptr r0 off) _)
   injection hp with hp; injection hp with hp; injection hp with hb ho _
   subst hb; subst ho
   by_cases h0:n*sz'=0
   ·have hvs:vs'=[]:=List.eq_nil_of_length_eq_zero (by omega)
    subst hvs
    exact two a n cap [] (fun _=>undef) hk (fun _=>hsp) (by simp; omega) (fun j hj=>absurd hj (by simp)) (fun j hj=>absurd hj (by simp))
   ·have hcap:¬ (cap=0):=by
     rintro rfl
     have h00:n=0:=by omega
     exact h0 (by rw [h00,Nat.zero_mul])
    obtain ⟨hb,ho,_,_⟩:=hq.resolve_left (fun h=>hcap h.1)
    refine two a n cap vs' (fun j=>(Wo w l.b (l.o+off) vs'.length).getD j undef) hk (fun _=>hsp) hn (fun j hj=>?_) (fun j hj=>?_)
    ·rw [hb,ho]; exact hcs.at.1 j hj
    ·have:=hcs.at.2.2 j hj (by rw [hcs.at.2.1]; exact hj)
     rw [List.getD_eq_getElem?_getD,List.getElem?_eq_getElem (by rw [hcs.at.2.1]; exact hj)]
     exact this
  ·exact absurd h (by simp)
 ·split at h
  ·rename_i s hl
   subst hl
   injection h with h; injection h with h1 h2; subst h1; subst h2
   cases Vc hx
   refine ⟨(s.extract 0 k).data.map fun b=>Value.int .u8 b.toNat,by simp [Builtin.firstCells],?_,?_,fun j h1 h2=>?_⟩
   ·simp
    omega
   ·simp
    omega
   ·simp
    exact .p (.int _ _)
  ·exact absurd h (by simp)
 ·exact absurd h (by simp)
theorem capOp_ok {x r:DV} {x':Value} (h:capOp P t x=some r) (hx:VRel L M x x') (ty:TypeId):Same P (Builtin.cap_ #[t] ty #[x']) w (VRel L M r):=by
 unfold capOp at h
 split at h
 ·rename_i hu
  injection h with h; subst h
  exact ⟨_,by simp [Builtin.cap_,run_underlying hu]; rfl,.p (.int _ _)⟩
 ·rename_i hu
  injection h with h; subst h
  cases Wv hx
  exact ⟨_,by simp [Builtin.cap_,run_underlying hu]; rfl,.p (.int _ _)⟩
 ·rename_i hu
  injection h with h; subst h
  cases hx with | p hp=>cases hp with | sl f hsp hc he hm hv=>
  have:=he rfl
  subst this
  exact ⟨_,by simp [Builtin.cap_,run_underlying hu]; rfl,.p (.int _ _)⟩
 ·exact absurd h (by simp)
theorem clearOp_ok {lo:Nat} (hs:SRel σ L M w) {x:DV} {x':Value} (h:VJ P lo t x σ=some σ') (hx:VRel L M x x') (ty:TypeId) :
  ∃ v w' L' M',(Builtin.clear_ #[t] ty #[x']).run P w=.ok v w'/\Post lo σ L M w σ' L' M' w'/\VRel L' M' .undef v:=by
 unfold VJ at h
 split at h
 ·rename_i hu
  injection h with h; subst h
  cases Wv hx
  exact ⟨_,w,L,M,by simp [Builtin.clear_,run_underlying hu]; rfl,Post.refl lo hs,.undef _⟩
 ·rename_i hu
  injection h with h; subst h
  cases hx with | p hp=>cases hp with | sl f hsp hc he hm hv=>
  exact ⟨_,w,L,M,by simp [Builtin.clear_,run_underlying hu]; rfl,Post.refl lo hs,.undef _⟩
 ·rename_i e r sz off n hu
  cases hx with | rsl hl0 hc hsp hq=>
  rename_i a cap l
  split at h
  ·rename_i h0
   subst h0
   injection h with h; subst h
   exact ⟨_,w,L,M,by simp [Builtin.clear_,run_underlying hu]; rfl,Post.refl lo hs,.undef _⟩
  ·rename_i h0
   split at h
   ·rename_i sz' z hsz hz
    split at h
    ·rename_i hc2
     obtain ⟨rfl,hzl⟩:=hc2
     obtain ⟨i,zv,hi,hzv,hzn,hzr⟩:=Vh (L:=L) (M:=M) hz
     obtain ⟨hz1,hz2⟩:=zeros_rel (L:=L) (M:=M) hzn hzr n
     have hcap:¬ (cap=0):=by omega
     obtain ⟨hb,ho,_,_⟩:=hq.resolve_left (fun h=>hcap h.1)
     obtain ⟨w',hr,hp⟩:=storeN_run (P:=P) hs h hl0 hz1 hz2
     have ha:a=⟨l.b,l.o+off,none⟩:=by
      obtain ⟨ab,ao,as⟩:=a
      simp only at hb ho hsp
      subst hb; subst ho; subst hsp; rfl
     obtain ⟨n',rfl⟩:∃ n',n=n'+1:=⟨n-1,by omega⟩
     refine ⟨.tuple #[],w',L,M,?_,hp,.undef _⟩
     have hzc:Builtin.zeroCells zv.cells (n'+1)=Ub zv.cells ((n'+1)*z.length):=by
      unfold Builtin.zeroCells Ub
      rw [hzn]
     subst ha
     simp [Builtin.clear_,run_underlying hu,typeInfo,zeroValue,hi,hzv,hzc,hr]
    ·exact absurd h (by simp)
   ·exact absurd h (by simp)
 ·exact absurd h (by simp)
theorem copyOp_ok {lo:Nat} (hs:SRel σ L M w) {x y r:DV} {x' y':Value} (h:US P lo t x y σ=some (r,σ')) (hx:VRel L M x x') (hy:VRel L M y y') (t2 ty:TypeId) :
  ∃ v w' L' M',(Builtin.copy_ #[t,t2] ty #[x',y']).run P w=.ok v w'/\Post lo σ L M w σ' L' M' w'/\VRel L' M' r v:=by
 unfold US at h
 split at h
 ·rename_i e hu
  split at h
  ·rename_i sz hsz
   obtain ⟨⟨m,vs⟩,hq,he⟩:=Option.map_eq_some_iff.1 h
   injection he with h1 h2; subst h1; subst h2
   cases Wv hx
   obtain ⟨news,h1,_⟩:=source_ok (P:=P) hs hq hy
   obtain ⟨news2,h2,h3,h4,h5⟩:=source_first (P:=P) (k:=0) hs (Nat.zero_le _) hq hy
   refine ⟨goInt 0,w,L,M,?_,Post.refl lo hs,.p (.int _ _)⟩
   simp [Builtin.copy_,run_underlying hu,h1,Zl hsz,h2]
  ·exact absurd h (by simp)
 ·rename_i e r0 sz off n hu
  cases hx with | rsl hl0 hc hsp hq0=>
  rename_i a cap l
  split at h
  ·rename_i sz' hsz
   split at h
   ·rename_i m vs hq
    split at h
    ·rename_i hss
     subst hss
     obtain ⟨news,h1,_⟩:=source_ok (P:=P) hs hq hy
     obtain ⟨news2,h2,h3,h4,h5⟩:=source_first (P:=P) (k:=min m n) hs (Nat.min_le_left _ _) hq hy
     have hmin:Nat.min m n=min m n:=rfl
     split at h
     ·rename_i h0
      injection h with h; injection h with e1 e2; subst e1; subst e2
      have hnews:news2 = #[]:=by
       apply Array.eq_empty_of_size_eq_zero
       omega
      subst hnews
      refine ⟨goInt (min m n:Nat),w,L,M,?_,Post.refl lo hs,.p (.int _ _)⟩
      simp [Builtin.copy_,run_underlying hu,h1,Zl hsz,hmin,h2,storeCells]
     ·rename_i h0
      obtain ⟨σ1,hst,he⟩:=Option.map_eq_some_iff.1 h
      injection he with e1 e2; subst e1; subst e2
      have hcap:¬ (cap=0):=by
       rintro rfl
       apply h0
       have:min m n=0:=by omega
       rw [this,Nat.zero_mul]
      obtain ⟨hb,ho,_,_⟩:=hq0.resolve_left (fun h=>hcap h.1)
      have ha:a=⟨l.b,l.o+off,none⟩:=by
       obtain ⟨ab,ao,as⟩:=a
       simp only at hb ho hsp
       subst hb; subst ho; subst hsp; rfl
      obtain ⟨w',hr,hp⟩:=storeN_run (P:=P) (vs':=news2) hs hst hl0 (by rw [h3,List.length_take]; omega) (fun j j1 j2=>by
       rw [List.getElem_take]
       exact h5 j (by rw [List.length_take] at j1; omega) j2)
      subst ha
      refine ⟨goInt (min m n:Nat),w',L,M,?_,hp,.p (.int _ _)⟩
      simp [Builtin.copy_,run_underlying hu,h1,Zl hsz,hmin,h2,hr]
    ·exact absurd h (by simp)
   ·exact absurd h (by simp)
  ·exact absurd h (by simp)
 ·exact absurd h (by simp)
theorem srcType_two {t2:TypeId} (h:ZQ P t2=true):(∃ e,P.underlying t2=some (.slice e))\/P.underlying t2=some .string:=by
 unfold ZQ at h
 split at h
 ·rename_i e hu; exact .inl ⟨e,hu⟩
 ·rename_i hu; exact .inr hu
 ·exact absurd h (by simp)
theorem run_grow {t2 ty e:TypeId} {i:TypeInfo} {z:Value} {base:Option Addr} {n cap m:Nat} {x':Value} {old news:Array Value} (h2:ZQ P t2=true) (ht:P.underlying t=some (.slice e)) (hi:P.info? e=some i) (hz:i.zero=some z)
  (hlen:(Builtin.lenOf x').run P w=.ok m w) (hnew:(Builtin.firstCells i.size m x').run P w.drew=.ok news w.drew) (hold:(Builtin.firstCells i.size n (.slice base n cap)).run P w.drew=.ok old w.drew)
  (hlt:cap<n+m) (hb:(n+m)*i.bytes<=140737488355328) (h0:0<i.bytes) (hsm:n+m<=140737488355328) :
  ∃ nc,n+m<=nc/\(Builtin.append_ #[t,t2] ty #[.slice base n cap,x']).run P w=.ok (.slice (some ⟨w.heap.size,0,none⟩) (n+m) nc) (w.drew.alloc (.cells (old++news++Builtin.zeroCells z.cells (nc-(n+m))) e)):=by
 refine ⟨grownCap w (n+m) cap e,grownCap_ge w (n+m) cap e,?_⟩
 have hn:¬ (n+m<=cap):=by omega
 have h63':¬ (9223372036854775807<((n:Int)+(m:Int))):=by omega
 have h48':¬ (281474976710656<Builtin.nextslicecap (n+m) cap*i.bytes):=by have:=growslice_fits hlt hb; omega
 have hzb:i.bytes≠0:=by omega
 rcases srcType_two h2 with ⟨e2,hd⟩ | hd
 all_goals simp [Builtin.append_,run_underlying ht,run_underlying hd,sizeOf,typeInfo,zeroValue,hi,hz,hlen,hn,h63',h48',hzb,Question.forced,hold,hnew,Wb,grownCap]
theorem run_fits {t2 ty e:TypeId} {i:TypeInfo} {a:Addr} {n cap m:Nat} {x':Value} {news:Array Value} (h2:ZQ P t2=true) (ht:P.underlying t=some (.slice e)) (hi:P.info? e=some i)
  (hlen:(Builtin.lenOf x').run P w=.ok m w) (hnew:(Builtin.firstCells i.size m x').run P w=.ok news w) (hle:n+m<=cap) (hsp:a.spot=none)
  (hth:w.there a.block (a.off+n*i.size) news.size) (h1:∀ v∈news.toList,v.oneCell'=true) :
  (Builtin.append_ #[t,t2] ty #[.slice (some a) n cap,x']).run P w=.ok (.slice (some a) (n+m) cap) (w.setCells a.block (a.off+n*i.size) news.toList):=by
 have hst:=run_storeCells_cells (P:=P) a.block (a.off+n*i.size) news.toList 0 w (fun j hj=>by simpa using (hth j (by simpa using hj)).1) (fun j hj=>by simpa using (hth j (by simpa using hj)).2) h1
 simp only [Nat.add_zero] at hst
 rcases srcType_two h2 with ⟨e2,hd⟩ | hd
 all_goals simp [Builtin.append_,run_underlying ht,run_underlying hd,sizeOf,typeInfo,hi,hlen,hle,hnew,WQ hsp,hst]
theorem run_same {t2 ty e:TypeId} {i:TypeInfo} {a:Addr} {n cap:Nat} {x':Value} (h2:ZQ P t2=true) (ht:P.underlying t=some (.slice e)) (hi:P.info? e=some i)
  (hlen:(Builtin.lenOf x').run P w=.ok 0 w) (hnew:(Builtin.firstCells i.size 0 x').run P w=.ok #[] w) (hle:n<=cap) :
  (Builtin.append_ #[t,t2] ty #[.slice (some a) n cap,x']).run P w=.ok (.slice (some a) n cap) w:=by
 have hst:∀ b,(storeCells b []).run P w=.ok () w:=fun _=>rfl
 rcases srcType_two h2 with ⟨e2,hd⟩ | hd
 all_goals simp [Builtin.append_,run_underlying ht,run_underlying hd,sizeOf,typeInfo,hi,hlen,hle,hnew,hst]
theorem run_none {t2 ty e:TypeId} {i:TypeInfo} {x':Value} (h2:ZQ P t2=true) (ht:P.underlying t=some (.slice e)) (hi:P.info? e=some i)
  (hlen:(Builtin.lenOf x').run P w=.ok 0 w) {news:Array Value} (hnew:(Builtin.firstCells i.size 0 x').run P w=.ok news w) :
  (Builtin.append_ #[t,t2] ty #[.slice none 0 0,x']).run P w=.ok (.slice none 0 0) w:=by
 rcases srcType_two h2 with ⟨e2,hd⟩ | hd
 all_goals simp [Builtin.append_,run_underlying ht,run_underlying hd,sizeOf,typeInfo,hi,hlen,hnew]
theorem zeroCells_size (z:Array Value) (n:Nat):(Builtin.zeroCells z n).size=n*z.size:=by simp [Builtin.zeroCells]
end Go.D
end
/- Steps that append takes: a row is given up, a token moves on. -/
section
set_option linter.unusedVariables false
set_option linter.unusedSimpArgs false
namespace Go.D
variable {P : Program} {t : TypeId} {σ σ' : Qa} {L : Locs} {M : Mem} {w : World}
theorem upd_le {r k:Nat} (h:L r k=none) (l:Loc):L.le (L.upd r k l):=by
 intro r' k' l' hl'
 simp only [Locs.upd]
 rw [if_neg]
 ·exact hl'
 ·rintro ⟨rfl,rfl⟩
  rw [h] at hl'
  exact absurd hl' (by simp)
theorem post_kill {lo r:Nat} {row:Row} {l:Loc} (hs:SRel σ L M w) (hlo:lo<=r) (ha:At σ L r row l) (hv:row.ver=0):Post lo σ L M w (σ.set r .dead) L M w:=by
 have hrl:r<σ.length:=(List.getElem?_eq_some_iff.1 ha.1).1
 have hset:∀ r',r'≠r->(σ.set r .dead)[r']?=σ[r']?:=fun r' hr'=>List.getElem?_set_ne (Ne.symm hr')
 have hset0:(σ.set r .dead)[r]?=some .dead:=by rw [List.getElem?_set_self hrl]
 have hl0:L r (Row.ver .dead)=some l:=by have:=ha.2; rw [hv] at this; exact this
 refine ⟨hs.put r .dead l (C:=fun _ _=>False) (m:=fun _=>False) hset hset0 (fun _ _ _=>rfl) hl0 (Locs.le_refl _) (fun v hv=>by simp at hv) (Mem.le_refl _) (fun _ _ _ h=>.inl h) (Frm.refl _ _ _) (fun _ _ h=>h.elim)
  (fun _ _ _ _ _ _ _ _ _ h=>h.elim) (fun _ _ _ _ _ h=>h.elim) trivial (by simp [Row.owns]) (by simp [Row.owns]) (by simp [Row.owns]) (fun es he=>by simp at he),
  Locs.le_refl _,Mem.le_refl _,by simp,fun r' h1 h2=>hset r' (by omega),fun _ _ _ _=>rfl,Frm.refl _ _ _,fun _ _ _ h=>.inl h,fun b o h=>?_,fun b h=>?_⟩
 ·obtain ⟨r1,row1,l1,h1,h2,h3,h4⟩:=h
  by_cases hr:r1=r
  ·subst hr
   have e:=h2.1
   rw [hset0] at e
   injection e with e
   subst e
   simp [Row.owns] at h3
  ·exact .inl ⟨r1,row1,l1,h1,⟨(hset r1 hr) ▸ h2.1,h2.2⟩,h3,h4⟩
 ·obtain ⟨r1,es,l1,h1,h2,h3⟩:=h
  by_cases hr:r1=r
  ·subst hr
   have e:=h2.1
   rw [hset0] at e
   simp at e
  ·exact .inl ⟨r1,es,l1,h1,⟨(hset r1 hr) ▸ h2.1,h2.2⟩,h3⟩
def Mem.extAt (M:Mem) (b o:Nat) (vs:List Value):Mem:=fun b' o'=>if b'=b/\o<=o'/\o' < o+vs.length then vs[o' - o]? else M b' o'
theorem setCells_cell {b o:Nat} {vs:List Value} (hth:w.there b o vs.length) (o':Nat) :
  (w.setCells b o vs).cell? ⟨b,o',none⟩=if h:o<=o'/\o' < o+vs.length then some (vs[o' - o]'(by omega)) else w.cell? ⟨b,o',none⟩:=by
 by_cases h:o<=o'/\o' < o+vs.length
 ·rw [dif_pos h]
  have:=World.cell?_setCells_in b vs o w (fun j hj=>(hth j hj).1) (o' - o) (by omega)
  rwa [show o+(o' - o)=o' by omega] at this
 ·rw [dif_neg h]
  exact World.cell?_setCells_out _ _ _ _ _ (fun _ _=>by simp only []; omega)
theorem post_tok_room {lo r ver:Nat} {l:Loc} {vs:List Value} (hs:SRel σ L M w) (hlo:lo<=r) (ha:At σ L r (.tok ver) l) (hq:vs.length<=l.s) :
  Post lo σ L M w (σ.set r (.tok (ver+1))) (L.upd r (ver+1) ⟨l.b,l.o+vs.length,0,l.s-vs.length⟩) (M.extAt l.b l.o vs) (w.setCells l.b l.o vs)/\w.there l.b l.o vs.length:=by
 have hn:l.n=0:=hs.row r _ l ha
 have hrl:r<σ.length:=(List.getElem?_eq_some_iff.1 ha.1).1
 have hhas:∀ o,l.o<=o->o<l.o+l.s->l.has l.b o:=fun o h1 h2=>⟨rfl,h1,by omega⟩
 have hth:w.there l.b l.o vs.length:=fun j hj=>by
  obtain ⟨⟨v,h1⟩,h2⟩:=hs.own r _ l ha rfl _ (hhas (l.o+j) (by omega) (by omega))
  exact ⟨by rw [h1]; rfl,h2⟩
 have hset:∀ r',r'≠r->(σ.set r (.tok (ver+1)))[r']?=σ[r']?:=fun r' hr'=>List.getElem?_set_ne (Ne.symm hr')
 have hset0:(σ.set r (.tok (ver+1)))[r]?=some (.tok (ver+1)):=by rw [List.getElem?_set_self hrl]
 have hfresh:L r (ver+1)=none:=hs.ver r ver (ver+1) ha.1 (by omega)
 have hfrm:Frm (fun b o=>b=l.b/\l.o<=o/\o<l.o+vs.length) (fun _=>False) w (w.setCells l.b l.o vs):=Frm.setCells _ _ _ _ _ (fun j hj=>⟨rfl,by omega,by omega⟩)
 have hCl:∀ {b o:Nat},(b=l.b/\l.o<=o/\o<l.o+vs.length)->l.has b o:=fun h=>⟨h.1.symm,h.2.1,by omega⟩
 have hnl:∀ {b o:Nat},(⟨l.b,l.o+vs.length,0,l.s-vs.length⟩:Loc).has b o->l.has b o:=fun h=>by
  obtain ⟨h1,h2,h3⟩:=h
  simp only [] at h1 h2 h3
  exact ⟨h1,by omega,by omega⟩
 have hMle:M.le (M.extAt l.b l.o vs):=by
  intro b o v hv
  simp only [Mem.extAt]
  rw [if_neg]
  ·exact hv
  ·rintro ⟨rfl,h1,h2⟩
   rw [hs.away r _ l ha rfl l.b o (hhas o h1 (by omega))] at hv
   exact absurd hv (by simp)
 have hsr:=hs.put r (.tok (ver+1)) ⟨l.b,l.o+vs.length,0,l.s-vs.length⟩ (L':=L.upd r (ver+1) ⟨l.b,l.o+vs.length,0,l.s-vs.length⟩) (M':=M.extAt l.b l.o vs) hset hset0 (fun r' k hr=>by simp [Locs.upd,hr]) (by simp [Locs.upd,Row.ver]) (upd_le hfresh _)
  (fun v hv k hk=>by
   injection hv with hv
   subst hv
   simp only [Locs.upd]
   rw [if_neg (by omega)]
   exact hs.ver r ver k ha.1 (by omega))
  hMle (fun b o v hv=>by
   simp only [Mem.extAt] at hv
   split at hv
   ·rename_i h
    obtain ⟨rfl,h1,h2⟩:=h
    refine .inr ⟨by rw [setCells_cell hth,dif_pos ⟨h1,h2⟩]; rw [List.getElem?_eq_getElem (by omega)] at hv; exact hv,fun h3=>?_,fun r' row' l' hne ha' ho' hl'=>?_⟩
    ·have:=h3.2.1
     simp only [] at this
     omega
    ·exact hs.disj r' row' l' r _ l ha' ha ho' rfl hne _ _ hl' (hhas o h1 (by omega))
   ·exact .inl hv)
  hfrm (fun b o hC=>hs.away r _ l ha rfl b o (hCl hC)) (fun r' row' l' hne ha' ho' b o hl' hC=>hs.disj r' row' l' r _ l ha' ha ho' rfl hne b o hl' (hCl hC)) (fun _ _ _ _ _ h=>h) rfl
  (fun _ o hl=>by
   obtain ⟨h1,h2⟩:=hs.own r _ l ha rfl o (hnl hl)
   obtain ⟨h3,h4⟩:=hfrm.there h1
   exact ⟨h3,h4.trans h2⟩)
  (fun _ r' row' l' hne ha' ho' b o hl' hl=>hs.disj r' row' l' r _ l ha' ha ho' rfl hne b o hl' (hnl hl)) (fun _ b o hl=>hs.away r _ l ha rfl b o (hnl hl)) (fun es he=>by simp at he)
 have hback:∀ {r1 row1 l1},At (σ.set r (.tok (ver+1))) (L.upd r (ver+1) ⟨l.b,l.o+vs.length,0,l.s-vs.length⟩) r1 row1 l1->(r1=r/\row1=.tok (ver+1)/\l1=⟨l.b,l.o+vs.length,0,l.s-vs.length⟩)\/At σ L r1 row1 l1:=by
  intro r1 row1 l1 h1
  by_cases hr:r1=r
  ·left
   subst hr
   have e:=h1.1
   rw [hset0] at e
   injection e with e
   subst e
   have e2:=h1.2
   simp [Locs.upd,Row.ver] at e2
   exact ⟨rfl,rfl,e2.symm⟩
  ·right
   refine ⟨(hset r1 hr) ▸ h1.1,?_⟩
   have e2:=h1.2
   simp only [Locs.upd] at e2
   rwa [if_neg (by simp [hr])] at e2
 refine ⟨⟨hsr,upd_le hfresh _,hMle,by simp,fun r' h1 h2=>hset r' (by omega),fun r' k h1 h2=>by simp only [Locs.upd]; rw [if_neg (by omega)],hfrm.mono (fun b o hC=>⟨r,_,l,hlo,ha,rfl,hCl hC⟩) (fun _ h=>h.elim),fun b o v hv=>?_,fun b o h=>?_,fun b h=>?_⟩,hth⟩
 ·simp only [Mem.extAt] at hv
  split at hv
  ·rename_i h
   exact .inr (.inr ⟨r,_,l,hlo,ha,rfl,hCl h⟩)
  ·exact .inl hv
 ·obtain ⟨r1,row1,l1,h1,h2,h3,h4⟩:=h
  rcases hback h2 with ⟨rfl,_,rfl⟩ | h5
  ·exact .inl ⟨r1,_,l,hlo,ha,rfl,hnl h4⟩
  ·exact .inl ⟨r1,row1,l1,h1,h5,h3,h4⟩
 ·obtain ⟨r1,es,l1,h1,h2,h3⟩:=h
  rcases hback h2 with ⟨_,h5,_⟩ | h5
  ·simp at h5
  ·exact .inl ⟨r1,es,l1,h1,h5,h3⟩
theorem post_tok_move {lo r ver:Nat} {l:Loc} {vs:Array Value} {e:TypeId} {k s:Nat} (hs:SRel σ L M w) (hlo:lo<=r) (ha:At σ L r (.tok ver) l) (hk:k+s<=vs.size) :
  Post lo σ L M w (σ.set r (.tok (ver+1))) (L.upd r (ver+1) ⟨w.heap.size,k,0,s⟩) (M.ext w.heap.size vs k) (w.alloc (.cells vs e)):=by
 have hrl:r<σ.length:=(List.getElem?_eq_some_iff.1 ha.1).1
 have hset:∀ r',r'≠r->(σ.set r (.tok (ver+1)))[r']?=σ[r']?:=fun r' hr'=>List.getElem?_set_ne (Ne.symm hr')
 have hset0:(σ.set r (.tok (ver+1)))[r]?=some (.tok (ver+1)):=by rw [List.getElem?_set_self hrl]
 have hfresh:L r (ver+1)=none:=hs.ver r ver (ver+1) ha.1 (by omega)
 have hsr:SRel (σ.set r (.tok (ver+1))) (L.upd r (ver+1) ⟨w.heap.size,k,0,s⟩) (M.ext w.heap.size vs k) (w.alloc (.cells vs e)):=by
  refine (grow_alloc hs vs e k).put r (.tok (ver+1)) ⟨w.heap.size,k,0,s⟩ (C:=fun _ _=>False) (m:=fun _=>False) hset hset0 (fun r' k hr=>by simp [Locs.upd,hr]) (by simp [Locs.upd,Row.ver]) (upd_le hfresh _)
   (fun v hv k' hk'=>?_) (Mem.le_refl _) (fun _ _ _ h=>.inl h) (Frm.refl _ _ _) (fun _ _ h=>h.elim) (fun _ _ _ _ _ _ _ _ _ h=>h.elim) (fun _ _ _ _ _ h=>h.elim) rfl (fun _ o hl=>?_) (fun _ r' row1 l1 hne ha1 ho1 b o hl hl0=>?_) (fun _ b o hl=>?_)
   (fun es he=>by simp at he)
  ·injection hv with hv
   subst hv
   simp only [Locs.upd]
   rw [if_neg (by omega)]
   exact hs.ver r ver k' ha.1 (by omega)
  ·obtain ⟨_,h2,h3⟩:=hl
   simp only [] at h2 h3
   simp only []
   rw [cell_new,frozen_new]
   exact ⟨⟨_,Array.getElem?_eq_getElem (by omega)⟩,rfl⟩
  ·have h1:=hs.own_lt ha1 ho1 hl
   have h2:=hl0.1
   simp only [] at h2
   omega
  ·obtain ⟨h1,h2,h3⟩:=hl
   simp only [] at h1 h2 h3
   simp only [Mem.ext]
   rw [if_neg (by omega)]
   cases hx:M b o with
   | none=>rfl
   | some v=>have:=hs.block_lt hx; omega
 have hback:∀ {r1 row1 l1},At (σ.set r (.tok (ver+1))) (L.upd r (ver+1) ⟨w.heap.size,k,0,s⟩) r1 row1 l1->(r1=r/\row1=.tok (ver+1)/\l1=⟨w.heap.size,k,0,s⟩)\/At σ L r1 row1 l1:=by
  intro r1 row1 l1 h1
  by_cases hr:r1=r
  ·left
   subst hr
   have e:=h1.1
   rw [hset0] at e
   injection e with e
   subst e
   have e2:=h1.2
   simp [Locs.upd,Row.ver] at e2
   exact ⟨rfl,rfl,e2.symm⟩
  ·right
   refine ⟨(hset r1 hr) ▸ h1.1,?_⟩
   have e2:=h1.2
   simp only [Locs.upd] at e2
   rwa [if_neg (by simp [hr])] at e2
 refine ⟨hsr,upd_le hfresh _,Mem.le_ext hs vs k,by simp,fun r' h1 h2=>hset r' (by omega),fun r' k h1 h2=>by simp only [Locs.upd]; rw [if_neg (by omega)],Frm.alloc _ _ _ _,(post_block lo hs vs e k).mnew,fun b o h=>?_,fun b h=>?_⟩
 ·obtain ⟨r1,row1,l1,h1,h2,h3,h4⟩:=h
  rcases hback h2 with ⟨rfl,_,rfl⟩ | h5
  ·exact .inr (by have:=h4.1; simp only [] at this; omega)
  ·exact .inl ⟨r1,row1,l1,h1,h5,h3,h4⟩
 ·obtain ⟨r1,es,l1,h1,h2,h3⟩:=h
  rcases hback h2 with ⟨_,h5,_⟩ | h5
  ·simp at h5
  ·exact .inl ⟨r1,es,l1,h1,h5,h3⟩
theorem post_reuse {lo r off:Nat} {row row':Row} {cs vs:List DV} {vs':List Value} {l:Loc} (hs:SRel σ L M w) (hlo:lo<=r) (ha:At σ L r row l) (hd:row.dv=some cs) (hd':row'.dv=some (cs.drop off++vs))
  (hoff:off<=cs.length) (hq:vs.length<=l.s) (hn:vs'.length=vs.length) (hv:∀ j (h1:j<vs.length) (h2:j<vs'.length),VRel L M vs[j] vs'[j]) :
  Post lo σ L M w (σ.set r .dead++[row']) (L.upd σ.length 0 ⟨l.b,l.o+off,(l.n-off)+vs.length,l.s-vs.length⟩) M (w.setCells l.b (l.o+l.n) vs')/\w.there l.b (l.o+l.n) vs'.length:=by
 obtain ⟨ho,hv0,hnt,hnm⟩:=VW hd
 obtain ⟨ho',hv0',hnt',hnm'⟩:=VW hd'
 obtain ⟨hlen,hc⟩:=(rowRel_dv hd).1 (hs.row r row l ha)
 have hk:=post_kill hs hlo ha hv0
 have hsk:=hk.srel
 have hrl:r<σ.length:=(List.getElem?_eq_some_iff.1 ha.1).1
 have hth:w.there l.b (l.o+l.n) vs'.length:=fun j hj=>by
  obtain ⟨⟨v,h1⟩,h2⟩:=hs.own r row l ha ho (l.o+l.n+j) ⟨rfl,by omega,by omega⟩
  exact ⟨by rw [h1]; rfl,h2⟩
 have hCl:∀ {b o:Nat},(b=l.b/\l.o+l.n<=o/\o<l.o+l.n+vs'.length)->l.has b o:=fun h=>⟨h.1.symm,by omega,by omega⟩
 have hnl:∀ {b o:Nat},(⟨l.b,l.o+off,(l.n-off)+vs.length,l.s-vs.length⟩:Loc).has b o->l.has b o:=fun h=>by
  obtain ⟨h1,h2,h3⟩:=h
  simp only [] at h1 h2 h3
  exact ⟨h1,by omega,by omega⟩
 have hfrm:Frm (fun b o=>b=l.b/\l.o+l.n<=o/\o<l.o+l.n+vs'.length) (fun _=>False) w (w.setCells l.b (l.o+l.n) vs'):=Frm.setCells _ _ _ _ _ (fun j hj=>⟨rfl,by omega,by omega⟩)
 have hlive:∀ {r1 row1 l1},At (σ.set r .dead) L r1 row1 l1->row1.owns=true->r1≠r/\At σ L r1 row1 l1:=by
  intro r1 row1 l1 h1 h2
  have hne:r1≠r:=by
   rintro rfl
   have e:=h1.1
   rw [List.getElem?_set_self hrl] at e
   injection e with e
   subst e
   simp [Row.owns] at h2
  exact ⟨hne,by have e:=h1.1; rwa [List.getElem?_set_ne (Ne.symm hne)] at e,h1.2⟩
 have hfresh:L σ.length 0=none:=hs.fresh _ _ (Nat.le_refl _)
 have hle:=upd_le hfresh ⟨l.b,l.o+off,(l.n-off)+vs.length,l.s-vs.length⟩
 have hsr:SRel (σ.set r .dead++[row']) (L.upd σ.length 0 ⟨l.b,l.o+off,(l.n-off)+vs.length,l.s-vs.length⟩) M (w.setCells l.b (l.o+l.n) vs'):=by
  refine hsk.put σ.length row' _ (fun r' hr=>?_) (by simp) (fun r' k hr=>by simp [Locs.upd,hr]) (by simp [Locs.upd,hv0']) hle (fun v hv=>absurd hv (hnt' v)) (Mem.le_refl _) (fun _ _ _ h=>.inl h) hfrm
   (fun b o hC=>hs.away r row l ha ho b o (hCl hC)) (fun r' row1 l1 hne ha1 ho1 b o hl hC=>?_) (fun _ _ _ _ _ h=>h) ((rowRel_dv hd').2 ⟨by simp; omega,fun j hj=>?_⟩) (fun _ o hl=>?_)
   (fun _ r' row1 l1 hne ha1 ho1 b o hl hl0=>?_) (fun _ b o hl=>hs.away r row l ha ho b o (hnl hl)) (fun es he=>absurd he (hnm' es))
  ·rcases Nat.lt_or_ge r' σ.length with h1 | h1
   ·rw [List.getElem?_append_left (by simpa using h1)]
   ·rw [List.getElem?_eq_none (by simp; omega),List.getElem?_eq_none (by simp; omega)]
  ·obtain ⟨h1,h2⟩:=hlive ha1 ho1
   exact hs.disj r' row1 l1 r row l h2 ha ho1 ho h1 b o hl (hCl hC)
  ·simp only []
   rw [setCells_cell hth]
   simp only [List.length_append,List.length_drop] at hj
   by_cases h1:j<cs.length-off
   ·rw [dif_neg (by omega)]
    obtain ⟨v,h3,h4⟩:=hc (off+j) (by omega)
    refine ⟨v,by rw [Nat.add_assoc]; exact h3,?_⟩
    rw [List.getElem_append_left (by simpa using h1)]
    simp only [List.getElem_drop]
    exact h4.mono hle (Mem.le_refl _)
   ·rw [dif_pos (by omega)]
    refine ⟨_,rfl,?_⟩
    rw [List.getElem_append_right (by simpa using h1)]
    have e:l.o+off+j-(l.o+l.n)=j-(cs.drop off).length:=by simp; omega
    simp only [e]
    exact (hv _ (by simp; omega) (by simp; omega)).mono hle (Mem.le_refl _)
  ·obtain ⟨h1,h2⟩:=hs.own r row l ha ho o (hnl hl)
   obtain ⟨h3,h4⟩:=hfrm.there h1
   exact ⟨h3,h4.trans h2⟩
  ·obtain ⟨h1,h2⟩:=hlive ha1 ho1
   exact hs.disj r' row1 l1 r row l h2 ha ho1 ho h1 b o hl (hnl hl0)
 have hback:∀ {r1 row1 l1},At (σ.set r .dead++[row']) (L.upd σ.length 0 ⟨l.b,l.o+off,(l.n-off)+vs.length,l.s-vs.length⟩) r1 row1 l1->
   (r1=σ.length/\row1=row'/\l1=⟨l.b,l.o+off,(l.n-off)+vs.length,l.s-vs.length⟩)\/At (σ.set r .dead) L r1 row1 l1:=by
  intro r1 row1 l1 h1
  rcases Nat.lt_trichotomy r1 σ.length with h2 | h2 | h2
  ·right
   refine ⟨by have e:=h1.1; rwa [List.getElem?_append_left (by simpa using h2)] at e,?_⟩
   have e:=h1.2
   simp only [Locs.upd] at e
   rwa [if_neg (by omega)] at e
  ·left
   subst h2
   have e:=h1.1
   rw [List.getElem?_append_right (by simp)] at e
   simp at e
   subst e
   have e2:=h1.2
   simp [Locs.upd,hv0'] at e2
   exact ⟨rfl,rfl,e2.symm⟩
  ·have e:=h1.1
   rw [List.getElem?_eq_none (by simp; omega)] at e
   exact absurd e (by simp)
 refine ⟨⟨hsr,hle,Mem.le_refl _,by simp,fun r' h1 h2=>?_,fun r' k h1 h2=>by simp only [Locs.upd]; rw [if_neg (by omega)],hfrm.mono (fun b o hC=>⟨r,row,l,hlo,ha,ho,hCl hC⟩) (fun _ h=>h.elim),fun _ _ _ h=>.inl h,fun b o h=>?_,fun b h=>?_⟩,hth⟩
 ·rw [List.getElem?_append_left (by simpa using h2),List.getElem?_set_ne (by omega)]
 ·obtain ⟨r1,row1,l1,h1,h2,h3,h4⟩:=h
  rcases hback h2 with ⟨_,_,rfl⟩ | h5
  ·exact .inl ⟨r,row,l,hlo,ha,ho,hnl h4⟩
  ·exact hk.wr b o ⟨r1,row1,l1,h1,h5,h3,h4⟩
 ·obtain ⟨r1,es,l1,h1,h2,h3⟩:=h
  rcases hback h2 with ⟨_,h5,_⟩ | h5
  ·exact absurd h5.symm (hnm' es)
  ·exact hk.wm b ⟨r1,es,l1,h1,h5,h3⟩
end Go.D
end
/- append, whole. -/
section
set_option linter.unusedVariables false
set_option linter.unusedSimpArgs false
namespace Go.D
variable {P : Program} {t : TypeId} {σ σ' : Qa} {L : Locs} {M : Mem} {w : World}
def Un (P:Program) (s:Sem Value) (lo:Nat) (σ:Qa) (L:Locs) (M:Mem) (w:World) (r:DV) (σ':Qa):Prop:=
 ∃ v w' L' M',s.run P w=.ok v w'/\Post lo σ L M w σ' L' M' w'/\VRel L' M' r v
theorem pures_rel {vs:List DV} {ps:List PV} {news:Array Value} (h:Vg vs=some ps) (hn:news.size=vs.length) (hv:∀ j (h1:j<vs.length) (h2:j<news.size),VRel L M vs[j] news[j]) :
  ps.length=news.size/\(∀ j (h1:j<ps.length) (h2:j<news.size),PRel M ps[j] news[j])/\∀ v∈news.toList,v.oneCell'=true:=by
 obtain ⟨h1,h2⟩:=pures_ok h
 have h3:∀ j (h1:j<ps.length) (h2:j<news.size),PRel M ps[j] news[j]:=fun j h4 h5=>(hv j (by omega) h5).pure (h2 j (by omega) h4)
 refine ⟨by omega,h3,fun v hv=>?_⟩
 obtain ⟨j,hj,rfl⟩:=List.getElem_of_mem hv
 have hj':j<news.size:=by simpa using hj
 simpa using (h3 j (by omega) hj').oneCell
theorem ones_rel {vs:List DV} {news:Array Value} (h:vs.all DV.one=true) (hn:news.size=vs.length) (hv:∀ j (h1:j<vs.length) (h2:j<news.size),VRel L M vs[j] news[j]):∀ v∈news.toList,v.oneCell'=true:=by
 intro v hv'
 obtain ⟨j,hj,rfl⟩:=List.getElem_of_mem hv'
 have hj':j<news.size:=by simpa using hj
 have:=(hv j (by omega) hj').one (List.all_eq_true.1 h _ (List.getElem_mem (by omega)))
 simpa using this
theorem getD_some {a:Array Value} {j:Nat} (h:j<a.size):a[j]?=some (a.getD j undef):=by simp [h]
theorem grown_osl {lo:Nat} {e:TypeId} {cs ps:List PV} {old news:Array Value} {z:Array Value} {n m sz nc:Nat} (hs:SRel σ L M w) (hcs:cs.length=n*sz) (hol:old.size=cs.length) (hor:∀ j (h1:j<cs.length) (h2:j<old.size),PRel M cs[j] old[j])
  (hps:ps.length=news.size) (hnr:∀ j (h1:j<ps.length) (h2:j<news.size),PRel M ps[j] news[j]) (hnl:ps.length=m*sz) (hz:z.size=sz) (hnc:n+m<=nc) {b0:Nat} (hb0:b0=w.heap.size) :
  ∃ L' M',Post lo σ L M w (σ++[.tok 0]) L' M' (w.alloc (.cells (old++news++Builtin.zeroCells z (nc-(n+m))) e))/\VRel L' M' (.osl σ.length 0 sz (n+m) (cs++ps)) (.slice (some ⟨b0,0,none⟩) (n+m) nc):=by
 subst hb0
 have hsz:(old++news++Builtin.zeroCells z (nc-(n+m))).size=nc*sz:=by
  simp only [Array.size_append,zeroCells_size,hz,hol,hcs,<-hps,hnl,<-Nat.add_mul]
  congr 1; omega
 have hk:cs.length+ps.length=(n+m)*sz:=by rw [hcs,hnl,Nat.add_mul]
 have hsp:(n+m)*sz+(nc-(n+m))*sz=nc*sz:=by rw [<-Nat.add_mul]; congr 1; omega
 refine ⟨_,_,post_tok lo hs _ e ((n+m)*sz) (by omega) ((nc-(n+m))*sz) (by omega),?_⟩
 have hget:∀ j (h:j<(cs++ps).length),(old++news++Builtin.zeroCells z (nc-(n+m)))[j]?=some ((old++news++Builtin.zeroCells z (nc-(n+m))).getD j undef)/\PRel M (cs++ps)[j] ((old++news++Builtin.zeroCells z (nc-(n+m))).getD j undef):=by
  intro j hj
  simp only [List.length_append] at hj
  have hlt:j<(old++news++Builtin.zeroCells z (nc-(n+m))).size:=by omega
  refine ⟨getD_some hlt,?_⟩
  have hlt2:j<(old++news).size:=by simp; omega
  have e1:(old++news++Builtin.zeroCells z (nc-(n+m))).getD j undef=(old++news)[j]:=by
   simp only [Array.getD,hlt,dif_pos]
   exact Array.getElem_append_left hlt2
  rw [e1]
  by_cases h1:j<cs.length
  ·rw [List.getElem_append_left h1,Array.getElem_append_left (by omega)]
   exact hor _ _ _
  ·rw [List.getElem_append_right (by omega),Array.getElem_append_right (by omega)]
   simp only [hol]
   exact hnr _ _ _
 refine .osl (l:=⟨w.heap.size,(n+m)*sz,0,(nc-(n+m))*sz⟩) (fun j=>(old++news++Builtin.zeroCells z (nc-(n+m))).getD j undef) (by simp [Locs.upd]) rfl hnc rfl (by simp) rfl rfl (by rw [List.length_append,hk]) (fun j hj=>?_) (fun j hj=>(hget j hj).2.mono (Mem.le_ext hs _ _))
 show (if w.heap.size=w.heap.size/\0+j<(n+m)*sz then _ else _)=_
 rw [if_pos ⟨rfl,by simp only [List.length_append] at hj; omega⟩,Nat.zero_add]
 exact (hget j hj).1
theorem moved_osl {lo r ver:Nat} {e:TypeId} {cs ps:List PV} {old news:Array Value} {z:Array Value} {n m sz nc:Nat} {l:Loc} (hs:SRel σ L M w) (hlo:lo<=r) (ha:At σ L r (.tok ver) l) (hcs:cs.length=n*sz) (hol:old.size=cs.length) (hor:∀ j (h1:j<cs.length) (h2:j<old.size),PRel M cs[j] old[j])
  (hps:ps.length=news.size) (hnr:∀ j (h1:j<ps.length) (h2:j<news.size),PRel M ps[j] news[j]) (hnl:ps.length=m*sz) (hz:z.size=sz) (hnc:n+m<=nc) {b0:Nat} (hb0:b0=w.heap.size) :
  ∃ L' M',Post lo σ L M w (σ.set r (.tok (ver+1))) L' M' (w.alloc (.cells (old++news++Builtin.zeroCells z (nc-(n+m))) e))/\VRel L' M' (.osl r (ver+1) sz (n+m) (cs++ps)) (.slice (some ⟨b0,0,none⟩) (n+m) nc):=by
 subst hb0
 have hsz:(old++news++Builtin.zeroCells z (nc-(n+m))).size=nc*sz:=by
  simp only [Array.size_append,zeroCells_size,hz,hol,hcs,<-hps,hnl,<-Nat.add_mul]
  congr 1; omega
 have hk:cs.length+ps.length=(n+m)*sz:=by rw [hcs,hnl,Nat.add_mul]
 have hsp:(n+m)*sz+(nc-(n+m))*sz=nc*sz:=by rw [<-Nat.add_mul]; congr 1; omega
 refine ⟨_,_,post_tok_move (k:=(n+m)*sz) (s:=(nc-(n+m))*sz) hs hlo ha (by omega),?_⟩
 have hget:∀ j (h:j<(cs++ps).length),(old++news++Builtin.zeroCells z (nc-(n+m)))[j]?=some ((old++news++Builtin.zeroCells z (nc-(n+m))).getD j undef)/\PRel M (cs++ps)[j] ((old++news++Builtin.zeroCells z (nc-(n+m))).getD j undef):=by
  intro j hj
  simp only [List.length_append] at hj
  have hlt:j<(old++news++Builtin.zeroCells z (nc-(n+m))).size:=by omega
  refine ⟨getD_some hlt,?_⟩
  have hlt2:j<(old++news).size:=by simp; omega
  have e1:(old++news++Builtin.zeroCells z (nc-(n+m))).getD j undef=(old++news)[j]:=by
   simp only [Array.getD,hlt,dif_pos]
   exact Array.getElem_append_left hlt2
  rw [e1]
  by_cases h1:j<cs.length
  ·rw [List.getElem_append_left h1,Array.getElem_append_left (by omega)]
   exact hor _ _ _
  ·rw [List.getElem_append_right (by omega),Array.getElem_append_right (by omega)]
   simp only [hol]
   exact hnr _ _ _
 refine .osl (l:=⟨w.heap.size,(n+m)*sz,0,(nc-(n+m))*sz⟩) (fun j=>(old++news++Builtin.zeroCells z (nc-(n+m))).getD j undef) (by simp [Locs.upd]) rfl hnc rfl (by simp) rfl rfl (by rw [List.length_append,hk]) (fun j hj=>?_) (fun j hj=>(hget j hj).2.mono (Mem.le_ext hs _ _))
 show (if w.heap.size=w.heap.size/\0+j<(n+m)*sz then _ else _)=_
 rw [if_pos ⟨rfl,by simp only [List.length_append] at hj; omega⟩,Nat.zero_add]
 exact (hget j hj).1
theorem grown_row {lo:Nat} {e:TypeId} {row:Row} {ds:List DV} {old news z:Array Value} {n m sz nc:Nat} (hs:SRel σ L M w) (hd:row.dv=some ds) (hdl:ds.length=(n+m)*sz) (hon:(old++news).size=ds.length)
  (hv:∀ j (h1:j<ds.length) (h2:j<(old++news).size),VRel L M ds[j] (old++news)[j]) (hz:z.size=sz) (hnc:n+m<=nc) {b0:Nat} (hb0:b0=w.heap.size) :
  ∃ L' M',Post lo σ L M w (σ++[row]) L' M' (w.alloc (.cells (old++news++Builtin.zeroCells z (nc-(n+m))) e))/\VRel L' M' (.rsl σ.length sz 0 (n+m)) (.slice (some ⟨b0,0,none⟩) (n+m) nc):=by
 subst hb0
 have hsp:(n+m)*sz+(nc-(n+m))*sz=nc*sz:=by rw [<-Nat.add_mul]; congr 1; omega
 refine ⟨_,_,post_cells lo hs _ e row ds ((nc-(n+m))*sz) hd (by rw [Array.size_append,zeroCells_size,hz]; omega) (fun j h1 h2=>?_),?_⟩
 ·rw [Array.getElem_append_left (by omega)]
  exact hv j h1 _
 ·exact VRel.rsl (l:=⟨w.heap.size,0,ds.length,(nc-(n+m))*sz⟩) (by simp [Locs.upd]) hnc rfl (.inr ⟨rfl,rfl,by simp only []; omega,by simp only []; omega⟩)
theorem first_of_cells {sz n:Nat} {a:Addr} {cap:Nat} {cs:List PV} {f:Nat->Value} (hs:SRel σ L M w) (hsp:cs.length≠0->a.spot=none) (hl:cs.length=n*sz) (hm:∀ j,j<cs.length->M a.block (a.off+j)=some (f j)) (hv:∀ j (h:j<cs.length),PRel M cs[j] (f j)) :
  ∃ old:Array Value,(Builtin.firstCells sz n (.slice (some a) n cap)).run P w.drew=.ok old w.drew/\old.size=cs.length/\∀ j (h1:j<cs.length) (h2:j<old.size),PRel M cs[j] old[j]:=by
 refine ⟨((List.range (n*sz)).map f).toArray,?_,by simp [hl],fun j h1 h2=>by simpa using hv j h1⟩
 have:=run_loadCells (P:=P) w.drew a (n*sz) f (fun j hj=>by rw [WQ (hsp (by omega))]; exact hs.mem _ _ _ (hm j (by omega)))
 simpa [Builtin.firstCells] using this
structure AppCtx (P:Program) (t t2 e:TypeId) (i2:TypeInfo) (zv:Value) (w:World) (L:Locs) (M:Mem) (m:Nat) (vs:List DV) (news:Array Value) (x':Value):Prop where
 h2:ZQ P t2=true
 hu:P.underlying t=some (.slice e)
 hi:P.info? e=some i2
 hzv:i2.zero=some zv
 hlen:(Builtin.lenOf x').run P w=.ok m w
 hnew:(Builtin.firstCells i2.size m x').run P w=.ok news w
 hnewd:(Builtin.firstCells i2.size m x').run P w.drew=.ok news w.drew
 hns:news.size=vs.length
 hvm:vs.length=m*i2.size
 hnv:∀ j (h1:j<vs.length) (h2:j<news.size),VRel L M vs[j] news[j]
 hzsz:zv.cells.size=i2.size
 hpos:0<i2.size
variable {lo : Nat} {mixed : Bool} {t2 ty e : TypeId} {r : DV} {s' x' : Value} {m : Nat} {vs : List DV} {news : Array Value} {i2 : TypeInfo} {zv : Value}
set_option maxHeartbeats 1000000 in
theorem append_nil_ok (X:AppCtx P t t2 e i2 zv w L M m vs news x') (hs:SRel σ L M w) (h:Um σ mixed i2.size i2.bytes m vs=some (r,σ')) (hss:VRel L M (.p .nilsl) s'):Un P (Builtin.append_ #[t,t2] ty #[s',x']) lo σ L M w r σ':=by
 obtain ⟨h2,hu,hi,hzv,hlen,hnew,hnewd,hns,hvm,hnv,hzsz,hpos⟩:=X
 have hd:=Post.drew lo hs
 unfold Um at h
 cases Wv hss
 split at h
 ·rename_i hc
  obtain ⟨hc1,hc2,hc3⟩:=hc
  split at h
  ·rename_i hm0
   subst hm0
   injection h with h; injection h with ha hb'; subst ha; subst hb'
   exact ⟨_,_,_,_,run_none h2 hu hi hlen hnew,Post.refl lo hs,.p .nilsl⟩
  ·rename_i hm0
   obtain ⟨nc,hnc,hrun⟩:=run_grow (ty:=ty) (base:=none) (n:=0) (cap:=0) (old:=#[]) h2 hu hi hzv hlen hnewd rfl (by omega) (by rw [Nat.zero_add]; exact hc1) hc3 (by omega)
   simp only [Nat.zero_add] at hnc hrun
   split at h
   ·injection h with h; injection h with ha hb'; subst ha; subst hb'
    obtain ⟨L',M',hp,hv⟩:=grown_row (lo:=lo) (e:=e) (row:=.mix vs) (ds:=vs) (old:=#[]) (news:=news) (n:=0) (m:=m) hd.srel rfl (by rw [Nat.zero_add]; exact hvm) (by simp [hns]) (fun j a1 a2=>by simpa using hnv j a1 (by simpa using a2)) hzsz (by simpa using hnc) rfl
    simp only [Nat.zero_add] at hp hv
    exact ⟨_,_,L',M',hrun,hd.trans hp,hv⟩
   ·obtain ⟨ps,hps,he⟩:=Option.map_eq_some_iff.1 h
    injection he with ha hb'; subst ha; subst hb'
    obtain ⟨hp1,hp2,hp3⟩:=pures_rel hps hns hnv
    obtain ⟨L',M',hp,hv⟩:=grown_osl (lo:=lo) (e:=e) (cs:=[]) (ps:=ps) (old:=#[]) (news:=news) (n:=0) (m:=m) (sz:=i2.size) hd.srel (by simp) rfl (fun j a1=>absurd a1 (by simp)) hp1 hp2 (by omega) hzsz (by simpa using hnc) rfl
    simp only [Nat.zero_add,List.nil_append] at hp hv
    exact ⟨_,_,L',M',hrun,hd.trans hp,hv⟩
 ·exact absurd h (by simp)
set_option maxHeartbeats 1000000 in
theorem append_lit_ok {n:Nat} {cs:List PV} (X:AppCtx P t t2 e i2 zv w L M m vs news x') (hs:SRel σ L M w) (h:UT σ mixed i2.size i2.bytes m vs n cs=some (r,σ')) (hss:VRel L M (.p (.sl true n cs)) s'):Un P (Builtin.append_ #[t,t2] ty #[s',x']) lo σ L M w r σ':=by
 obtain ⟨h2,hu,hi,hzv,hlen,hnew,hnewd,hns,hvm,hnv,hzsz,hpos⟩:=X
 have hd:=Post.drew lo hs
 unfold UT at h
 cases hss with | p hp=>cases hp with | sl f hsp hc he hm hv=>
 rename_i a cap
 obtain rfl:n=cap:=(he rfl).symm
 split at h
 ·rename_i hc
  obtain ⟨hc1,hc2,hc3,hc4⟩:=hc
  split at h
  ·rename_i hm0
   subst hm0
   injection h with h; injection h with ha hb'; subst ha; subst hb'
   have hn0:news = #[]:=by
    apply Array.eq_empty_of_size_eq_zero
    rw [hns,hvm]; simp
   have:=run_same (ty:=ty) (a:=a) (n:=n) (cap:=n) h2 hu hi hlen (by rw [<-hn0]; exact hnew) (Nat.le_refl _)
   exact ⟨_,_,_,_,this,Post.refl lo hs,.p (.sl f hsp (Nat.le_refl _) (fun _=>rfl) hm hv)⟩
  ·rename_i hm0
   obtain ⟨old,hold,hol,hor⟩:=first_of_cells (P:=P) (cap:=n) hs (fun h=>hsp fun e=>h (by rw [hc4,e,Nat.zero_mul])) hc4 hm hv
   obtain ⟨nc,hnc,hrun⟩:=run_grow (ty:=ty) h2 hu hi hzv hlen hnewd hold (by omega) hc1 hc3 hc2
   split at h
   ·injection h with h; injection h with ha hb'; subst ha; subst hb'
    obtain ⟨L',M',hp,hv⟩:=grown_row (lo:=lo) (e:=e) (row:=.mix (cs.map .p++vs)) (ds:=cs.map .p++vs) (old:=old) (news:=news) (n:=n) (m:=m) hd.srel rfl (by simp [hc4,hvm,Nat.add_mul]) (by simp [hns,hol]) (fun j a1 a2=>by
     by_cases h1:j<cs.length
     ·rw [List.getElem_append_left (by simpa using h1),Array.getElem_append_left (by omega)]
      simpa using VRel.p (hor j h1 (by omega))
     ·rw [List.getElem_append_right (by simpa using h1),Array.getElem_append_right (by omega)]
      simp only [List.length_map,hol]
      exact hnv _ _ _) hzsz hnc rfl
    exact ⟨_,_,L',M',hrun,hd.trans hp,hv⟩
   ·obtain ⟨ps,hps,he'⟩:=Option.map_eq_some_iff.1 h
    injection he' with ha hb'; subst ha; subst hb'
    obtain ⟨hp1,hp2,hp3⟩:=pures_rel hps hns hnv
    obtain ⟨L',M',hp,hv⟩:=grown_osl (lo:=lo) (e:=e) hd.srel hc4 hol hor hp1 hp2 (by omega) hzsz hnc rfl
    exact ⟨_,_,L',M',hrun,hd.trans hp,hv⟩
 ·exact absurd h (by simp)
set_option maxHeartbeats 1000000 in
theorem append_tok_ok {r0 ver sz' n:Nat} {cs:List PV} (X:AppCtx P t t2 e i2 zv w L M m vs news x') (hs:SRel σ L M w) (h:Ux σ lo i2.size i2.bytes m vs r0 ver sz' n cs=some (r,σ')) (hss:VRel L M (.osl r0 ver sz' n cs) s'):Un P (Builtin.append_ #[t,t2] ty #[s',x']) lo σ L M w r σ':=by
 obtain ⟨h2,hu,hi,hzv,hlen,hnew,hnewd,hns,hvm,hnv,hzsz,hpos⟩:=X
 have hd:=Post.drew lo hs
 unfold Ux at h
 cases hss with | osl f hl0 hsp hcap hb0 ho hn0 hspr hlen' hm hv=>
 rename_i a cap l
 split at h
 ·rename_i hc
  obtain ⟨hc1,hc2,hc3,hc5,hc4,hlo⟩:=hc
  subst hc5
  split at h
  ·rename_i v hrow
   split at h
   ·rename_i hver
    subst hver
    obtain ⟨ps,hps,he'⟩:=Option.map_eq_some_iff.1 h
    injection he' with ha hb'; subst ha; subst hb'
    obtain ⟨hp1,hp2,hp3⟩:=pures_rel hps hns hnv
    have hat:At σ L r0 (.tok v) l:=⟨hrow,hl0⟩
    by_cases hroom:n+m<=cap
    ·have hle:m*i2.size<=l.s:=by rw [hspr]; exact Nat.mul_le_mul_right _ (by omega)
     obtain ⟨hp,hth⟩:=post_tok_room (vs:=news.toList) hs hlo hat (by simp; omega)
     have hab:a.block=l.b:=hb0
     have hrun:=run_fits (ty:=ty) (a:=a) (n:=n) (cap:=cap) h2 hu hi hlen hnew hroom hsp (by rw [hab,ho]; simpa using hth) hp3
     rw [hab,ho] at hrun
     refine ⟨_,_,_,_,hrun,hp,?_⟩
     have hmm:=hp.mle
     have hsum:n*i2.size+m*i2.size=(n+m)*i2.size:=(Nat.add_mul _ _ _).symm
     refine .osl (l:=⟨l.b,l.o+news.toList.length,0,l.s-news.toList.length⟩) (fun j=>if j<cs.length then f j else news.getD (j-cs.length) undef) (by simp [Locs.upd]) hsp hroom hab (by simp; omega) rfl (by
      simp only [Array.length_toList,hspr,hns,hvm,<-Nat.sub_mul]
      congr 1; omega) (by simp; omega) (fun j hj=>?_) (fun j hj=>?_)
     ·simp only [List.length_append] at hj
      by_cases h1:j<cs.length
      ·simp only [h1,if_true]
       exact hmm _ _ _ (hm j h1)
      ·simp only [h1,if_false]
       have e1:a.off+j=l.o+(j-cs.length):=by omega
       rw [hab,e1]
       show (if l.b=l.b/\l.o<=l.o+(j-cs.length)/\l.o+(j-cs.length)<l.o+news.toList.length then news.toList[l.o+(j-cs.length)-l.o]? else _)=_
       rw [if_pos ⟨rfl,by omega,by simp; omega⟩]
       rw [show l.o+(j-cs.length)-l.o=j-cs.length by omega,Array.getElem?_toList]
       exact getD_some (by omega)
     ·simp only [List.length_append] at hj
      by_cases h1:j<cs.length
      ·rw [List.getElem_append_left h1]
       simp only [h1,if_true]
       exact (hv j h1).mono hmm
      ·rw [List.getElem_append_right (by omega)]
       simp only [h1,if_false]
       have h3:=(hp2 (j-cs.length) (by omega) (by omega)).mono hmm
       simpa [show j-cs.length<news.size by omega] using h3
    ·obtain ⟨old,hold,hol,hor⟩:=first_of_cells (P:=P) (cap:=cap) hs (fun _=>hsp) hc4 hm hv
     obtain ⟨nc,hnc,hrun⟩:=run_grow (ty:=ty) h2 hu hi hzv hlen hnewd hold (by omega) hc1 hc3 hc2
     obtain ⟨L',M',hp,hv'⟩:=moved_osl (e:=e) hd.srel hlo hat hc4 hol hor hp1 hp2 (by omega) hzsz hnc rfl
     exact ⟨_,_,L',M',hrun,hd.trans hp,hv'⟩
   ·exact absurd h (by simp)
  ·exact absurd h (by simp)
 ·exact absurd h (by simp)
set_option maxHeartbeats 1000000 in
theorem append_row_ok {r0 sz' off n:Nat} (X:AppCtx P t t2 e i2 zv w L M m vs news x') (hs:SRel σ L M w) (h:appRow σ lo i2.size i2.bytes m vs r0 sz' off n=some (r,σ')) (hss:VRel L M (.rsl r0 sz' off n) s'):Un P (Builtin.append_ #[t,t2] ty #[s',x']) lo σ L M w r σ':=by
 obtain ⟨h2,hu,hi,hzv,hlen,hnew,hnewd,hns,hvm,hnv,hzsz,hpos⟩:=X
 have hd:=Post.drew lo hs
 unfold appRow at h
 have hss0:=hss
 cases hss with | rsl hl0 hcap hsp hq=>
 rename_i a cap l
 split at h
 ·rename_i hc
  obtain ⟨hc1,hc2,hc3,hc5,hlo⟩:=hc
  subst hc5
  have main:∀ (row:Row) (cs ds vs1:List DV) (mk:List DV->Row),σ[r0]?=some row->row.dv=some cs->vs1.length=vs.length->(∀ j (h1:j<vs1.length) (h2:j<news.size),VRel L M vs1[j] news[j])->(∀ v∈news.toList,v.oneCell'=true)->
    (∀ row':Row,off+(n+m)*i2.size<=cs.length->row'.dv=some (QS cs (off+n*i2.size) vs1)->Un P (Builtin.append_ #[t,t2] ty #[.slice (some a) n cap,x']) lo σ L M w (.rsl r0 i2.size off (n+m)) (σ.set r0 row'))/\
    (∀ row':Row,off+n*i2.size=cs.length->¬ (off+(n+m)*i2.size<=cs.length)->row'.dv=some (cs.drop off++vs1)->Un P (Builtin.append_ #[t,t2] ty #[.slice (some a) n cap,x']) lo σ L M w (.rsl σ.length i2.size 0 (n+m)) (σ.set r0 .dead++[row'])):=by
   intro row cs ds vs1 mk hrow hdv hvl hvr h1c
   have hat:At σ L r0 row l:=⟨hrow,by rw [(VW hdv).2.1]; exact hl0⟩
   obtain ⟨hcl,hcc⟩:=(rowRel_dv hdv).1 (hs.row r0 row l hat)
   have hsum:n*i2.size+m*i2.size=(n+m)*i2.size:=(Nat.add_mul _ _ _).symm
   refine ⟨fun row' hle hdv'=>?_,fun row' hend hover hdv'=>?_⟩
   ·by_cases hm0:m*i2.size=0
    ·
     have hn0:news = #[]:=Array.eq_empty_of_size_eq_zero (by omega)
     have hv0:vs1=[]:=List.eq_nil_of_length_eq_zero (by omega)
     subst hv0
     have hspl:QS cs (off+n*i2.size) []=cs:=by simp [QS]
     rw [hspl] at hdv'
     by_cases hroom:n+m<=cap
     ·have hrun:=run_fits (ty:=ty) (a:=a) (n:=n) (cap:=cap) h2 hu hi hlen hnew hroom hsp (by rw [hn0]; intro j hj; simp at hj) (by rw [hn0]; simp)
      rw [hn0] at hrun
      obtain ⟨hp,_⟩:=write_row (off:=off+n*i2.size) (row':=row') (vs:=[]) (vs':=[]) hs hlo hat hdv (by rw [hspl]; exact hdv') (by simp; omega) rfl (fun j a1=>absurd a1 (by simp))
      refine ⟨_,_,_,_,hrun,hp,.rsl hl0 hroom hsp hq⟩
     ·exfalso
      have h00:m=0:=by rcases Nat.mul_eq_zero.1 hm0 with h | h <;> omega
      omega
    ·have hcap0:¬ (cap=0):=by
      rintro rfl
      have h00:n=0:=by omega
      have h01:n*i2.size=0:=by rw [h00,Nat.zero_mul]
      have h3:l.n<=off:=by rcases hq with ⟨_,h3⟩ | ⟨_,_,h3,_⟩; exact h3; simpa using h3
      omega
     obtain ⟨hab,hao,hq1,hq2⟩:=hq.resolve_left (fun h=>hcap0 h.1)
     have hroom:n+m<=cap:=by
      rcases Nat.lt_or_ge cap (n+m) with h3 | h3
      ·exfalso
       have:(cap+1)*i2.size<=(n+m)*i2.size:=Nat.mul_le_mul_right _ h3
       rw [Nat.add_mul] at this
       have:0<i2.size:=hpos
       omega
      ·exact h3
     obtain ⟨hp,hth⟩:=write_row (off:=off+n*i2.size) (row':=row') (vs:=vs1) (vs':=news.toList) hs hlo hat hdv hdv' (by omega) (by simp; omega) (fun j a1 a2=>by simpa using hvr j a1 (by simpa using a2))
     have hrun:=run_fits (ty:=ty) (a:=a) (n:=n) (cap:=cap) h2 hu hi hlen hnew hroom hsp (by rw [hab,hao,Nat.add_assoc]; rw [show news.size=vs1.length by omega]; exact hth) h1c
     rw [hab,hao,Nat.add_assoc] at hrun
     exact ⟨_,_,_,_,hrun,hp,.rsl hl0 hroom hsp (.inr ⟨hab,hao,hq1,hq2⟩)⟩
   ·have hm0:0<m*i2.size:=by omega
    have hpos:=hpos
    by_cases hroom:n+m<=cap
    ·have hcap0:¬ (cap=0):=by
      rintro rfl
      have:m=0:=by omega
      rw [this] at hm0; simp at hm0
     obtain ⟨hab,hao,hq1,hq2⟩:=hq.resolve_left (fun h=>hcap0 h.1)
     have hcs:(n+m)*i2.size<=cap*i2.size:=Nat.mul_le_mul_right _ hroom
     obtain ⟨hp,hth⟩:=post_reuse (off:=off) (row':=row') (vs:=vs1) (vs':=news.toList) hs hlo hat hdv hdv' (by omega) (by omega) (by simp; omega) (fun j a1 a2=>by simpa using hvr j a1 (by simpa using a2))
     have ead:a.off+n*i2.size=l.o+l.n:=by omega
     have hrun:=run_fits (ty:=ty) (a:=a) (n:=n) (cap:=cap) h2 hu hi hlen hnew hroom hsp (by rw [hab,ead]; simpa using hth) h1c
     rw [hab,ead] at hrun
     refine ⟨_,_,_,_,hrun,hp,?_⟩
     exact VRel.rsl (l:=⟨l.b,l.o+off,(l.n-off)+vs1.length,l.s-vs1.length⟩) (by simp [Locs.upd]) hroom hsp (.inr ⟨hab,by simp only []; omega,by simp only []; omega,by simp only []; omega⟩)
    ·
     have hk:=post_kill hs hlo hat (VW hdv).2.1
     have hold:∃ old:Array Value,(Builtin.firstCells i2.size n (.slice (some a) n cap)).run P w.drew=.ok old w.drew/\old.size=cs.length-off/\∀ j (h1:j<cs.length-off) (h2:j<old.size),VRel L M (cs[off+j]'(by omega)) old[j]:=by
      have hx0:ZE σ i2.size (.rsl r0 i2.size off n)=some (n,(cs.drop off).take (n*i2.size)):=by
       have hrow':row=.mix cs\/∃ ps,row=.arr ps/\cs=ps.map .p:=by
        cases row <;> simp [Row.dv] at hdv
        ·exact .inr ⟨_,rfl,hdv.symm⟩
        ·exact .inl (by rw [hdv])
       rcases hrow' with rfl | ⟨ps,rfl,rfl⟩
       ·simp [ZE,Wl,hrow,show off+n*i2.size<=cs.length by omega]
       ·simp at hend
        simp [ZE,Wl,hrow,show off+n*i2.size<=ps.length by omega,List.map_take,List.map_drop]
      obtain ⟨old,_,_,h5,h6,_,h8⟩:=source_ok (P:=P) hs hx0 hss0
      refine ⟨old,h5,by rw [h6]; simp; omega,fun j a1 a2=>?_⟩
      have:=h8 j (by simp; omega) a2
      simpa using this
     obtain ⟨old,hold,hol,hor⟩:=hold
     obtain ⟨nc,hnc,hrun⟩:=run_grow (ty:=ty) h2 hu hi hzv hlen hnewd hold (by omega) hc1 hc3 hc2
     have hkd:=hk.trans (Post.drew lo hk.srel)
     obtain ⟨L',M',hp,hv'⟩:=grown_row (lo:=lo) (e:=e) (row:=row') (ds:=cs.drop off++vs1) (old:=old) (news:=news) (n:=n) (m:=m) hkd.srel hdv' (by simp; omega) (by simp; omega) (fun j a1 a2=>by
      by_cases h3:j<cs.length-off
      ·rw [List.getElem_append_left (by simpa using h3),Array.getElem_append_left (by omega)]
       simpa using hor j h3 (by omega)
      ·rw [List.getElem_append_right (by simpa using h3),Array.getElem_append_right (by omega)]
       simp only [List.length_drop,hol]
       exact hvr _ _ _) hzsz hnc rfl
     simp only [List.length_set] at hp hv'
     exact ⟨_,_,L',M',hrun,hkd.trans hp,hv'⟩
  split at h
  ·rename_i cs hrow
   split at h
   ·rename_i hle
    split at h
    ·rename_i hall
     injection h with h; injection h with ha hb'; subst ha; subst hb'
     exact (main _ cs [] vs (fun _=>.dead) hrow rfl rfl hnv (ones_rel hall hns hnv)).1 _ hle rfl
    ·exact absurd h (by simp)
   ·rename_i hover
    split at h
    ·rename_i hend
     injection h with h; injection h with ha hb'; subst ha; subst hb'
     exact (main _ cs [] vs (fun _=>.dead) hrow rfl rfl hnv (ones_rel hend.2 hns hnv)).2 _ hend.1 hover rfl
    ·exact absurd h (by simp)
  ·rename_i cs hrow
   split at h
   ·rename_i ps hps
    obtain ⟨hp1,hp2,hp3⟩:=pures_rel hps hns hnv
    have hm2:=main (.arr cs) (cs.map .p) [] (ps.map .p) (fun _=>.dead) hrow rfl (by simp; omega) (fun j a1 a2=>by simpa using VRel.p (hp2 j (by simpa using a1) a2)) hp3
    split at h
    ·rename_i hle
     injection h with h; injection h with ha hb'; subst ha; subst hb'
     exact hm2.1 _ (by simpa using hle) (by simp [Row.dv,splice_map])
    ·rename_i hover
     split at h
     ·rename_i hend
      injection h with h; injection h with ha hb'; subst ha; subst hb'
      exact hm2.2 _ (by simpa using hend) (by simpa using hover) (by simp [Row.dv,List.map_drop])
     ·exact absurd h (by simp)
   ·exact absurd h (by simp)
  ·exact absurd h (by simp)
 ·exact absurd h (by simp)
theorem appMake_ok {s x:DV} (hs:SRel σ L M w) (h:appMake P mixed t t2 s x σ=some (r,σ')) (hss:VRel L M s s') (hx:VRel L M x x'):Un P (Builtin.append_ #[t,t2] ty #[s',x']) lo σ L M w r σ':=by
 have hd:=Post.drew lo hs
 unfold appMake at h
 split at h
 ·rename_i k e l h2 hu
  cases Wv hss
  cases Wd hx
  split at h
  ·rename_i sz b z hsz hb hz
   split at h
   ·rename_i hc
    obtain ⟨hmx,rfl,hpos,hbp,hl0,hl1,hl2⟩:=hc
    injection h with h; injection h with e1 e2; subst e1; subst e2
    obtain ⟨i,zv,hi,hzv,hzn,hzr⟩:=Vh (L:=L) (M:=M) hz
    obtain ⟨i',hi',rfl⟩:=Option.map_eq_some_iff.1 hb
    obtain rfl:i'=i:=by rw [hi] at hi'; injection hi' with h; exact h.symm
    have hsize:i'.size=z.length:=by
     obtain ⟨i1,hi1,h3⟩:=Option.map_eq_some_iff.1 hsz
     rw [hi] at hi1; injection hi1 with h4; rw [<-h4] at h3; exact h3
    obtain ⟨hz1,hz2⟩:=zeros_rel (L:=L) (M:=M) hzn hzr l.toNat
    have hzc:Builtin.zeroCells zv.cells l.toNat=Ub zv.cells (l.toNat*z.length):=by
     unfold Builtin.zeroCells Ub
     rw [hzn]
    have hwl:=wrap_small (l:=l) (by omega) hl1
    have hn1:¬ (l<0):=by omega
    have hlb:(l*(i'.bytes:Int))=((l.toNat*i'.bytes:Nat):Int):=by
     rw [Int.natCast_mul,Int.toNat_of_nonneg (by omega)]
    have hn2:¬ ((281474976710656:Int)<l*(i'.bytes:Int)):=by rw [hlb]; omega
    have hn3:¬ (l.toNat<=0):=by omega
    have hn4:¬ ((9223372036854775807:Int)<(l.toNat:Int)):=by omega
    have hn5:¬ (281474976710656<Builtin.nextslicecap l.toNat 0*i'.bytes):=by
     have:=growslice_fits (show 0<l.toNat by omega) hl2
     omega
    have hn6:¬ (l<=0):=by omega
    have hn7:¬ ((9223372036854775807:Int)<max l 0):=by omega
    have hnz:¬ (l.toNat*i'.size=0):=by
     rw [hsize]
     exact Nat.ne_of_gt (Nat.mul_pos (by omega) hpos)
    have hrun:(Builtin.append_ #[t,t2] ty #[.slice none 0 0,.int .i64 l]).run P w=.ok (.slice (some ⟨w.heap.size,0,none⟩) l.toNat (grownCap w l.toNat 0 e)) (w.drew.alloc (.cells (#[]++Builtin.zeroCells zv.cells l.toNat++Builtin.zeroCells zv.cells (grownCap w l.toNat 0 e-l.toNat)) e)):=by
     have hf:(Builtin.firstCells i'.size 0 (.slice none 0 0)).run P w.drew=.ok #[] w.drew:=rfl
     simp [Builtin.append_,run_underlying hu,run_underlying h2,asInt,asIntOf,hwl,hn1,hn2,hn3,hn4,hn5,hn6,hn7,hnz,sizeOf,typeInfo,zeroValue,hi,hzv,Question.forced,hf,Wb,grownCap,run_askRoom]
    obtain ⟨L',M',hp,hv⟩:=grown_row (lo:=lo) (e:=e) (row:=.mix (dups z l.toNat)) (ds:=dups z l.toNat) (old:=#[]) (news:=Builtin.zeroCells zv.cells l.toNat) (z:=zv.cells) (n:=0) (m:=l.toNat) (sz:=z.length) (nc:=grownCap w l.toNat 0 e) hd.srel rfl (by rw [Nat.zero_add,Wn])
     (by rw [hzc]; simpa using hz1) (fun j a1 a2=>by
      have:=hz2 j a1 (by rw [hzc] at a2; simpa using a2)
      simpa [hzc] using this) hzn (by rw [Nat.zero_add]; exact grownCap_ge w _ _ _) rfl
    simp only [Nat.zero_add] at hp hv
    exact ⟨_,_,L',M',hrun,hd.trans hp,hv⟩
   ·exact absurd h (by simp)
  ·exact absurd h (by simp)
 ·exact absurd h (by simp)
theorem append_ok {s x:DV} (hs:SRel σ L M w) (h:append P lo mixed t t2 s x σ=some (r,σ')) (hss:VRel L M s s') (hx:VRel L M x x'):Un P (Builtin.append_ #[t,t2] ty #[s',x']) lo σ L M w r σ':=by
 unfold append at h
 split at h
 ·exact appMake_ok hs h hss hx
 rename_i h2
 have h2:ZQ P t2=true:=by simpa using h2
 split at h
 ·rename_i e hu
  split at h
  ·rename_i sz b z hsz hb hz
   split at h
   ·exact absurd h (by simp)
   rename_i hzl
   obtain ⟨hzl,hpos⟩:z.length=sz/\0<sz:=by simp at hzl; omega
   split at h
   ·rename_i m vs hsrc
    obtain ⟨news,hlen,hnew,hnewd,hns,hvm,hnv⟩:=source_ok (P:=P) hs hsrc hx
    obtain ⟨i,zv,hi,hzv,hzn,hzr⟩:=Vh (L:=L) (M:=M) hz
    obtain ⟨i1,hi1,rfl⟩:=Option.map_eq_some_iff.1 hsz
    obtain ⟨i2,hi2,rfl⟩:=Option.map_eq_some_iff.1 hb
    obtain rfl:i1=i:=by rw [hi] at hi1; injection hi1 with h; exact h.symm
    obtain rfl:i2=i1:=by rw [hi] at hi2; injection hi2 with h; exact h.symm
    have X:AppCtx P t t2 e i2 zv w L M m vs news x':=⟨h2,hu,hi,hzv,hlen,hnew,hnewd,hns,hvm,hnv,by omega,hpos⟩
    split at h
    ·exact append_nil_ok X hs h hss
    ·exact append_lit_ok X hs h hss
    ·exact append_tok_ok X hs h hss
    ·exact append_row_ok X hs h hss
    ·exact absurd h (by simp)
   ·exact absurd h (by simp)
  ·exact absurd h (by simp)
 ·exact absurd h (by simp)
end Go.D
end
/- Equality, maps, lengths. -/
section
set_option linter.unusedVariables false
set_option linter.unusedSimpArgs false
namespace Go.D
variable {P : Program} {t : TypeId} {σ σ' : Qa} {L : Locs} {M : Mem} {w : World}
abbrev eqRound (n:Nat) (e:TypeId) (sz:Nat) (xs ys:Array Value) (i:Nat):Sem (ForInStep (Option Bool×Unit)):=do
 let a <-part e xs (i*sz)
 let b <-part e ys (i*sz)
 let r <-Op.equalIn n e a b
 if (!r)=true then pure (ForInStep.done (some false,())) else pure (ForInStep.yield (none,()))
theorem eqAt_sound (w:World):∀ d:Nat,
  (∀ (t:TypeId) (x y:DV) (x' y':Value) (b:Bool),eqAt P d t x y=some b->VRel L M x x'->VRel L M y y'->∀ n,d<=n->(Op.equalIn n t x' y').run P w=.ok b w)/\
  (∀ (fs:List Field) (xs ys:List DV) (xs' ys':Array Value) (b:Bool),eqFields P d fs xs ys=some b->xs'.size=xs.length->(∀ j (h1:j<xs.length) (h2:j<xs'.size),VRel L M xs[j] xs'[j])->
   ys'.size=ys.length->(∀ j (h1:j<ys.length) (h2:j<ys'.size),VRel L M ys[j] ys'[j])->∀ n,d<=n->(Op.eqFields n xs' ys' fs).run P w=.ok b w)/\
  (∀ (e:TypeId) (sz k i:Nat) (xs ys:List DV) (xs' ys':Array Value) (b:Bool),eqElems P d e sz xs ys k i=some b->xs'.size=xs.length->(∀ j (h1:j<xs.length) (h2:j<xs'.size),VRel L M xs[j] xs'[j])->
   ys'.size=ys.length->(∀ j (h1:j<ys.length) (h2:j<ys'.size),VRel L M ys[j] ys'[j])->∀ n,d<=n->
   (forIn (m:=Sem) (List.range' i k) ((none,()):Option Bool×Unit) (fun i _=>eqRound n e sz xs' ys' i)).run P w=.ok (if b then none else some false,()) w):=by
 intro d
 induction d with
 | zero=>exact ⟨fun _ _ _ _ _ _ h=>absurd h (by simp [eqAt]),fun _ _ _ _ _ _ h=>absurd h (by simp [eqFields]),fun _ _ _ _ _ _ _ _ _ h=>absurd h (by simp [eqElems])⟩
 | succ d ih=>
  obtain ⟨ihA,ihB,ihC⟩:=ih
  refine ⟨fun t x y x' y' b h hx hy n hn=>?_,fun fs xs ys xs' ys' b h hxn hxv hyn hyv n hn=>?_,fun e sz k i xs ys xs' ys' b h hxn hxv hyn hyv n hn=>?_⟩
  ·obtain ⟨n,rfl⟩:∃ m,n=m+1:=⟨n-1,by omega⟩
   unfold eqAt at h
   split at h
   ·rename_i a c hu
    injection h with h; subst h
    cases WB hx; cases WB hy
    simp [Op.equalIn,run_underlying hu]
   ·rename_i k0 k a k' c hu
    cases Wd hx; cases Wd hy
    split at h
    ·rename_i hk
     injection h with h; subst h; subst hk
     simp [Op.equalIn,run_underlying hu]
    ·exact absurd h (by simp)
   ·rename_i a c hu
    injection h with h; subst h
    cases Vc hx; cases Vc hy
    simp [Op.equalIn,run_underlying hu]
   ·rename_i fs xs ys hu
    obtain ⟨vs,rfl,h1,h2⟩:=Ve hx
    obtain ⟨us,rfl,h3,h4⟩:=Ve hy
    split at h
    ·exact absurd h (by simp)
    ·rename_i hp
     have hf:P.fieldsOf t=fs:=by simp [Program.fieldsOf,hu]
     rw [run_equalIn_struct w n t vs us (by rw [hf]; exact hu) (by simpa using hp),hf]
     exact ihB fs.toList xs ys vs us b h h1 h2 h3 h4 n (by omega)
   ·rename_i k e xs ys hu
    obtain ⟨vs,rfl,h1,h2⟩:=Ve hx
    obtain ⟨us,rfl,h3,h4⟩:=Ve hy
    split at h
    ·rename_i sz hsz
     have:=ihC e sz k 0 xs ys vs us b h h1 h2 h3 h4 n (by omega)
     simp only [Op.equalIn,Sem.run_bind,run_underlying hu,Result.andThen_ok,Zl hsz,Std.Legacy.Range.forIn_eq_forIn_range',Std.Legacy.Range.size,Nat.sub_zero,Nat.add_sub_cancel,Nat.div_one,this]
     cases b <;> rfl
    ·exact absurd h (by simp)
   ·exact absurd h (by simp)
  ·cases fs with
   | nil=>simp only [eqFields,Option.some.injEq] at h; subst h; rfl
   | cons f fs=>
    simp only [eqFields] at h
    split at h
    ·exact absurd h (by simp)
    ·rename_i hname
     split at h
     ·rename_i x y hx hy
      obtain ⟨x',hxr,hxv'⟩:=Vz hx hxn hxv w
      obtain ⟨y',hyr,hyv'⟩:=Vz hy hyn hyv w
      simp only [Op.eqFields,ne_eq,hname,not_false_eq_true,if_true,Sem.run_bind,hxr,hyr,Result.andThen_ok]
      split at h
      ·rename_i he
       rw [ihA _ _ _ _ _ _ he hxv' hyv' n (by omega)]
       simp only [Result.andThen_ok,Bool.not_true,Bool.false_eq_true,if_false]
       exact ihB fs xs ys xs' ys' b h hxn hxv hyn hyv n (by omega)
      ·rename_i he
       rw [ihA _ _ _ _ _ _ h hxv' hyv' n (by omega)]
       have hbf:b=false:=by cases b; rfl; exact absurd h he
       subst hbf
       simp
     ·exact absurd h (by simp)
  ·cases k with
   | zero=>simp only [eqElems,Option.some.injEq] at h; subst h; rfl
   | succ k=>
    simp only [eqElems] at h
    split at h
    ·rename_i x y hx hy
     obtain ⟨x',hxr,hxv'⟩:=Vz hx hxn hxv w
     obtain ⟨y',hyr,hyv'⟩:=Vz hy hyn hyv w
     simp only [List.range'_succ,List.forIn_cons,Sem.run_bind,hxr,hyr,Result.andThen_ok]
     split at h
     ·rename_i he
      rw [ihA _ _ _ _ _ _ he hxv' hyv' n (by omega)]
      simp only [Result.andThen_ok,Bool.not_true,Bool.false_eq_true,if_false,Sem.run_pure]
      exact ihC e sz k (i+1) xs ys xs' ys' b h hxn hxv hyn hyv n (by omega)
     ·rename_i he
      rw [ihA _ _ _ _ _ _ h hxv' hyv' n (by omega)]
      have hbf:b=false:=by cases b; rfl; exact absurd h he
      subst hbf
      simp
    ·exact absurd h (by simp)
theorem guard_ok {op:BinOp} {xo yo:Operand} {a b:Value} (h1:¬ (a=.nilIface)) (h2:∀ xs ys,a=.agg xs->b=.agg ys->P.eqGuardType P.depth t=false) (w:World):(Go.eqGuard op t xo yo a b).run P w=.ok () w:=by
 have two:op=.eql\/op=.neq\/(op≠.eql/\op≠.neq):=by
  by_cases e1:op=.eql
  ·exact .inl e1
  ·by_cases e2:op=.neq
   ·exact .inr (.inl e2)
   ·exact .inr (.inr ⟨e1,e2⟩)
 rcases two with rfl | rfl | ⟨e1,e2⟩
 ·cases a <;> first | exact absurd rfl h1 | rfl | skip
  rename_i xs
  cases b <;> first | rfl | skip
  rename_i ys
  simp [Go.eqGuard,h2 xs ys rfl rfl]
 ·cases a <;> first | exact absurd rfl h1 | rfl | skip
  rename_i xs
  cases b <;> first | rfl | skip
  rename_i ys
  simp [Go.eqGuard,h2 xs ys rfl rfl]
 ·cases op <;> first | exact absurd rfl e1 | exact absurd rfl e2 | rfl
theorem eqOp_ok {x y:DV} {x' y':Value} {b:Bool} (h:eqOp P t x y=some b) (hx:VRel L M x x') (hy:VRel L M y y') (w:World) :
  (Op.equal t x' y').run P w=.ok b w/\x'≠.nilIface/\(∀ xs ys,x'=.agg xs->y'=.agg ys->P.eqGuardType P.depth t=false)/\(∀ k n,x'≠.int k n)/\(∀ s,x'≠.string s)/\(∀ k n,x'≠.float k n)/\(∀ k n m,x'≠.complex k n m):=by
 unfold Op.equal
 obtain ⟨n,hmax,hn40⟩:∃ n,Op.maxDepth=n+1/\40<=n:=⟨9999,rfl,by omega⟩
 rw [hmax]
 unfold eqOp at h
 split at h
 ·rename_i a c
  cases WB hx; cases WB hy
  split at h
  ·rename_i hu
   injection h with h; subst h
   refine ⟨by simp [Op.equalIn,run_underlying hu],by simp,by simp,by simp,by simp,by simp,by simp⟩
  ·exact absurd h (by simp)
 ·rename_i a c
  obtain ⟨vs,rfl,_,_⟩:=Ve hx
  obtain ⟨us,rfl,_,_⟩:=Ve hy
  split at h
  ·exact absurd h (by simp)
  ·rename_i hg
   exact ⟨((eqAt_sound w 40).1 t _ _ _ _ b h hx hy (n+1) (by omega)),by simp,fun _ _ _ _=>by simpa using hg,by simp,by simp,by simp,by simp⟩
 ·cases Wv hy
  split at h
  ·rename_i hu
   unfold isNilSl at h
   split at h
   ·injection h with h; subst h; cases Wv hx
    exact ⟨by simp [Op.equalIn,run_underlying hu],by simp,by simp,by simp,by simp,by simp,by simp⟩
   ·injection h with h; subst h
    cases hx with | p hp=>cases hp with | sl f hsp hc he hm hv=>
    exact ⟨by simp [Op.equalIn,run_underlying hu],by simp,by simp,by simp,by simp,by simp,by simp⟩
   ·injection h with h; subst h
    cases hx with | osl f hl0 hsp hcap hb0 ho hn0 hspr hlen' hm hv=>
    exact ⟨by simp [Op.equalIn,run_underlying hu],by simp,by simp,by simp,by simp,by simp,by simp⟩
   ·injection h with h; subst h
    cases hx with | rsl hl0 hcap hsp hq=>
    exact ⟨by simp [Op.equalIn,run_underlying hu],by simp,by simp,by simp,by simp,by simp,by simp⟩
   ·exact absurd h (by simp)
  ·exact absurd h (by simp)
 ·cases nilmap_of hy
  split at h
  ·rename_i hu
   unfold isNilMap at h
   split at h
   ·injection h with h; subst h; cases nilmap_of hx
    exact ⟨by simp [Op.equalIn,run_underlying hu],by simp,by simp,by simp,by simp,by simp,by simp⟩
   ·injection h with h; subst h
    cases hx with | map hl=>
    exact ⟨by simp [Op.equalIn,run_underlying hu],by simp,by simp,by simp,by simp,by simp,by simp⟩
   ·exact absurd h (by simp)
  ·exact absurd h (by simp)
 ·cases nilptr_of hy
  split at h
  ·rename_i hu
   unfold isNilPtr at h
   split at h
   ·injection h with h; subst h; cases nilptr_of hx
    exact ⟨by simp [Op.equalIn,run_underlying hu],by simp,by simp,by simp,by simp,by simp,by simp⟩
   ·injection h with h; subst h
    cases hx with | ptr hl=>
    exact ⟨by simp [Op.equalIn,run_underlying hu],by simp,by simp,by simp,by simp,by simp,by simp⟩
   ·injection h with h; subst h
    cases hx with | pptr vs hm hv=>
    exact ⟨by simp [Op.equalIn,run_underlying hu],by simp,by simp,by simp,by simp,by simp,by simp⟩
   ·exact absurd h (by simp)
  ·exact absurd h (by simp)
 ·exact absurd h (by simp)
theorem same_binOp {op:BinOp} {xo yo:Operand} {x y r:DV} {x' y':Value} (h:binOp P op t x y=some r) (hx:VRel L M x x') (hy:VRel L M y y') (w:World) :
  Same P (do Go.eqGuard op t xo yo x' y'; Go.binOp op t x' y') w (VRel L M r):=by
 unfold binOp at h
 split at h
 ·rename_i k a k' b
  cases Wd hx; cases Wd hy
  have hg:=guard_ok (P:=P) (t:=t) (op:=op) (xo:=xo) (yo:=yo) (a:=.int k a) (b:=.int k' b) (by simp) (by simp) w
  split at h
  ·obtain ⟨q,hq,rfl⟩:=Option.map_eq_some_iff.1 h
   obtain ⟨v,hv,hr⟩:=run_binShift (P:=P) (M:=M) (t:=t) (yk:=k') hq w
   exact ⟨v,by simp only [Sem.run_bind,hg,Result.andThen_ok,hv],.p hr⟩
  ·obtain ⟨q,hq,rfl⟩:=Option.map_eq_some_iff.1 h
   obtain ⟨v,hv,hr⟩:=run_binShift (P:=P) (M:=M) (t:=t) (yk:=k') hq w
   exact ⟨v,by simp only [Sem.run_bind,hg,Result.andThen_ok,hv],.p hr⟩
  ·split at h
   ·rename_i hk
    subst hk
    obtain ⟨q,hq,rfl⟩:=Option.map_eq_some_iff.1 h
    obtain ⟨v,hv,hr⟩:=run_binInt (P:=P) (M:=M) (t:=t) hq w
    exact ⟨v,by simp only [Sem.run_bind,hg,Result.andThen_ok,hv],.p hr⟩
   ·exact absurd h (by simp)
 ·rename_i a b
  cases Vc hx; cases Vc hy
  have hg:=guard_ok (P:=P) (t:=t) (op:=op) (xo:=xo) (yo:=yo) (a:=.string a) (b:=.string b) (by simp) (by simp) w
  obtain ⟨q,hq,rfl⟩:=Option.map_eq_some_iff.1 h
  obtain ⟨v,hv,hr⟩:=run_binStr (P:=P) (M:=M) (t:=t) hq w
  exact ⟨v,by simp only [Sem.run_bind,hg,Result.andThen_ok,hv],.p hr⟩
 ·split at h
  ·obtain ⟨b,hb,rfl⟩:=Option.map_eq_some_iff.1 h
   obtain ⟨h1,h2,h3,h4,h5,h6,h7⟩:=eqOp_ok hb hx hy w
   have hg:=guard_ok (P:=P) (t:=t) (op:=.eql) (xo:=xo) (yo:=yo) h2 h3 w
   refine ⟨.bool b,?_,.p (.bool b)⟩
   simp only [Sem.run_bind,hg,Result.andThen_ok]
   cases x' <;> first | exact absurd rfl (h4 _ _) | exact absurd rfl (h5 _) | exact absurd rfl (h6 _ _) | exact absurd rfl (h7 _ _ _) | skip
   all_goals (simp only [Go.binOp,Sem.run_bind,h1,Result.andThen_ok]; rfl)
  ·obtain ⟨b,hb,rfl⟩:=Option.map_eq_some_iff.1 h
   obtain ⟨h1,h2,h3,h4,h5,h6,h7⟩:=eqOp_ok hb hx hy w
   have hg:=guard_ok (P:=P) (t:=t) (op:=.neq) (xo:=xo) (yo:=yo) h2 h3 w
   refine ⟨.bool (!b),?_,.p (.bool _)⟩
   simp only [Sem.run_bind,hg,Result.andThen_ok]
   cases x' <;> first | exact absurd rfl (h4 _ _) | exact absurd rfl (h5 _) | exact absurd rfl (h6 _ _) | exact absurd rfl (h7 _ _ _) | skip
   all_goals (simp only [Go.binOp,Sem.run_bind,h1,Result.andThen_ok]; rfl)
  ·exact absurd h (by simp)
theorem same_ifaceNil {op:BinOp} {xo:Operand} {x r:DV} {x':Value} (h:ifaceNil P op t x=some r) (hx:VRel L M x x') (w:World) :
  Same P (do Go.eqGuard op t xo (.const .nilIface) x' .nilIface; Go.binOp op t x' .nilIface) w (VRel L M r):=by
 unfold ifaceNil at h
 have he:∀ {ms:Array (String×TypeId)},P.underlying t=some (.interface ms)->(Op.equal t .nilIface .nilIface).run P w=.ok true w:=fun {ms} hu=>by
  unfold Op.equal
  obtain ⟨n,hmax,_⟩:∃ n,Op.maxDepth=n+1/\40<=n:=⟨9999,rfl,by omega⟩
  rw [hmax]
  simp [Op.equalIn,run_underlying hu]
 split at h
 ·rename_i hu
  injection h with h; subst h
  obtain rfl:x'=.nilIface:=by
   cases hx with | p hp=>cases hp; rfl
  refine ⟨.bool true,?_,.p (.bool _)⟩
  simp [Go.eqGuard,Go.binOp,he hu]
 ·rename_i hu
  injection h with h; subst h
  obtain rfl:x'=.nilIface:=by
   cases hx with | p hp=>cases hp; rfl
  refine ⟨.bool false,?_,.p (.bool _)⟩
  simp [Go.eqGuard,Go.binOp,he hu]
 ·exact absurd h (by simp)
end Go.D
end
/- Maps. -/
section
set_option linter.unusedVariables false
set_option linter.unusedSimpArgs false
namespace Go.D
variable {P : Program} {t : TypeId} {σ σ' : Qa} {L : Locs} {M : Mem} {w : World}
theorem keyOk_sound (w:World) (em:Bool):∀ d:Nat,
  (∀ (t:TypeId) (x:DV) (x':Value),UQ P d t x=true->VRel L M x x'->∀ n,d<=n->(Instr.checkKey em n t x').run P w=.ok () w)/\
  (∀ (fs:List Field) (xs:List DV) (xs':Array Value),keyFields P d fs xs=true->xs'.size=xs.length->(∀ j (h1:j<xs.length) (h2:j<xs'.size),VRel L M xs[j] xs'[j])->∀ n,d<=n->
   (forIn (m := Sem) fs PUnit.unit (fun f _ => if f.name ≠ "_" then do
    let x <-part f.type xs' f.offset
    Instr.checkKey em n f.type x
    pure (ForInStep.yield PUnit.unit) else pure (ForInStep.yield PUnit.unit))).run P w=.ok PUnit.unit w)/\
  (∀ (e:TypeId) (sz k i:Nat) (xs:List DV) (xs':Array Value),keyElems P d e sz xs k i=true->size? P e=some sz->xs'.size=xs.length->(∀ j (h1:j<xs.length) (h2:j<xs'.size),VRel L M xs[j] xs'[j])->∀ n,d<=n->
   (forIn (m:=Sem) (List.range' i k) PUnit.unit (fun i _=>do
    let s <-Go.sizeOf e
    let x <-part e xs' (i*s)
    Instr.checkKey em n e x
    pure (ForInStep.yield PUnit.unit))).run P w=.ok PUnit.unit w):=by
 intro d
 induction d with
 | zero=>exact ⟨fun _ _ _ h=>absurd h (by simp [UQ]),fun _ _ _ h=>absurd h (by simp [keyFields]),fun _ _ _ _ _ _ h=>absurd h (by simp [keyElems])⟩
 | succ d ih=>
  obtain ⟨ihA,ihB,ihC⟩:=ih
  refine ⟨fun t x x' h hx n hn=>?_,fun fs xs xs' h hxn hxv n hn=>?_,fun e sz k i xs xs' h hsz hxn hxv n hn=>?_⟩
  ·obtain ⟨n,rfl⟩:∃ m,n=m+1:=⟨n-1,by omega⟩
   unfold UQ at h
   split at h
   ·rename_i b hu; cases WB hx; simp [Instr.checkKey,run_underlying hu]
   ·rename_i k0 k a hu; cases Wd hx; simp [Instr.checkKey,run_underlying hu]
   ·rename_i a hu; cases Vc hx; simp [Instr.checkKey,run_underlying hu]
   ·rename_i fs xs hu
    obtain ⟨vs,rfl,h1,h2⟩:=Ve hx
    have:=ihB fs.toList xs vs h h1 h2 n (by omega)
    simp only [Instr.checkKey,Sem.run_bind,run_underlying hu,Result.andThen_ok]
    rw [<-Array.forIn_toList,this]
    rfl
   ·rename_i k e xs hu
    obtain ⟨vs,rfl,h1,h2⟩:=Ve hx
    split at h
    ·rename_i sz hsz
     have:=ihC e sz k 0 xs vs h hsz h1 h2 n (by omega)
     simp only [Instr.checkKey,Sem.run_bind,run_underlying hu,Result.andThen_ok,Std.Legacy.Range.forIn_eq_forIn_range',Std.Legacy.Range.size,Nat.sub_zero,Nat.add_sub_cancel,Nat.div_one]
     rw [this]
     rfl
    ·exact absurd h (by simp)
   ·exact absurd h (by simp)
  ·cases fs with
   | nil=>rfl
   | cons f fs=>
    simp only [keyFields] at h
    split at h
    ·rename_i x hx
     simp only [Bool.and_eq_true,decide_eq_true_eq] at h
     obtain ⟨⟨h1,h2⟩,h3⟩:=h
     obtain ⟨x',hxr,hxv'⟩:=Vz hx hxn hxv w
     simp only [List.forIn_cons,ne_eq,h1,not_false_eq_true,if_true,Sem.run_bind,hxr,Result.andThen_ok,ihA _ _ _ h2 hxv' n (by omega),Sem.run_pure]
     exact ihB fs xs xs' h3 hxn hxv n (by omega)
    ·exact absurd h (by simp)
  ·cases k with
   | zero=>rfl
   | succ k=>
    simp only [keyElems] at h
    split at h
    ·rename_i x hx
     simp only [Bool.and_eq_true] at h
     obtain ⟨h2,h3⟩:=h
     obtain ⟨x',hxr,hxv'⟩:=Vz hx hxn hxv w
     simp only [List.range'_succ,List.forIn_cons,Sem.run_bind,Zl hsz,hxr,Result.andThen_ok,ihA _ _ _ h2 hxv' n (by omega),Sem.run_pure]
     exact ihC e sz k (i+1) xs xs' h3 hsz hxn hxv n (by omega)
    ·exact absurd h (by simp)
def Ents (L:Locs) (M:Mem) (es:List (DV×DV)) (vs:List MapEntry):Prop:=vs.length=es.length/\∀ j (h1:j<es.length) (h2:j<vs.length),VRel L M es[j].1 vs[j].key/\VRel L M es[j].2 vs[j].val
theorem Ents.cons {k v:DV} {es:List (DV×DV)} {x:MapEntry} {vs:List MapEntry} (h:Ents L M ((k,v)::es) (x::vs)):VRel L M k x.key/\VRel L M v x.val/\Ents L M es vs:=by
 obtain ⟨h1,h2⟩:=h
 have h0:=h2 0 (by simp) (by simp)
 exact ⟨h0.1,h0.2,by simpa using h1,fun j a b=>by have:=h2 (j+1) (by simpa using a) (by simpa using b); simpa only [List.getElem_cons_succ] using this⟩
def Found (P:Program) (L:Locs) (M:Mem) (kt:TypeId) (k:DV) (es:List (DV×DV)) (i:Nat):Option DV->Option (Nat×Value)->Prop
 | none,none=>True
 | some v,some (j,v')=>VRel L M v v'/\i<=j/\∃ e,es[j-i]?=some (e,v)/\eqAt P 40 kt k e=some true/\(∀ q,q<j-i->∀ e',es[q]?=some e'->eqAt P 40 kt k e'.1=some false)
 | _,_=>False
theorem asking_ok {kt:TypeId} {k:DV} {k':Value} (hk:VRel L M k k') (w:World):∀ (es:List (DV×DV)) (vs:List MapEntry) (i:Nat) (r:Option DV),findKey P kt k es=some r->Ents L M es vs->
  ∃ r':Option (Nat×Value),(Instr.findAsking kt k' vs i).run P w=.ok r' w/\Found P L M kt k es i r r'
 | [],[],i,r,h,_=>by
  simp only [findKey,Option.some.injEq] at h
  subst h
  exact ⟨none,rfl,trivial⟩
 | [],_::_,_,_,_,hE=>absurd hE.1 (by simp)
 | _::_,[],_,_,_,hE=>absurd hE.1 (by simp)
 | (e,v)::es,x::vs,i,r,h,hE=>by
  obtain ⟨h1,h2,h3⟩:=hE.cons
  simp only [findKey] at h
  have heq:∀ b,eqAt P 40 kt k e=some b->(Op.equal kt k' x.key).run P w=.ok b w:=fun b hb=>by
   unfold Op.equal
   exact (eqAt_sound w 40).1 kt _ _ _ _ b hb hk h1 Op.maxDepth (by unfold Op.maxDepth; omega)
  split at h
  ·rename_i hb
   injection h with h; subst h
   refine ⟨some (i,x.val),by simp only [Instr.findAsking,Sem.run_bind,heq true hb,Result.andThen_ok,if_true,Sem.run_pure],h2,Nat.le_refl _,e,by simp,hb,fun q hq=>by omega⟩
  ·rename_i hb
   obtain ⟨r',hr,hm⟩:=asking_ok hk w es vs (i+1) r h h3
   refine ⟨r',by simp only [Instr.findAsking,Sem.run_bind,heq false hb,Result.andThen_ok,Bool.false_eq_true,if_false,hr],?_⟩
   cases r with
   | none=>cases r' with
    | none=>trivial
    | some q=>exact hm.elim
   | some v0=>cases r' with
    | none=>exact hm.elim
    | some q=>
     obtain ⟨j,v'⟩:=q
     obtain ⟨m1,m2,e0,m3,m4,m5⟩:=hm
     refine ⟨m1,by omega,e0,?_,m4,fun q hq e' he'=>?_⟩
     ·rw [show j-i=(j-(i+1))+1 by omega]; simpa using m3
     ·cases q with
      | zero=>simp at he'; subst he'; exact hb
      | succ q=>exact m5 q (by omega) e' (by simpa using he')
  ·exact absurd h (by simp)
theorem now_eq {kt:TypeId} {d:TypeDesc} {k:DV} {k':Value} (hd:P.underlying kt=some d) (hk:VRel L M k k') {e:DV} {e':Value} (he:VRel L M e e') {b:Bool} (h:eqAt P 40 kt k e=some b):Instr.sameNow d k' e'=some b\/Instr.sameNow d k' e'=none:=by
 unfold eqAt at h
 rw [hd] at h
 split at h
 ·rename_i hu; injection hu with hu; subst hu; injection h with h; subst h
  cases WB hk; cases WB he
  exact .inl rfl
 ·rename_i hu; injection hu with hu; subst hu
  cases Wd hk; cases Wd he
  split at h
  ·rename_i hkk; injection h with h; subst h; left; simp [Instr.sameNow,hkk]
  ·exact absurd h (by simp)
 ·rename_i hu; injection hu with hu; subst hu; injection h with h; subst h
  cases Vc hk; cases Vc he
  exact .inl rfl
 ·obtain ⟨vs,rfl,_,_⟩:=Ve hk
  right
  cases d <;> rfl
 ·obtain ⟨vs,rfl,_,_⟩:=Ve hk
  right
  cases d <;> rfl
 ·exact absurd h (by simp)
theorem now_ok {kt:TypeId} {d:TypeDesc} {k:DV} {k':Value} (hd:P.underlying kt=some d) (hk:VRel L M k k') (w:World):∀ (es:List (DV×DV)) (vs:List MapEntry) (i:Nat) (r:Option DV) (r0:Option (Nat×Value)),findKey P kt k es=some r->Ents L M es vs->
  Instr.findNow d k' vs i=some r0->(Instr.findAsking kt k' vs i).run P w=.ok r0 w
 | [],[],i,r,r0,_,_,h0=>by simp only [Instr.findNow,Option.some.injEq] at h0; subst h0; rfl
 | [],_::_,_,_,_,_,hE,_=>absurd hE.1 (by simp)
 | _::_,[],_,_,_,_,hE,_=>absurd hE.1 (by simp)
 | (e,v)::es,x::vs,i,r,r0,h,hE,h0=>by
  obtain ⟨h1,h2,h3⟩:=hE.cons
  simp only [findKey] at h
  have heq:∀ b,eqAt P 40 kt k e=some b->(Op.equal kt k' x.key).run P w=.ok b w:=fun b hb=>by
   unfold Op.equal
   exact (eqAt_sound w 40).1 kt _ _ _ _ b hb hk h1 Op.maxDepth (by unfold Op.maxDepth; omega)
  simp only [Instr.findNow] at h0
  split at h
  ·rename_i hb
   rcases now_eq hd hk h1 hb with hn | hn
   ·rw [hn] at h0
    simp only [Option.some.injEq] at h0
    subst h0
    simp only [Instr.findAsking,Sem.run_bind,heq true hb,Result.andThen_ok,if_true,Sem.run_pure]
   ·rw [hn] at h0; exact absurd h0 (by simp)
  ·rename_i hb
   rcases now_eq hd hk h1 hb with hn | hn
   ·rw [hn] at h0
    simp only [Instr.findAsking,Sem.run_bind,heq false hb,Result.andThen_ok,Bool.false_eq_true,if_false]
    exact now_ok hd hk w es vs (i+1) r r0 h h3 h0
   ·rw [hn] at h0; exact absurd h0 (by simp)
  ·exact absurd h (by simp)
theorem find_ok {kt:TypeId} {d:TypeDesc} {k:DV} {k':Value} (hd:P.underlying kt=some d) (hk:VRel L M k k') (w:World) {es:List (DV×DV)} {vs:List MapEntry} {r:Option DV} (h:findKey P kt k es=some r) (hE:Ents L M es vs) :
  ∃ r':Option (Nat×Value),(Instr.findKey kt k' vs).run P w=.ok r' w/\Found P L M kt k es 0 r r':=by
 obtain ⟨r',hr,hm⟩:=asking_ok (P:=P) hk w es vs 0 r h hE
 refine ⟨r',?_,hm⟩
 simp only [Instr.findKey,Sem.run_bind,run_underlying hd,Result.andThen_ok]
 cases hn:Instr.findNow d k' vs 0 with
 | none=>exact hr
 | some r0=>
  have:=now_ok (P:=P) hd hk w es vs 0 r r0 h hE hn
  rw [hr] at this
  injection this with this
  subst this
  rfl
theorem zeroVal_ok {z:DV} (h:zeroVal P t=some z) (w:World):∃ v,(zeroValue t).run P w=.ok v w/\VRel L M z v:=by
 unfold zeroVal at h
 obtain ⟨v,hv,rfl⟩:=Option.map_eq_some_iff.1 h
 obtain ⟨i,hi,hz⟩:=Option.bind_eq_some_iff.1 hv
 exact ⟨v,by simp [zeroValue,typeInfo,hi,hz],cst_rel v⟩
theorem same_lookup {x k r:DV} {x' k':Value} {ok:Bool} (hs:SRel σ L M w) (h:lookup P t x k ok σ=some r) (hx:VRel L M x x') (hk:VRel L M k k'):Same P (Instr.lookup t x' k' ok) w (VRel L M r):=by
 unfold lookup at h
 split at h
 ·rename_i kt e hu
  split at h
  ·rename_i hko
   have hck:=fun em=>(keyOk_sound (L:=L) (M:=M) w em 40).1 kt k k' hko hk 10000 (by omega)
   have ent:∀ r0,(match x with | .p .nilmap=>some none | .map r=>(match σ[r]? with | some (.map es)=>findKey P kt k es | _=>none) | _=>none)=some r0->
     ∃ (es:List (DV×DV)) (vs:List MapEntry),findKey P kt k es=some r0/\Ents L M es vs/\
      (∀ v r1,(Instr.findKey kt k' vs).run P w=.ok (some (r1,v)) w->(Instr.lookup t x' k' ok).run P w=.ok (if ok then .tuple #[v,.bool true] else v) w)/\
      (∀ v,(Instr.findKey kt k' vs).run P w=.ok none w->(zeroValue e).run P w=.ok v w->(Instr.lookup t x' k' ok).run P w=.ok (if ok then .tuple #[v,.bool false] else v) w):=by
    intro r0 h0
    split at h0
    ·injection h0 with h0; subst h0
     cases nilmap_of hx
     refine ⟨[],[],rfl,⟨rfl,fun j h=>absurd h (by simp)⟩,fun v r1 hr=>?_,fun v hr hz=>?_⟩
     ·simp [Instr.lookup,run_underlying hu,hck,hr]
     ·simp [Instr.lookup,run_underlying hu,hck,hr,hz]
    ·rename_i r1
     cases hx with | map hl=>
     rename_i l
     split at h0
     ·rename_i es hr
      obtain ⟨vs,clock,h1,h2,h3⟩:=hs.row r1 _ l ⟨hr,hl⟩
      refine ⟨es,vs.toList,h0,⟨by simpa using h2,fun j a b=>by simpa using h3 j a (by simpa using b)⟩,fun v r1 hr=>?_,fun v hr hz=>?_⟩
      ·simp [Instr.lookup,run_underlying hu,run_getObj_map w l.b vs clock h1,hck,hr]
      ·simp [Instr.lookup,run_underlying hu,run_getObj_map w l.b vs clock h1,hck,hr,hz]
     ·exact absurd h0 (by simp)
    ·exact absurd h0 (by simp)
   have hkt:∃ d,P.underlying kt=some d:=by
    unfold UQ at hko
    cases hd:P.underlying kt with
    | none=>simp [hd] at hko
    | some d=>exact ⟨d,rfl⟩
   obtain ⟨d,hd⟩:=hkt
   split at h
   ·rename_i v hm
    obtain ⟨es,vs,hf,hE,hrun1,hrun0⟩:=ent _ hm
    obtain ⟨r',hr,hF⟩:=find_ok (P:=P) hd hk w hf hE
    cases r' with
    | none=>exact hF.elim
    | some q=>
     obtain ⟨j,v'⟩:=q
     have hv:=hF.1
     have hrun:=hrun1 v' j hr
     simp only [Same,hrun]
     cases ok
     ·simp only [Bool.false_eq_true,if_false,Option.some.injEq] at h ⊢
      subst h
      exact ⟨v',rfl,hv⟩
     ·simp only [if_true,Option.some.injEq] at h ⊢
      subst h
      exact ⟨_,rfl,.tuple rfl (fun j h1 h2=>by
       match j,h1 with
       | 0,_=>exact hv
       | 1,_=>exact .p (.bool true))⟩
   ·rename_i hm
    obtain ⟨es,vs,hf,hE,hrun1,hrun0⟩:=ent _ hm
    obtain ⟨r',hr,hF⟩:=find_ok (P:=P) hd hk w hf hE
    split at h
    ·rename_i z hz
     obtain ⟨zv,hzr,hzv⟩:=zeroVal_ok (L:=L) (M:=M) hz w
     cases r' with
     | some q=>exact hF.elim
     | none=>
      have hrun:=hrun0 zv hr hzr
      simp only [Same,hrun]
      cases ok
      ·simp only [Bool.false_eq_true,if_false,Option.some.injEq] at h ⊢
       subst h
       exact ⟨zv,rfl,hzv⟩
      ·simp only [if_true,Option.some.injEq] at h ⊢
       subst h
       exact ⟨_,rfl,.tuple rfl (fun j h1 h2=>by
        match j,h1 with
        | 0,_=>exact hzv
        | 1,_=>exact .p (.bool false))⟩
    ·exact absurd h (by simp)
   ·exact absurd h (by simp)
  ·exact absurd h (by simp)
 ·exact absurd h (by simp)
theorem makeMap_ok (lo:Nat) (hs:SRel σ L M w):Un P (Instr.makeMap t none) lo σ L M w (.map σ.length) (σ++[.map []]):=by
 have hfresh:L σ.length 0=none:=hs.fresh _ _ (Nat.le_refl _)
 have hle:=upd_le hfresh ⟨w.heap.size,0,0,0⟩
 have hg:SRel σ L M (w.alloc (.map #[] 0)):=hs.grow (Frm.alloc _ _ _ _) (Mem.le_refl _) (fun _ _ _ h=>.inl h)
 have hsr:SRel (σ++[.map []]) (L.upd σ.length 0 ⟨w.heap.size,0,0,0⟩) M (w.alloc (.map #[] 0)):=by
  refine hg.put σ.length (.map []) ⟨w.heap.size,0,0,0⟩ (C:=fun _ _=>False) (m:=fun _=>False) (fun r hr=>?_) (by simp) (fun r k hr=>by simp [Locs.upd,hr]) (by simp [Locs.upd,Row.ver]) hle (fun v hv=>by simp at hv)
   (Mem.le_refl _) (fun _ _ _ h=>.inl h) (Frm.refl _ _ _) (fun _ _ h=>h.elim) (fun _ _ _ _ _ _ _ _ _ h=>h.elim) (fun _ _ _ _ _ h=>h.elim) ⟨#[],0,heap_alloc_new w _,rfl,fun j h=>absurd h (by simp)⟩
   (by simp [Row.owns]) (by simp [Row.owns]) (by simp [Row.owns]) (fun es he r es' l hne ha=>?_)
  ·rcases Nat.lt_or_ge r σ.length with h1 | h1
   ·rw [List.getElem?_append_left h1]
   ·rw [List.getElem?_eq_none (by simp; omega),List.getElem?_eq_none (by omega)]
  ·have:=hs.map_lt ha
   simp only []
   omega
 have hold:∀ {r row1 l1},At (σ++[.map []]) (L.upd σ.length 0 ⟨w.heap.size,0,0,0⟩) r row1 l1->(r=σ.length/\row1=.map []/\l1=⟨w.heap.size,0,0,0⟩)\/At σ L r row1 l1:=by
  intro r row1 l1 ha
  rcases Nat.lt_trichotomy r σ.length with h1 | h1 | h1
  ·right
   refine ⟨by have:=ha.1; rwa [List.getElem?_append_left h1] at this,?_⟩
   have:=ha.2
   simp only [Locs.upd] at this
   rwa [if_neg (by omega)] at this
  ·left
   subst h1
   have e1:=ha.1
   simp at e1
   subst e1
   have e2:=ha.2
   simp [Locs.upd,Row.ver] at e2
   exact ⟨rfl,rfl,e2.symm⟩
  ·have:=ha.1
   rw [List.getElem?_eq_none (by simp; omega)] at this
   exact absurd this (by simp)
 refine ⟨.map (some w.heap.size),_,_,M,by simp [Instr.makeMap,newObj,Sem.run],⟨hsr,hle,Mem.le_refl _,by simp,fun r h1 h2=>List.getElem?_append_left h2,fun r k h1 h2=>by simp only [Locs.upd]; rw [if_neg (by omega)],Frm.alloc _ _ _ _,fun _ _ _ h=>.inl h,fun b o hw=>?_,fun b hw=>?_⟩,
  VRel.map (l:=⟨w.heap.size,0,0,0⟩) (by simp [Locs.upd])⟩
 ·obtain ⟨r1,row1,l1,h1,h2,h3,h4⟩:=hw
  rcases hold h2 with ⟨_,h5,_⟩ | h5
  ·subst h5; simp [Row.owns] at h3
  ·exact .inl ⟨r1,row1,l1,h1,h5,h3,h4⟩
 ·obtain ⟨r1,es,l1,h1,h2,h3⟩:=hw
  rcases hold h2 with ⟨_,_,rfl⟩ | h5
  ·exact .inr (by simp only [] at h3; omega)
  ·exact .inl ⟨r1,es,l1,h1,h5,h3⟩
theorem post_setMap {lo r:Nat} {es es':List (DV×DV)} {l:Loc} {vs:Array MapEntry} {clock:Nat} (hs:SRel σ L M w) (hlo:lo<=r) (ha:At σ L r (.map es) l) (hE:Ents L M es' vs.toList) :
  Post lo σ L M w (σ.set r (.map es')) L M { w with heap:=w.heap.setIfInBounds l.b (.map vs clock) }:=by
 have hrl:r<σ.length:=(List.getElem?_eq_some_iff.1 ha.1).1
 obtain ⟨vs0,clock0,h1,h2,h3⟩:=hs.row r _ l ha
 have hbl:l.b<w.heap.size:=(Array.getElem?_eq_some_iff.1 h1).1
 have hset:∀ r',r'≠r->(σ.set r (.map es'))[r']?=σ[r']?:=fun r' hr'=>List.getElem?_set_ne (Ne.symm hr')
 have hset0:(σ.set r (.map es'))[r]?=some (.map es'):=by rw [List.getElem?_set_self hrl]
 have hfrm:Frm (fun _ _=>False) (fun b=>b=l.b) w { w with heap:=w.heap.setIfInBounds l.b (.map vs clock) }:=by
  refine ⟨by simp,rfl,rfl,rfl,fun b hb=>?_⟩
  by_cases hbb:l.b=b
  ·subst hbb
   rw [h1]
   simp only [Array.getElem?_setIfInBounds_self,if_pos hbl]
   exact .inl trivial
  ·rw [Array.getElem?_setIfInBounds_ne hbb]
   exact ObjKept.refl _ _ _
 have hsr:=hs.put r (.map es') l hset hset0 (fun _ _ _=>rfl) ha.2 (Locs.le_refl _) (fun v hv=>by simp at hv) (Mem.le_refl _) (fun _ _ _ h=>.inl h) hfrm (fun _ _ h=>h.elim) (fun _ _ _ _ _ _ _ _ _ h=>h.elim)
  (fun r' es1 l1 hne ha1 hb=>(hs.maps r' es1 l1 r es l ha1 ha hne) hb) ⟨vs,clock,by simp [hbl],by simpa using hE.1,fun j a b=>by have:=hE.2 j a (by simpa using b); simpa only [Array.getElem_toList] using this⟩
  (by simp [Row.owns]) (by simp [Row.owns]) (by simp [Row.owns]) (fun es1 _ r' es2 l2 hne ha2=>hs.maps r' es2 l2 r es l ha2 ha hne)
 have hback:∀ {r1 row1 l1},At (σ.set r (.map es')) L r1 row1 l1->(r1=r/\row1=.map es')\/At σ L r1 row1 l1:=by
  intro r1 row1 l1 h
  by_cases hr:r1=r
  ·subst hr
   have e:=h.1
   rw [hset0] at e
   injection e with e
   exact .inl ⟨rfl,e.symm⟩
  ·exact .inr ⟨(hset r1 hr) ▸ h.1,h.2⟩
 refine ⟨hsr,Locs.le_refl _,Mem.le_refl _,by simp,fun r' h1 h2=>hset r' (by omega),fun _ _ _ _=>rfl,hfrm.mono (fun _ _ h=>h.elim) (fun b hb=>⟨r,es,l,hlo,ha,hb.symm⟩),fun _ _ _ h=>.inl h,fun b o h=>?_,fun b h=>?_⟩
 ·obtain ⟨r1,row1,l1,a1,a2,a3,a4⟩:=h
  rcases hback a2 with ⟨_,h5⟩ | h5
  ·subst h5; simp [Row.owns] at a3
  ·exact .inl ⟨r1,row1,l1,a1,h5,a3,a4⟩
 ·obtain ⟨r1,es1,l1,a1,a2,a3⟩:=h
  rcases hback a2 with ⟨rfl,h5⟩ | h5
  ·refine .inl ⟨r1,es,l,hlo,ha,?_⟩
   have e1:=a2.2
   have e2:=ha.2
   rw [h5] at e1
   simp only [Row.ver] at e1 e2
   rw [e1] at e2
   injection e2 with e2
   rw [<-e2]; exact a3
  ·exact .inl ⟨r1,es1,l1,a1,h5,a3⟩
theorem sameScalar_ok {a b:DV} {a' b':Value} (h:sameScalar a b=true) (ha:VRel L M a a') (hb:VRel L M b b') (n:Nat):Instr.sameBits n a' b'=true:=by
 unfold sameScalar at h
 split at h
 ·cases WB ha; cases WB hb; cases n <;> simpa [Instr.sameBits] using h
 ·cases Wd ha; cases Wd hb; cases n <;> simpa [Instr.sameBits] using h
 ·cases Vc ha; cases Vc hb; cases n <;> simpa [Instr.sameBits] using h
 ·exact absurd h (by simp)
theorem sameCells_ok (n:Nat):∀ (as bs:List DV) (as' bs':List Value),Vi as bs=true->as'.length=as.length->(∀ j (h1:j<as.length) (h2:j<as'.length),VRel L M as[j] as'[j])->bs'.length=bs.length->(∀ j (h1:j<bs.length) (h2:j<bs'.length),VRel L M bs[j] bs'[j])->
  as'.length=bs'.length/\((as'.zip bs').all fun q=>Instr.sameBits n q.1 q.2)=true
 | [],[],as',bs',_,h1,_,h3,_=>by
  have e1:as'=[]:=List.eq_nil_of_length_eq_zero h1
  have e2:bs'=[]:=List.eq_nil_of_length_eq_zero h3
  subst e1; subst e2
  exact ⟨rfl,rfl⟩
 | a::as,b::bs,a'::as',b'::bs',h,h1,h2,h3,h4=>by
  simp only [Vi,Bool.and_eq_true] at h
  obtain ⟨h5,h6⟩:=sameCells_ok n as bs as' bs' h.2 (by simpa using h1) (fun j x y=>by have:=h2 (j+1) (by simpa using x) (by simpa using y); simpa only [List.getElem_cons_succ] using this) (by simpa using h3)
   (fun j x y=>by have:=h4 (j+1) (by simpa using x) (by simpa using y); simpa only [List.getElem_cons_succ] using this)
  refine ⟨by simp [h5],?_⟩
  have h7:=sameScalar_ok h.1 (h2 0 (by simp) (by simp)) (h4 0 (by simp) (by simp)) n
  simp only [List.zip_cons_cons,List.all_cons,h6,Bool.and_true]
  exact h7
 | [],_::_,_,_,h,_,_,_,_=>by simp [Vi] at h
 | _::_,[],_,_,h,_,_,_,_=>by simp [Vi] at h
 | _::_,_::_,[],_,_,h1,_,_,_=>by simp at h1
 | _::_,_::_,_::_,[],_,_,_,h3,_=>by simp at h3
theorem sameKey_ok {a b:DV} {a' b':Value} (h:sameKey a b=true) (ha:VRel L M a a') (hb:VRel L M b b'):Instr.sameBits 10000 a' b'=true:=by
 unfold sameKey at h
 split at h
 ·obtain ⟨vs,rfl,h1,h2⟩:=Ve ha
  obtain ⟨us,rfl,h3,h4⟩:=Ve hb
  obtain ⟨h5,h6⟩:=sameCells_ok 9999 _ _ vs.toList us.toList h (by simpa using h1) (fun j x y=>by simpa using h2 j x (by simpa using y)) (by simpa using h3) (fun j x y=>by simpa using h4 j x (by simpa using y))
  have e:(vs.size==us.size)=true:=by simpa using h5
  show (vs.size==us.size&&(vs.toList.zip us.toList).all fun (x,y)=>Instr.sameBits 9999 x y)=true
  rw [e,Bool.true_and]
  exact h6
 ·exact sameScalar_ok h ha hb 10000
theorem updKey_ok {kt:TypeId} {k v:DV}:∀ {es es':List (DV×DV)},UL P kt k v es=some es'->
  (findKey P kt k es=some none/\es'=es++[(k,v)])\/(∃ j e v0,findKey P kt k es=some (some v0)/\es[j]?=some (e,v0)/\eqAt P 40 kt k e=some true/\sameKey e k=true/\es'=es.set j (k,v)/\∀ q,q<j->∀ e',es[q]?=some e'->eqAt P 40 kt k e'.1=some false)
 | [],es',h=>by
  simp only [UL,Option.some.injEq] at h
  exact .inl ⟨rfl,h.symm⟩
 | (e,v0)::es,es',h=>by
  simp only [UL] at h
  split at h
  ·rename_i hb
   split at h
   ·rename_i hsk
    injection h with h
    exact .inr ⟨0,e,v0,by simp [findKey,hb],rfl,hb,hsk,h.symm,fun q hq=>by omega⟩
   ·exact absurd h (by simp)
  ·rename_i hb
   obtain ⟨es1,h1,rfl⟩:=Option.map_eq_some_iff.1 h
   rcases updKey_ok h1 with ⟨h2,rfl⟩ | ⟨j,e1,v1,h2,h3,h30,h4,rfl,h5⟩
   ·exact .inl ⟨by simp [findKey,hb,h2],rfl⟩
   ·refine .inr ⟨j+1,e1,v1,by simp [findKey,hb,h2],by simpa using h3,h30,h4,rfl,fun q hq e' he'=>?_⟩
    cases q with
    | zero=>simp at he'; subst he'; exact hb
    | succ q=>exact h5 q (by omega) e' (by simpa using he')
  ·exact absurd h (by simp)
theorem run_setMap {r:Nat} {es:Array MapEntry} {clock:Nat} (o:Obj) (hb:w.heap[r]?=some (.map es clock)):(setObj r o).run P w=.ok () { w with heap:=w.heap.setIfInBounds r o }:=by
 simp [setObj,Sem.run,hb]
theorem mapUpdate_ok {lo:Nat} {x k v:DV} {x' k' v':Value} (hs:SRel σ L M w) (h:mapUpdate P lo t x k v σ=some σ') (hx:VRel L M x x') (hk:VRel L M k k') (hv:VRel L M v v') :
  ∃ w',(Instr.mapUpdate t x' k' v').run P w=.ok () w'/\Post lo σ L M w σ' L M w':=by
 unfold mapUpdate at h
 split at h
 ·rename_i kt e r hu
  split at h
  ·rename_i hc
   obtain ⟨hlo,hko,hun⟩:=hc
   have hck:=(keyOk_sound (L:=L) (M:=M) w false 40).1 kt k k' hko hk 10000 (by omega)
   cases hx with | map hl=>
   rename_i l
   split at h
   ·rename_i es hr
    obtain ⟨es',he,rfl⟩:=Option.map_eq_some_iff.1 h
    have ha:At σ L r (.map es) l:=⟨hr,hl⟩
    obtain ⟨vs,clock,h1,h2,h3⟩:=hs.row r _ l ha
    have hE:Ents L M es vs.toList:=⟨by simpa using h2,fun j a b=>by simpa using h3 j a (by simpa using b)⟩
    have hkt:∃ d,P.underlying kt=some d:=by
     unfold UQ at hko
     cases hd:P.underlying kt with
     | none=>simp [hd] at hko
     | some d=>exact ⟨d,rfl⟩
    obtain ⟨d,hd⟩:=hkt
    have hget:=run_getObj_map (P:=P) w l.b vs clock h1
    rcases updKey_ok he with ⟨hf,rfl⟩ | ⟨j,e0,v0,hf,hj,heq0,hsk,rfl,hbefore⟩
    ·obtain ⟨r',hr',hF⟩:=find_ok (P:=P) hd hk w hf hE
     cases r' with
     | some q=>exact hF.elim
     | none=>
      refine ⟨_,?_,post_setMap (vs:=vs.push { key:=k',val:=v',born:=clock }) (clock:=clock+1) hs hlo ha ⟨by simp [h2],fun j a b=>?_⟩⟩
      ·have hso:=run_setMap (P:=P) (o:=.map (vs.push { key:=k',val:=v',born:=clock }) (clock+1)) h1
       simp only [Instr.mapUpdate,Sem.run_bind,run_underlying hu,Result.andThen_ok,hget,hck,hr',hso]
      ·simp only [Array.toList_push]
       by_cases hj:j<es.length
       ·rw [List.getElem_append_left hj,List.getElem_append_left (by simpa using (by omega:j<vs.size))]
        exact hE.2 j hj _
       ·have hjn:j=es.length:=by simp at a; omega
        subst hjn
        rw [List.getElem_append_right (Nat.le_refl _),List.getElem_append_right (by simp; omega)]
        simp only [Array.length_toList,h2,Nat.sub_self,List.getElem_cons_zero]
        exact ⟨hk,hv⟩
    ·obtain ⟨r',hr',hF⟩:=find_ok (P:=P) hd hk w hf hE
     cases r' with
     | none=>exact hF.elim
     | some q=>
      obtain ⟨i,v1⟩:=q
      obtain ⟨_,_,e1,hi1,hi2,hi3⟩:=hF
      simp only [Nat.sub_zero] at hi1 hi3
      have hjl:=(List.getElem?_eq_some_iff.1 hj).1
      have hij:i=j:=by
       rcases Nat.lt_trichotomy i j with hlt | heq | hgt
       ·have:=hbefore i hlt _ hi1
        rw [hi2] at this; exact absurd this (by simp)
       ·exact heq
       ·have h5:=hi3 j hgt _ hj
        rw [heq0] at h5; exact absurd h5 (by simp)
      subst hij
      have hil:i<vs.size:=by omega
      have hold:=hE.2 i hjl (by simpa using hil)
      have he0:es[i]=(e0,v0):=(List.getElem?_eq_some_iff.1 hj).2
      have hkeep:(Instr.keyThatStays (((vs[i]?).map (·.key)).getD k') k').run P w=.ok k' w:=by
       have:Instr.sameBits 10000 (((vs[i]?).map (·.key)).getD k') k'=true:=by
        rw [Array.getElem?_eq_getElem hil]
        rw [he0] at hold
        simpa using sameKey_ok hsk hold.1 hk
       unfold Instr.keyThatStays
       rw [if_pos this]
       rfl
      refine ⟨_,?_,post_setMap (vs:=vs.modify i fun e=>{ e with key:=k',val:=v' }) (clock:=clock) hs hlo ha ⟨by simp [h2],fun q a b=>?_⟩⟩
      ·have hso:=run_setMap (P:=P) (o:=.map (vs.modify i fun e=>{ e with key:=k',val:=v' }) clock) h1
       simp only [Instr.mapUpdate,Sem.run_bind,run_underlying hu,Result.andThen_ok,hget,hck,hr',hkeep,hso]
      ·simp only [Array.getElem_toList,Array.getElem_modify,List.getElem_set]
       simp at a
       by_cases hq:i=q
       ·subst hq
        simp only [if_true]
        exact ⟨hk,hv⟩
       ·simp only [hq,if_false]
        have:=hE.2 q a (by simpa using (by omega:q<vs.size))
        simpa using this
   ·exact absurd h (by simp)
  ·exact absurd h (by simp)
 ·exact absurd h (by simp)
end Go.D
end
