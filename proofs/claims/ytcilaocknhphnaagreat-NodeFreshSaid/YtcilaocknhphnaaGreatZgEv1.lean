/-
  
-/
import Derived.Laws.StructEq
import Derived.Still
namespace Go.Proofs.YtcilaocknhphnaaGreat.Ev
inductive AV where
  | junk | bad
  | bool (b : Bool) | int (k : IntKind) (n : Int) | str (l : List Nat)
  | nilp | ptr (b o : Nat)
  | nils | sl (b o n c q : Nat)
  | nilm | map (b : Nat)
  | fn (f : Nat) (fst cap : List AV) | nilf
  | agg (l : List AV) | tup (l : List AV)
  | it (b : Nat) | yl (b : Nat)
inductive Ex where
  | normal | exit (id : Nat) | ret
inductive T (α : Type) where
  | lf | nd (v : α) (c0 c1 c2 c3 c4 c5 c6 c7 : T α)
abbrev Tm:=T AV
inductive Blk where
  | row (t : TypeId) (cs : List AV)
  | map (es : List (AV × AV))
  | iter (m : Nat) (left : List (AV × AV)) (cur : List (AV × AV))
  | loop (N : Nat) (tm : Tm) (ps : List Tmp) (a b : Code) (pend : Option Ex)
  | gone
structure H where
  h : T Blk
  n : Nat
  lo : Nat
inductive V2 where
  | no | one (v : AV) (h : H) | alt (x y : V2)
inductive O3 where
  | no | one (e : Ex) (tm : Tm) (h : H) | alt (x y : O3)
def iteB {α:Type} (b:Bool) (x y:α):α:=Bool.casesOn b y x
def ob {α β:Type} (z:β) (x:Option α) (f:α->β):β:=Option.casesOn x z f
def V2.fold (f:AV->H->V2):V2->V2
 | .no=>.no
 | .one v h=>f v h
 | .alt x y=>.alt (x.fold f) (y.fold f)
def V2.bnd (x:V2) (f:AV->H->V2):V2:=V2.casesOn x .no f fun x y=>.alt (x.fold f) (y.fold f)
def V2.foldO (f:AV->H->O3):V2->O3
 | .no=>.no
 | .one v h=>f v h
 | .alt x y=>.alt (x.foldO f) (y.foldO f)
def V2.bndO (x:V2) (f:AV->H->O3):O3:=V2.casesOn x .no f fun x y=>.alt (x.foldO f) (y.foldO f)
def O3.fold (f:Ex->Tm->H->O3):O3->O3
 | .no=>.no
 | .one e t h=>f e t h
 | .alt x y=>.alt (x.fold f) (y.fold f)
def O3.bnd (x:O3) (f:Ex->Tm->H->O3):O3:=O3.casesOn x .no f fun x y=>.alt (x.fold f) (y.fold f)
def O3.foldV (f:Ex->Tm->H->V2):O3->V2
 | .no=>.no
 | .one e t h=>f e t h
 | .alt x y=>.alt (x.foldV f) (y.foldV f)
def O3.bndV (x:O3) (f:Ex->Tm->H->V2):V2:=O3.casesOn x .no f fun x y=>.alt (x.foldV f) (y.foldV f)
def appL {α:Type}:List α->List α->List α
 | [],m=>m
 | x :: l,m=>x :: appL l m
structure Acc (α : Type) where
  run : T α → α
def accH {α:Type} (d:α):Acc α:=⟨fun t=>T.casesOn t d fun v _ _ _ _ _ _ _ _=>v⟩
def acc0 {α:Type} (d:α) (a:Acc α):Acc α:=⟨fun t=>T.casesOn t d fun _ c0 _ _ _ _ _ _ _=>a.run c0⟩
def acc1 {α:Type} (d:α) (a:Acc α):Acc α:=⟨fun t=>T.casesOn t d fun _ _ c1 _ _ _ _ _ _=>a.run c1⟩
def acc2 {α:Type} (d:α) (a:Acc α):Acc α:=⟨fun t=>T.casesOn t d fun _ _ _ c2 _ _ _ _ _=>a.run c2⟩
def acc3 {α:Type} (d:α) (a:Acc α):Acc α:=⟨fun t=>T.casesOn t d fun _ _ _ _ c3 _ _ _ _=>a.run c3⟩
def acc4 {α:Type} (d:α) (a:Acc α):Acc α:=⟨fun t=>T.casesOn t d fun _ _ _ _ _ c4 _ _ _=>a.run c4⟩
def acc5 {α:Type} (d:α) (a:Acc α):Acc α:=⟨fun t=>T.casesOn t d fun _ _ _ _ _ _ c5 _ _=>a.run c5⟩
def acc6 {α:Type} (d:α) (a:Acc α):Acc α:=⟨fun t=>T.casesOn t d fun _ _ _ _ _ _ _ c6 _=>a.run c6⟩
def acc7 {α:Type} (d:α) (a:Acc α):Acc α:=⟨fun t=>T.casesOn t d fun _ _ _ _ _ _ _ _ c7=>a.run c7⟩
def accK {α:Type} (d:α) (a:Acc α) (k:Nat):Acc α:=iteB (Nat.beq k 0) (acc0 d a) (iteB (Nat.beq k 1) (acc1 d a) (iteB (Nat.beq k 2) (acc2 d a) (iteB (Nat.beq k 3) (acc3 d a) (iteB (Nat.beq k 4) (acc4 d a) (iteB (Nat.beq k 5) (acc5 d a) (iteB (Nat.beq k 6) (acc6 d a) (acc7 d a)))))))
def accF {α:Type} (d:α):Nat->Nat->Acc α
 | 0,_=>⟨fun _=>d⟩
 | fuel+1,n=>Nat.casesOn n (accH d) fun m=>accK d (accF d fuel (Nat.div m 8)) (Nat.mod m 8)
def acc {α:Type} (d:α) (n:Nat):Acc α:=accF d (Nat.add n 1) n
structure Upd (α : Type) where
  run : T α → α → T α
def updH {α:Type}:Upd α:=⟨fun t x=>T.casesOn t (.nd x .lf .lf .lf .lf .lf .lf .lf .lf) fun _ c0 c1 c2 c3 c4 c5 c6 c7=>.nd x c0 c1 c2 c3 c4 c5 c6 c7⟩
def upd0 {α:Type} (d:α) (a:Upd α):Upd α:=⟨fun t x=>T.casesOn t (.nd d (a.run .lf x) .lf .lf .lf .lf .lf .lf .lf) fun v c0 c1 c2 c3 c4 c5 c6 c7=>.nd v (a.run c0 x) c1 c2 c3 c4 c5 c6 c7⟩
def upd1 {α:Type} (d:α) (a:Upd α):Upd α:=⟨fun t x=>T.casesOn t (.nd d .lf (a.run .lf x) .lf .lf .lf .lf .lf .lf) fun v c0 c1 c2 c3 c4 c5 c6 c7=>.nd v c0 (a.run c1 x) c2 c3 c4 c5 c6 c7⟩
def upd2 {α:Type} (d:α) (a:Upd α):Upd α:=⟨fun t x=>T.casesOn t (.nd d .lf .lf (a.run .lf x) .lf .lf .lf .lf .lf) fun v c0 c1 c2 c3 c4 c5 c6 c7=>.nd v c0 c1 (a.run c2 x) c3 c4 c5 c6 c7⟩
def upd3 {α:Type} (d:α) (a:Upd α):Upd α:=⟨fun t x=>T.casesOn t (.nd d .lf .lf .lf (a.run .lf x) .lf .lf .lf .lf) fun v c0 c1 c2 c3 c4 c5 c6 c7=>.nd v c0 c1 c2 (a.run c3 x) c4 c5 c6 c7⟩
def upd4 {α:Type} (d:α) (a:Upd α):Upd α:=⟨fun t x=>T.casesOn t (.nd d .lf .lf .lf .lf (a.run .lf x) .lf .lf .lf) fun v c0 c1 c2 c3 c4 c5 c6 c7=>.nd v c0 c1 c2 c3 (a.run c4 x) c5 c6 c7⟩
def upd5 {α:Type} (d:α) (a:Upd α):Upd α:=⟨fun t x=>T.casesOn t (.nd d .lf .lf .lf .lf .lf (a.run .lf x) .lf .lf) fun v c0 c1 c2 c3 c4 c5 c6 c7=>.nd v c0 c1 c2 c3 c4 (a.run c5 x) c6 c7⟩
def upd6 {α:Type} (d:α) (a:Upd α):Upd α:=⟨fun t x=>T.casesOn t (.nd d .lf .lf .lf .lf .lf .lf (a.run .lf x) .lf) fun v c0 c1 c2 c3 c4 c5 c6 c7=>.nd v c0 c1 c2 c3 c4 c5 (a.run c6 x) c7⟩
def upd7 {α:Type} (d:α) (a:Upd α):Upd α:=⟨fun t x=>T.casesOn t (.nd d .lf .lf .lf .lf .lf .lf .lf (a.run .lf x)) fun v c0 c1 c2 c3 c4 c5 c6 c7=>.nd v c0 c1 c2 c3 c4 c5 c6 (a.run c7 x)⟩
def updK {α:Type} (d:α) (a:Upd α) (k:Nat):Upd α:=iteB (Nat.beq k 0) (upd0 d a) (iteB (Nat.beq k 1) (upd1 d a) (iteB (Nat.beq k 2) (upd2 d a) (iteB (Nat.beq k 3) (upd3 d a) (iteB (Nat.beq k 4) (upd4 d a) (iteB (Nat.beq k 5) (upd5 d a) (iteB (Nat.beq k 6) (upd6 d a) (upd7 d a)))))))
def updF {α:Type} (d:α):Nat->Nat->Upd α
 | 0,_=>⟨fun t _=>t⟩
 | fuel+1,n=>Nat.casesOn n updH fun m=>updK d (updF d fuel (Nat.div m 8)) (Nat.mod m 8)
def upd {α:Type} (d:α) (n:Nat):Upd α:=updF d (Nat.add n 1) n
def drop1 {α:Type}:Nat->List α->List α
 | 0,l=>l
 | n+1,l=>List.casesOn l [] fun _ t=>drop1 n t
def tail8 {α:Type} (l:List α):List α:=
 List.casesOn l [] fun _ l=>List.casesOn l [] fun _ l=>List.casesOn l [] fun _ l=>List.casesOn l [] fun _ l=>
 List.casesOn l [] fun _ l=>List.casesOn l [] fun _ l=>List.casesOn l [] fun _ l=>List.casesOn l [] fun _ l=>l
def drop8 {α:Type}:Nat->List α->List α
 | 0,l=>l
 | n+1,l=>drop8 n (tail8 l)
def dropA {α:Type} (n:Nat) (l:List α):List α:=drop1 (Nat.mod n 8) (drop8 (Nat.div n 8) l)
def takeA {α:Type}:Nat->List α->Option (List α)
 | 0,_=>some []
 | n+1,l=>List.casesOn l none fun x t=>ob none (takeA n t) fun r=>some (x :: r)
def headA {α:Type} (l:List α):Option α:=List.casesOn l none fun x _=>some x
def lenL {α:Type}:List α->Nat
 | []=>0
 | _ :: t=>Nat.add (lenL t) 1
def overA {α:Type}:List α->List α->Option (List α)
 | [],cs=>some cs
 | v :: vs,cs=>List.casesOn cs none fun _ t=>ob none (overA vs t) fun r=>some (v :: r)
def splice {α:Type}:Nat->List α->List α->Option (List α)
 | 0,vs,cs=>overA vs cs
 | o+1,vs,cs=>List.casesOn cs none fun c t=>ob none (splice o vs t) fun r=>some (c :: r)
def mapL {α β:Type} (f:α->β):List α->List β
 | []=>[]
 | x :: l=>f x :: mapL f l
def rep {α:Type}:Nat->List α->List α
 | 0,_=>[]
 | n+1,z=>appL z (rep n z)
def andB (a b:Bool):Bool:=Bool.casesOn a false b
def eqNs:List Nat->List Nat->Bool
 | [],b=>List.casesOn b true fun _ _=>false
 | x :: a,b=>List.casesOn b false fun y t=>iteB (Nat.beq x y) (eqNs a t) false
def ltNs:List Nat->List Nat->Bool
 | [],b=>List.casesOn b false fun _ _=>true
 | x :: a,b=>List.casesOn b false fun y t=>iteB (Nat.beq x y) (ltNs a t) (Nat.blt x y)
def kn:IntKind->Nat
 | .i8=>0 | .i16=>1 | .i32=>2 | .i64=>3 | .u8=>4 | .u16=>5 | .u32=>6 | .u64=>7
def eqI:Int->Int->Bool
 | .ofNat a,.ofNat b=>Nat.beq a b
 | .negSucc a,.negSucc b=>Nat.beq a b
 | _,_=>false
def ltI:Int->Int->Bool
 | .ofNat a,.ofNat b=>Nat.blt a b
 | .negSucc a,.negSucc b=>Nat.blt b a
 | .negSucc _,.ofNat _=>true
 | .ofNat _,.negSucc _=>false
def sameC:AV->AV->Bool
 | .bad,.bad=>true
 | .bool a,.bool b=>a == b
 | .int j a,.int k b=>andB (Nat.beq (kn j) (kn k)) (eqI a b)
 | .str a,.str b=>eqNs a b
 | .nilp,.nilp=>true
 | .ptr a o,.ptr b q=>andB (Nat.beq a b) (Nat.beq o q)
 | .nils,.nils=>true
 | .sl a o n c e,.sl b p m d f=>andB (Nat.beq a b) (andB (Nat.beq o p) (andB (Nat.beq n m) (andB (Nat.beq c d) (Nat.beq e f))))
 | .nilm,.nilm=>true
 | .map a,.map b=>Nat.beq a b
 | .nilf,.nilf=>true
 | _,_=>false
def sameL:List AV->List AV->Bool
 | [],y=>List.casesOn y true fun _ _=>false
 | a :: x,y=>List.casesOn y false fun b t=>iteB (sameC a b) (sameL x t) false
def sameV:AV->AV->Bool
 | .agg a,.agg b=>sameL a b
 | .tup a,.tup b=>sameL a b
 | .fn f a b,.fn g c d=>andB (Nat.beq f g) (andB (sameL a c) (sameL b d))
 | a,b=>sameC a b
def cellsOf:AV->Option (List AV)
 | .agg l=>some l
 | .junk=>none
 | .bad=>none
 | .tup _=>none
 | .it _=>none
 | .yl _=>none
 | v=>some [v]
def ofC:Value->AV
 | .bool b=>.bool b
 | .int k n=>.int k n
 | .string s=>.str (s.data.toList.map UInt8.toNat)
 | .pointer none=>.nilp
 | .slice none 0 0=>.nils
 | .map none=>.nilm
 | .nilFunc=>.nilf
 | _=>.junk
def isBad:AV->Bool
 | .junk=>true
 | _=>false
def ofV:Value->AV
 | .agg ⟨cs⟩=>iteB (cs.any fun c=>isBad (ofC c)) .junk (.agg (cs.map ofC))
 | v=>ofC v
section
variable (P : Program)
structure TI where
  size : Nat
  agg : Bool
  one : Bool
  kn : Bool
  desc : TypeDesc
  zero : List AV
  zok : Bool
def isOneD:TypeDesc->Bool
 | .struct _=>false
 | .array ..=>false
 | .invalid=>false
 | _=>true
def isAggD:TypeDesc->Bool
 | .struct _=>true
 | .array ..=>true
 | _=>false
def atL {α:Type} (n:Nat) (l:List α):Option α:=List.casesOn (dropA n l) none fun x _=>some x
def infF (t:TypeId):Option TypeInfo:=Option.casesOn (atL t P.types.toList) (P.info? t) some
def undI (i:TypeInfo):Option TypeDesc:=match i.desc with
 | .named _ u=>(infF P u).map (·.desc)
 | d=>some d
structure IC where
  i : Option TypeInfo
def infC (t:TypeId):IC:=⟨infF P t⟩
def zeroI (i:Option TypeInfo):Option AV:=ob none i fun i=>ob none i.zero fun v=>iteB (isBad (ofV v)) none (some (ofV v))
def isSomeB {α:Type} (o:Option α):Bool:=Option.casesOn o false fun _=>true
def tiO (i:Option TypeInfo) (d:TypeDesc) (z:Option (List AV)) (n:Nat):TI:=⟨n,isAggD d,isOneD d,isSomeB i,d,z.getD [],ob false z fun z=>Nat.beq (lenL z) n⟩
def sizeI (i:Option TypeInfo):Nat:=ob 0 i fun i=>i.size
def descI (i:Option TypeInfo):TypeDesc:=ob .invalid i fun i=>(undI P i).getD .invalid
def zeroA (t:TypeId):Option AV:=zeroI (infC P t).i
def zcells (t:TypeId):Option (List AV):=ob none (zeroA P t) cellsOf
def ti (t:TypeId):TI:=tiO (infC P t).i (descI P (infC P t).i) (zcells P t) (sizeI (infC P t).i)
def bytesT (t:TypeId):Nat:=ob 0 (infC P t).i fun i=>i.bytes
def H.blk (h:H) (b:Nat):Blk:=H.casesOn h fun t _ _=>(acc Blk.gone b).run t
def H.put (h:H) (b:Nat) (x:Blk):Option H:=H.casesOn h fun t n lo=>iteB (Nat.ble lo b) (some ⟨(upd Blk.gone b).run t x,n,lo⟩) none
def H.add (h:H) (x:Blk):H:=H.casesOn h fun t n lo=>⟨(upd Blk.gone n).run t x,Nat.add n 1,lo⟩
def isRow:Blk->Option (List AV)
 | .row _ cs=>some cs
 | _=>none
def typeRow:Blk->Nat
 | .row t _=>t
 | _=>0
def H.row (h:H) (b:Nat):Option (List AV):=isRow (h.blk b)
def isMap:Blk->Option (List (AV × AV))
 | .map es=>some es
 | _=>none
def part (t:TypeId) (cs:List AV):Option AV:=iteB (ti P t).one (headA cs) (iteB (ti P t).agg (ob none (takeA (ti P t).size cs) fun l=>some (.agg l)) none)
abbrev Opd:=Acc AV
def opd:Operand->Acc AV
 | .tmp t=>acc AV.bad t
 | .const v=>⟨fun _=>ofV v⟩
 | .func f=>⟨fun _=>.fn f [] []⟩
 | .global _=>⟨fun _=>.junk⟩
structure LC where
  run : Tm → List AV
def consL (a:Acc AV) (r:LC):LC:=⟨fun tm=>a.run tm :: r.run tm⟩
def getsC:List Operand->LC
 | []=>⟨fun _=>[]⟩
 | o :: l=>consL (opd o) (getsC l)
def natOf:AV->Option Nat
 | .int _ (.ofNat n)=>some n
 | _=>none
def isB:AV->Option Bool
 | .bool b=>some b
 | _=>none
def isAgg:AV->Option (List AV)
 | .agg cs=>some cs
 | _=>none
def isTup:AV->Option (List AV)
 | .tup cs=>some cs
 | _=>none
def isMapV:AV->Option Nat
 | .map b=>some b
 | _=>none
def isIt:AV->Option Nat
 | .it b=>some b
 | _=>none
def atPtr {β:Type} (z:β) (v:AV) (f:Nat->Nat->β):β:=match v with
 | .ptr b o=>f b o
 | _=>z
abbrev CallF:=List Nat->List AV->H->V2
abbrev OpF:=CallF->Tm->H->V2
inductive OpC where
  | mv (f : Tm → AV)
  | pr (f : Tm → Option AV)
  | rd (f : Tm → H → Option AV)
  | ge (f : OpF)
def failC:OpC:=.pr fun _=>none
def pureC (f:Tm->Option AV):OpC:=.pr f
def readC (f:Tm->H->Option AV):OpC:=.rd f
def oMove (x:Opd):OpC:=.mv fun tm=>x.run tm
def oPick (c a b:Opd):OpC:=.pr fun tm=>ob none (isB (c.run tm)) fun q=>some (iteB q (a.run tm) (b.run tm))
def newPtr (h:H) (t:TypeId) (cs:List AV):V2:=.one (.ptr h.n 0) (h.add (.row t cs))
def oAlloc (t:TypeId):OpC:=.ge (fun _ _ h=>ob .no (zcells P t) fun z=>newPtr h t z)
def oBox (t:TypeId) (x:Opd):OpC:=.ge (fun _ tm h=>ob .no (cellsOf (x.run tm)) fun z=>newPtr h t z)
def fillP (place:Nat->Option (Nat × Nat)) (tm:Tm):List (Nat × Operand)->List AV->Option (List AV)
 | [],z=>some z
 | p :: ps,z=>ob none (place p.1) fun q=>ob none (cellsOf ((opd p.2).run tm)) fun cs=>iteB (Nat.beq (lenL cs) q.2) (ob none (splice q.1 cs z) (fillP place tm ps)) none
def placeS (fs:Array Field) (i:Nat):Option (Nat × Nat):=match fs[i]? with
 | some f=>some (f.offset,(ti P f.type).size)
 | none=>none
def placeOf:TypeDesc->Nat->Option (Nat × Nat)
 | .struct fs=>placeS P fs
 | .array _ e=>fun i=>some (Nat.mul i (ti P e).size,(ti P e).size)
 | _=>fun _=>none
def allB {α:Type} (f:α->Bool):List α->Bool
 | []=>true
 | x :: l=>iteB (f x) (allB f l) false
def buildOk:TypeDesc->Bool
 | .struct fs=>allB (fun f=>(ti P f.type).kn) fs.toList
 | .array _ e=>(ti P e).kn
 | _=>false
def oBuild (t:TypeId) (ps:Array (Nat × Operand)):OpC:=iteB (buildOk P (ti P t).desc)
 (pureC fun tm=>ob none (zcells P t) fun z=>ob none (fillP (placeOf P (ti P t).desc) tm ps.toList z) fun l=>some (.agg l)) (.pr fun _=>none)
def elemD:TypeDesc->Option TypeId
 | .slice e=>some e
 | _=>none
structure ElC where
  l : Option TypeId
def elemS (t:TypeId):ElC:=⟨elemD (ti P t).desc⟩
def newRow (h:H) (t:TypeId) (cs:List AV) (n q:Nat):V2:=.one (.sl h.n 0 n n q) (h.add (.row t cs))
def oBuildSlice (t:TypeId) (n:Nat) (ps:Array (Nat × Operand)):OpC:=.ge (fun _ tm h=>
 ob .no (elemS P t).l fun e=>iteB (andB (ti P e).zok (Nat.ble (Nat.mul n (ti P e).size) 16777216))
  (ob .no (fillP (fun i=>some (Nat.mul i (ti P e).size,(ti P e).size)) tm ps.toList (rep n (ti P e).zero)) fun l=>newRow h e l n 0) .no)
def loadAt (h:H) (t:TypeId) (b o:Nat):Option AV:=ob none (h.row b) fun r=>part P t (dropA o r)
def oLoad (t:TypeId) (a:Opd):OpC:=.rd fun tm h=>atPtr none (a.run tm) fun b o=>loadAt P h t b o
def layRow (h:H) (b o:Nat) (cs:List AV) (f:H->V2):V2:=
 ob .no (h.row b) fun r=>ob .no (splice o cs r) fun cs=>ob .no (h.put b (.row (typeRow (h.blk b)) cs)) f
def oStore (t:TypeId) (a x:Opd):OpC:=iteB (ti P t).kn (.ge fun _ tm h=>atPtr .no (a.run tm) fun b o=>ob .no (cellsOf (x.run tm)) fun cs=>
 iteB (Nat.beq (lenL cs) (ti P t).size) (layRow h b o cs fun h=>.one .bad h) .no) (.pr fun _=>none)
def notNil:AV->Option AV
 | .ptr b o=>some (.ptr b o)
 | .fn f a b=>some (.fn f a b)
 | _=>none
def oNil (x:Opd):OpC:=pureC fun tm=>notNil (x.run tm)
def two63:Nat:=9223372036854775808
def wrapF (k:IntKind) (n:Int):Int:=
 match k,n with
 | .i64,.ofNat m=>iteB (Nat.ble two63 m) (IntKind.i64.wrap (.ofNat m)) (.ofNat m)
 | k,n=>k.wrap n
def addI:Int->Int->Int
 | .ofNat a,.ofNat b=>.ofNat (Nat.add a b)
 | a,b=>Int.add a b
def intOp (op:BinOp) (k:IntKind) (a b:Int):Option AV:=
 match op with
 | .add=>some (.int k (wrapF k (addI a b)))
 | .sub=>some (.int k (wrapF k (Int.sub a b)))
 | .mul=>some (.int k (wrapF k (Int.mul a b)))
 | .quo=>iteB (eqI b 0) none (some (.int k (wrapF k (Int.tdiv a b))))
 | .rem=>iteB (eqI b 0) none (some (.int k (Int.tmod a b)))
 | .and=>some (.int k (k.wrap (BitVec.ofInt k.bits a &&& BitVec.ofInt k.bits b).toNat))
 | .or=>some (.int k (k.wrap (BitVec.ofInt k.bits a ||| BitVec.ofInt k.bits b).toNat))
 | .xor=>some (.int k (k.wrap (BitVec.ofInt k.bits a ^^^ BitVec.ofInt k.bits b).toNat))
 | .eql=>some (.bool (eqI a b))
 | .neq=>some (.bool (not (eqI a b)))
 | .lss=>some (.bool (ltI a b))
 | .leq=>some (.bool (not (ltI b a)))
 | .gtr=>some (.bool (ltI b a))
 | .geq=>some (.bool (not (ltI a b)))
 | _=>none
def shOp (op:BinOp) (k:IntKind) (a b:Int):Option AV:=
 match op with
 | .shl=>iteB (ltI b 0) none (some (.int k (k.wrap (a*2 ^ (min b.toNat k.bits)))))
 | .shr=>iteB (ltI b 0) none (some (.int k (a.fdiv (2 ^ (min b.toNat k.bits)))))
 | _=>none
def isSh:BinOp->Bool
 | .shl=>true
 | .shr=>true
 | _=>false
def strOp (op:BinOp) (a b:List Nat):Option AV:=
 match op with
 | .add=>iteB (Nat.ble (Nat.add (lenL a) (lenL b)) 1099511627776) (some (.str (appL a b))) none
 | .eql=>some (.bool (eqNs a b))
 | .neq=>some (.bool (not (eqNs a b)))
 | .lss=>some (.bool (ltNs a b))
 | .gtr=>some (.bool (ltNs b a))
 | .leq=>some (.bool (not (ltNs b a)))
 | .geq=>some (.bool (not (ltNs a b)))
 | _=>none
def eqC:AV->AV->Option Bool
 | .bool a,.bool b=>some (a == b)
 | .int j a,.int k b=>iteB (Nat.beq (kn j) (kn k)) (some (eqI a b)) none
 | .str a,.str b=>some (eqNs a b)
 | _,_=>none
def eqL:List AV->List AV->Option Bool
 | [],y=>List.casesOn y (some true) fun _ _=>none
 | a :: x,y=>List.casesOn y none fun b t=>ob none (eqC a b) fun r=>ob none (eqL x t) fun s=>some (andB r s)
def flatF (ih:TypeId->Option (List Nat)):List Field->Nat->Option (List Nat)
 | [],_=>some []
 | f :: fs,off=>iteB (andB (Nat.beq f.offset off) (not (f.name == "_")))
   (ob none (ih f.type) fun l=>iteB (Nat.beq (lenL l) ((ti P f.type).size)) (ob none (flatF ih fs (Nat.add off (lenL l))) fun r=>some (appL l r)) none) none
def flat:Nat->TypeId->Option (List Nat)
 | 0,_=>none
 | d+1,t=>match (infC P t).i.bind (undI P) with
   | some .bool=>some [8]
   | some (.int k)=>some [kn k]
   | some .string=>some [9]
   | some (.struct fs)=>iteB (P.stoodInHeld t) none (flatF P (flat d) fs.toList 0)
   | some (.array n e)=>ob none (flat d e) fun l=>iteB (Nat.beq (lenL l) (ti P e).size) (some (rep n l)) none
   | _=>none
structure FlatC where
  l : Option (List Nat)
def flatC (t:TypeId):FlatC:=⟨flat P 8 t⟩
def cellKind:AV->Nat
 | .bool _=>8
 | .int k _=>kn k
 | .str _=>9
 | _=>99
def fits:List Nat->List AV->Bool
 | [],y=>List.casesOn y true fun _ _=>false
 | k :: ks,y=>List.casesOn y false fun b t=>iteB (Nat.beq (cellKind b) k) (fits ks t) false
def eqAgg (t:TypeId) (a b:List AV):Option Bool:=
 ob none (flatC P t).l fun ks=>iteB (andB (fits ks a) (fits ks b)) (eqL a b) none
def eqV (t:TypeId):AV->AV->Option Bool
 | .agg a,.agg b=>eqAgg P t a b
 | .bool a,.bool b=>some (a == b)
 | .int j a,.int k b=>iteB (Nat.beq (kn j) (kn k)) (some (eqI a b)) none
 | .str a,.str b=>some (eqNs a b)
 | .nilp,.nilp=>some true
 | .nilp,.ptr ..=>some false
 | .ptr ..,.nilp=>some false
 | .nils,.nils=>some true
 | .nils,.sl ..=>some false
 | .sl ..,.nils=>some false
 | .nilm,.nilm=>some true
 | .nilm,.map ..=>some false
 | .map ..,.nilm=>some false
 | .nilf,.nilf=>some true
 | .fn ..,.nilf=>some false
 | .nilf,.fn ..=>some false
 | _,_=>none
def eqT:TypeDesc->AV->Bool
 | .bool,.bool _=>true
 | .int _,.int ..=>true
 | .string,.str _=>true
 | .pointer _,.nilp=>true
 | .pointer _,.ptr ..=>true
 | .slice _,.nils=>true
 | .slice _,.sl ..=>true
 | .map _ _,.nilm=>true
 | .map _ _,.map _=>true
 | .func _ _ _,.nilf=>true
 | .func _ _ _,.fn ..=>true
 | .struct _,.agg _=>true
 | .array _ _,.agg _=>true
 | _,_=>false
def eqOp (op:BinOp) (t:TypeId) (x y:AV):Option AV:=
  iteB (andB (andB (eqT (ti P t).desc x) (eqT (ti P t).desc y)) (not (P.eqGuardType P.depth t)))
    (match op with
     | .eql=>ob none (eqV P t x y) fun b=>some (.bool b)
     | .neq=>ob none (eqV P t x y) fun b=>some (.bool (not b))
     | _=>none) none
def binA (op:BinOp) (t:TypeId):AV->AV->Option AV
 | .int k a,.int j b=>iteB (isSh op) (shOp op k a b) (iteB (Nat.beq (kn k) (kn j)) (intOp op k a b) none)
 | .str a,.str b=>strOp op a b
 | x,y=>eqOp P op t x y
def oBin (op:BinOp) (t:TypeId) (x y:Opd):OpC:=pureC fun tm=>binA P op t (x.run tm) (y.run tm)
def unA (op:UnOp) (v:AV):Option AV:=match op,v with
 | .neg,.int k n=>some (.int k (k.wrap (0 - n)))
 | .not,.bool b=>some (.bool (not b))
 | _,_=>none
def oUn (op:UnOp) (x:Opd):OpC:=pureC fun tm=>unA op (x.run tm)
def byteOfA:AV->Option Nat
 | .int .u8 (.ofNat n)=>iteB (Nat.blt n 256) (some n) none
 | _=>none
def bytesOf:List AV->Option (List Nat)
 | []=>some []
 | x :: l=>ob none (byteOfA x) fun b=>ob none (bytesOf l) fun s=>some (b :: s)
def cellsSl (h:H) (sz:Nat):AV->Option (List AV)
 | .nils=>some []
 | .sl b o n _ _=>ob none (h.row b) fun r=>takeA (Nat.mul n sz) (dropA o r)
 | .str s=>iteB (Nat.beq sz 1) (some (mapL (fun b=>.int .u8 (.ofNat b)) s)) none
 | _=>none
def isU8:TypeDesc->Bool
 | .int .u8=>true
 | _=>false
def isBytes:TypeDesc->Bool
 | .slice e=>isU8 (ti P e).desc
 | _=>false
def convA (h:H) (s d:TypeDesc) (v:AV):Option AV:=match d,v with
 | .int k,.int _ n=>some (.int k (wrapF k n))
 | .string,.str s=>some (.str s)
 | .string,.nils=>iteB (isBytes P s) (some (.str [])) none
 | .string,.sl b o n c x=>iteB (isBytes P s) (ob none (cellsSl h 1 (.sl b o n c x)) fun l=>ob none (bytesOf l) fun s=>some (.str s)) none
 | _,_=>none
def knownD:TypeDesc->Bool
 | .invalid=>false
 | _=>true
def oConv (src dst:TypeId) (x:Opd):OpC:=iteB (knownD (ti P src).desc) (readC fun tm h=>convA P h (ti P src).desc (ti P dst).desc (x.run tm)) failC
def isPtrs:List AV->Bool
 | []=>true
 | .ptr .. :: l=>isPtrs l
 | _ :: _=>false
def oMakeFunc (fn:Fn) (first captured:Array Operand):OpC:=match fn with
 | .func f=>pureC fun tm=>iteB (andB (isPtrs ((getsC first.toList).run tm)) (isPtrs ((getsC captured.toList).run tm))) (some (.fn f ((getsC first.toList).run tm) ((getsC captured.toList).run tm))) none
 | _=>failC
def newMap (h:H):V2:=.one (.map h.n) (h.add (.map []))
def isMapD:TypeDesc->Bool
 | .map _ _=>true
 | _=>false
def oMakeMap (t:TypeId) (r:Option Operand):OpC:=match r with
 | none=>.ge (fun _ _ h=>newMap h)
 | some o=>iteB (isMapD (ti P t).desc) (.ge fun _ tm h=>ob .no (natOf ((opd o).run tm)) fun _=>newMap h) failC
def oMakeSlice (t:TypeId) (l c:Opd):OpC:=.ge (fun _ tm h=>
 ob .no (elemS P t).l fun e=>ob .no (natOf (l.run tm)) fun n=>ob .no (natOf (c.run tm)) fun c=>
  iteB (andB (ti P e).zok (andB (Nat.ble n c) (andB (Nat.ble c 1048576) (Nat.ble (bytesT P e) 1048576))))
   (.one (.sl h.n 0 n c 0) (h.add (.row e (rep c (ti P e).zero)))) .no)
def getN (o:Operand) (tm:Tm):Option Nat:=natOf ((opd o).run tm)
def bound (d:Nat) (o:Option Operand) (tm:Tm):Option Nat:=match o with
 | none=>some d
 | some o=>getN o tm
def sliceStr (lo hi:Option Operand) (tm:Tm) (s:List Nat):Option AV:=
 ob none (bound 0 lo tm) fun l=>ob none (bound (lenL s) hi tm) fun u=>
  iteB (Nat.beq l u) (iteB (Nat.ble l (lenL s)) (some (.str [])) none) (iteB (Nat.ble l u) (ob none (takeA (Nat.sub u l) (dropA l s)) fun s=>some (.str s)) none)
def okQ (q sz:Nat):Bool:=iteB (Nat.beq q 0) true (Nat.beq q (Nat.add sz 1))
def sliceSl (sz b o n c q:Nat) (lo hi mx:Option Operand) (tm:Tm):Option AV:=
  ob none (bound 0 lo tm) fun l=>ob none (bound n hi tm) fun u=>iteB (andB (okQ q sz) (andB (Nat.ble l u) (Nat.ble u c)))
    (match mx with
     | none=>some (.sl b (Nat.add o (Nat.mul l sz)) (Nat.sub u l) (Nat.sub c l) q)
     | some m=>match hi with
       | none=>none
       | some _=>ob none (getN m tm) fun m=>iteB (andB (Nat.ble u m) (Nat.ble m c)) (some (.sl b (Nat.add o (Nat.mul l sz)) (Nat.sub u l) (Nat.sub m l) 0)) none) none
def sliceNil (lo hi mx:Option Operand) (tm:Tm):Option AV:=
  ob none (bound 0 lo tm) fun l=>ob none (bound 0 hi tm) fun u=>iteB (Nat.beq (Nat.add l u) 0)
    (match mx with
     | none=>some .nils
     | some m=>match hi with
       | none=>none
       | some _=>ob none (getN m tm) fun m=>iteB (Nat.beq m 0) (some .nils) none) none
def sliceA (d:TypeDesc) (lo hi mx:Option Operand) (tm:Tm) (v:AV):Option AV:=match d,v with
 | .string,.str s=>match mx with
  | none=>sliceStr lo hi tm s
  | some _=>none
 | .slice e,.sl b o n c q=>iteB (ti P e).kn (sliceSl (ti P e).size b o n c q lo hi mx tm) none
 | .slice e,.nils=>iteB (ti P e).kn (sliceNil lo hi mx tm) none
 | .array n e,.ptr b o=>iteB (ti P e).kn (sliceSl (ti P e).size b o n n 0 lo hi mx tm) none
 | _,_=>none
def oSlice (t:TypeId) (x:Opd) (lo hi mx:Option Operand):OpC:=pureC fun tm=>sliceA P (ti P t).desc lo hi mx tm (x.run tm)
def fieldD (i:Nat):TypeDesc->Option Field
 | .struct fs=>fs[i]?
 | _=>none
structure FC where
  l : Option Field
def fieldC (t:TypeId) (i:Nat):FC:=⟨fieldD i (ti P t).desc⟩
def oFieldAddr (t:TypeId) (x:Opd) (i:Nat):OpC:=ob failC (fieldC P t i).l fun f=>iteB (Nat.beq ((ti P f.type).size) 0) failC
 (pureC fun tm=>atPtr none (x.run tm) fun b o=>some (.ptr b (Nat.add o f.offset)))
def oField (t:TypeId) (x:Opd) (i:Nat):OpC:=ob failC (fieldC P t i).l fun f=>pureC fun tm=>
 ob none (isAgg (x.run tm)) fun cs=>part P f.type (dropA f.offset cs)
def ixA (d:TypeDesc) (v:AV) (i:Nat):Option AV:=match d,v with
 | .slice e,.sl b o n _ _=>iteB (andB (ti P e).kn (Nat.blt i n)) (some (.ptr b (Nat.add o (Nat.mul i (ti P e).size)))) none
 | .array n e,.ptr b o=>iteB (andB (ti P e).kn (Nat.blt i n)) (some (.ptr b (Nat.add o (Nat.mul i (ti P e).size)))) none
 | _,_=>none
def oIndexAddr (t:TypeId) (x i:Opd):OpC:=pureC fun tm=>ob none (natOf (i.run tm)) fun i=>ixA P (ti P t).desc (x.run tm) i
def ixV (d:TypeDesc) (v:AV) (i:Nat):Option AV:=match d,v with
 | .array n e,.agg cs=>iteB (Nat.blt i n) (part P e (dropA (Nat.mul i (ti P e).size) cs)) none
 | .string,.str s=>ob none (headA (dropA i s)) fun b=>some (.int .u8 (.ofNat b))
 | _,_=>none
def oIndex (t:TypeId) (x i:Opd):OpC:=pureC fun tm=>ob none (natOf (i.run tm)) fun i=>ixV P (ti P t).desc (x.run tm) i
structure MapT where
  k : TypeId
  e : TypeId
  ok : Bool
def mapD:TypeDesc->MapT
 | .map k e=>⟨k,e,true⟩
 | _=>⟨0,0,false⟩
def mapT (t:TypeId):MapT:=mapD (ti P t).desc
def keyCells:AV->List AV
 | .agg l=>l
 | v=>[v]
def keyOk (t:TypeId) (k:AV):Bool:=andB (eqT (ti P t).desc k) (ob false (flatC P t).l fun ks=>fits ks (keyCells k))
def eqK:AV->AV->Option Bool
 | .agg a,.agg b=>eqL a b
 | a,b=>eqC a b
def lookM (k:AV):List (AV × AV)->Option (Option AV)
 | []=>some none
 | e :: es=>ob none (eqK k e.1) fun r=>iteB r (some (some e.2)) (lookM k es)
def updM (k v:AV):List (AV × AV)->Option (List (AV × AV))
 | []=>some [(k,v)]
 | e :: t=>ob none (eqK k e.1) fun r=>iteB r (some ((k,v) :: t)) (ob none (updM k v t) fun l=>some (e :: l))
def delM (k:AV):List (AV × AV)->Option (List (AV × AV))
 | []=>some []
 | e :: t=>ob none (eqK k e.1) fun r=>iteB r (some t) (ob none (delM k t) fun l=>some (e :: l))
def H.map (h:H) (b:Nat):Option (List (AV × AV)):=isMap (h.blk b)
def lookA (h:H) (k:AV):AV->Option (Option AV)
 | .nilm=>some none
 | .map b=>ob none (h.map b) fun es=>lookM k es
 | _=>none
def okV (ok:Bool) (v:AV) (b:Bool):AV:=iteB ok (.tup [v,.bool b]) v
def oLookup (t:TypeId) (x k:Opd) (ok:Bool):OpC:=readC fun tm h=>
 iteB (andB (mapT P t).ok (keyOk P (mapT P t).k (k.run tm)))
  (ob none (lookA h (k.run tm) (x.run tm)) fun r=>Option.casesOn r (ob none (zeroA P (mapT P t).e) fun v=>some (okV ok v false)) fun v=>some (okV ok v true)) none
def valOk:AV->Bool
 | .junk=>false
 | .bad=>false
 | .tup _=>false
 | .it _=>false
 | .yl _=>false
 | _=>true
def oUpd (t:TypeId) (m k v:Opd):OpC:=.ge (fun _ tm h=>
 iteB (andB (mapT P t).ok (andB (keyOk P (mapT P t).k (k.run tm)) (valOk (v.run tm))))
  (ob .no (isMapV (m.run tm)) fun b=>ob .no (h.map b) fun es=>ob .no (updM (k.run tm) (v.run tm) es) fun es=>ob .no (h.put b (.map es)) fun h=>.one .bad h) .no)
def rangeA (h:H):AV->V2
 | .map b=>iteB (Nat.blt b h.lo) (ob .no (h.map b) fun es=>.one (.it h.n) (h.add (.iter b es []))) .no
 | _=>.no
def oRange (t:TypeId) (x:Opd):OpC:=iteB (isMapD (ti P t).desc) (.ge fun _ tm h=>rangeA h (x.run tm)) failC
def picks {α:Type}:List α->List (α × List α)
 | []=>[]
 | x :: t=>(x,t) :: mapL (fun p=>(p.1,x :: p.2)) (picks t)
def altL {α:Type} (f:α->V2):List α->V2
 | []=>.no
 | [x]=>f x
 | x :: y :: l=>.alt (f x) (altL f (y :: l))
def nextA (h:H) (i:Nat):Blk->V2
 | .iter m left _=>List.casesOn left (.one (.tup [.bool false]) h) fun e t=>
   altL (fun p=>ob .no (h.put i (.iter m p.2 [p.1])) fun h=>.one (.tup [.bool true,p.1.1,p.1.2]) h) (picks (e :: t))
 | _=>.no
def oNext (i:Opd) (s:Bool):OpC:=iteB s failC (.ge fun _ tm h=>ob .no (isIt (i.run tm)) fun i=>nextA h i (h.blk i))
def entryA:Blk->Option AV
 | .iter _ _ cur=>ob none (headA cur) fun e=>some (.tup [e.1,e.2])
 | _=>none
def oEntry (i:Opd):OpC:=.rd fun tm h=>ob none (isIt (i.run tm)) fun i=>entryA (h.blk i)
def oExtract (t:Opd) (i:Nat):OpC:=pureC fun tm=>ob none (isTup (t.run tm)) fun vs=>headA (dropA i vs)
def callV (call:CallF) (h:H) (args:List AV):AV->V2
 | .fn f fst cap=>call [f] (appL fst (appL args cap)) h
 | .yl l=>call [] (.yl l :: args) h
 | _=>.no
def callFn (call:CallF) (h:H) (args:List AV):AV->V2
 | .fn f fst cap=>call [f] (appL fst (appL args cap)) h
 | _=>.no
def lenA (h:H) (d:TypeDesc) (x:AV):Option Nat:=match d,x with
 | .string,.str s=>some (lenL s)
 | .slice _,.nils=>some 0
 | .slice _,.sl _ _ n _ _=>some n
 | .map _ _,.nilm=>some 0
 | .map _ _,.map b=>ob none (h.map b) fun es=>some (lenL es)
 | .array n _,_=>some n
 | _,_=>none
def capA (d:TypeDesc) (x:AV):Option Nat:=match d,x with
 | .slice _,.nils=>some 0
 | .slice _,.sl _ _ _ c q=>iteB (Nat.beq q 0) (some c) none
 | .array n _,_=>some n
 | _,_=>none
def numV (n:Nat):AV:=.int .i64 (.ofNat n)
def appB (h:H) (e:TypeId) (sz b o n c m q:Nat) (new r:List AV):V2:=
 iteB (Nat.ble (Nat.add n m) c)
  (ob .no (splice (Nat.add o (Nat.mul n sz)) new r) fun cs=>ob .no (h.put b (.row (typeRow (h.blk b)) cs)) fun h=>.one (.sl b o (Nat.add n m) c q) h)
  (ob .no (takeA (Nat.mul n sz) (dropA o r)) fun old=>
   iteB (Nat.beq q 0) (newRow h e (appL old new) (Nat.add n m) (Nat.add sz 1))
    (iteB (Nat.beq q (Nat.add sz 1)) (ob .no (h.put b .gone) fun h=>newRow h e (appL old new) (Nat.add n m) (Nat.add sz 1)) .no))
def appA (h:H) (e:TypeId) (sz m:Nat) (new:List AV) (s:AV):V2:=match s with
 | .nils=>iteB (Nat.beq m 0) (.one .nils h) (newRow h e new m (Nat.add sz 1))
 | .sl b o n c q=>ob .no (h.row b) fun r=>appB h e sz b o n c m q new r
 | _=>.no
def notInt:TypeDesc->Bool
 | .int _=>false
 | .invalid=>false
 | _=>true
def roomy (bytes m:Nat):Bool:=Nat.ble (Nat.mul m (Nat.add bytes 1)) 1099511627776
def lenV:AV->Nat
 | .sl _ _ n _ _=>n
 | .str s=>lenL s
 | _=>0
structure BT where
  t : TypeId
  u : TypeId
  e : Option TypeId
def btC (ts:List TypeId):BT:=⟨(headA ts).getD 0,(headA (dropA 1 ts)).getD 0,ob none (headA ts) fun t=>(elemS P t).l⟩
def one1 (args:List AV) (f:AV->V2):V2:=List.casesOn args .no fun x t=>List.casesOn t (f x) fun _ _=>.no
def two2 (args:List AV) (f:AV->AV->V2):V2:=List.casesOn args .no fun x t=>List.casesOn t .no fun y t=>List.casesOn t (f x y) fun _ _=>.no
def bAppend (b:BT) (args:List AV) (h:H):V2:=
 ob .no b.e fun e=>two2 args fun s x=>
  iteB (andB (notInt (ti P b.u).desc) (andB (ti P e).zok (roomy (bytesT P e) (Nat.add (lenV s) (lenV x)))))
   (ob .no (cellsSl h (ti P e).size x) fun new=>appA h e (ti P e).size (lenV x) new s) .no
def minN (a b:Nat):Nat:=iteB (Nat.ble a b) a b
def bCopy (b:BT) (args:List AV) (h:H):V2:=
 ob .no b.e fun e=>two2 args fun d x=>ob .no (iteB (ti P e).kn (cellsSl h (ti P e).size x) none) fun cells=>
  match d with
  | .nils=>.one (numV 0) h
  | .sl b o m _ _=>ob .no (takeA (Nat.mul (minN (lenV x) m) (ti P e).size) cells) fun l=>layRow h b o l fun h=>.one (numV (minN (lenV x) m)) h
  | _=>.no
def delA (h:H) (k:AV):AV->V2
 | .nilm=>.one .bad h
 | .map b=>ob .no (h.map b) fun es=>ob .no (delM k es) fun es=>ob .no (h.put b (.map es)) fun h=>.one .bad h
 | _=>.no
def bDelete (b:BT) (args:List AV) (h:H):V2:=
 two2 args fun m k=>iteB (andB (mapT P b.t).ok (keyOk P (mapT P b.t).k k)) (delA h k m) .no
def clearA (h:H) (d:TypeDesc) (x:AV):V2:=match d,x with
 | .slice _,.nils=>.one .bad h
 | .map _ _,.nilm=>.one .bad h
 | .map _ _,.map b=>ob .no (h.map b) fun _=>ob .no (h.put b (.map [])) fun h=>.one .bad h
 | .slice e,.sl b o n _ _=>iteB (ti P e).zok (layRow h b o (rep n (ti P e).zero) fun h=>.one .bad h) .no
 | _,_=>.no
def mmA (mx:Bool):AV->AV->Option AV
 | .int k x,.int j y=>iteB (Nat.beq (kn k) (kn j)) (some (.int k (iteB mx (iteB (ltI x y) y x) (iteB (ltI y x) y x)))) none
 | _,_=>none
def builtinA (b:Builtin) (t:BT) (args:List AV) (h:H):V2:=match b with
 | .append=>bAppend P t args h
 | .copy=>bCopy P t args h
 | .delete=>bDelete P t args h
 | .clear=>one1 args fun x=>clearA P h (ti P t.t).desc x
 | _=>.no
def one1' {β:Type} (args:List AV) (f:AV->Option β):Option β:=List.casesOn args none fun x t=>List.casesOn t (f x) fun _ _=>none
def two2' {β:Type} (args:List AV) (f:AV->AV->Option β):Option β:=List.casesOn args none fun x t=>List.casesOn t none fun y t=>List.casesOn t (f x y) fun _ _=>none
def oBuiltin (b:Builtin) (t:BT) (l:List Operand):OpC:=match b with
 | .len=>.rd fun tm h=>one1' ((getsC l).run tm) fun x=>ob none (lenA h (ti P t.t).desc x) fun n=>some (numV n)
 | .cap=>.pr fun tm=>one1' ((getsC l).run tm) fun x=>ob none (capA (ti P t.t).desc x) fun n=>some (numV n)
 | .min=>.pr fun tm=>two2' ((getsC l).run tm) (mmA false)
 | .max=>.pr fun tm=>two2' ((getsC l).run tm) (mmA true)
 | b=>.ge fun _ tm h=>builtinA P b t ((getsC l).run tm) h
def callC (f:Operand) (l:List Operand):OpC:=match f with
 | .func f=>.ge fun call tm h=>call [f] ((getsC l).run tm) h
 | f=>.ge fun call tm h=>callV call h ((getsC l).run tm) ((opd f).run tm)
def oCall (c:Call):OpC:=match c.callee with
 | .value f=>callC f c.args.toList
 | .builtin b=>iteB (isSomeB (headA c.argTypes.toList)) (oBuiltin P b (btC P c.argTypes.toList) c.args.toList) failC
 | _=>failC
def opC:Op->OpC
 | .move x=>oMove (opd x)
 | .assign x=>oMove (opd x)
 | .pick c a b=>oPick (opd c) (opd a) (opd b)
 | .alloc t=>oAlloc P t
 | .box t x=>oBox t (opd x)
 | .build t ps=>oBuild P t ps
 | .buildSlice t n ps=>oBuildSlice P t n ps
 | .load t a=>oLoad P t (opd a)
 | .store t a x=>oStore P t (opd a) (opd x)
 | .nilCheck x=>oNil (opd x)
 | .binOp op t x y _=>oBin P op t (opd x) (opd y)
 | .unOp op _ x=>oUn op (opd x)
 | .convert s d x=>oConv P s d (opd x)
 | .makeFunc f a b=>oMakeFunc f a b
 | .makeMap t r=>oMakeMap P t r
 | .makeSlice t l c=>oMakeSlice P t (opd l) (opd c)
 | .slice t x a b c=>oSlice P t (opd x) a b c
 | .fieldAddr t x i=>oFieldAddr P t (opd x) i
 | .field t x i=>oField P t (opd x) i
 | .indexAddr t x i=>oIndexAddr P t (opd x) (opd i)
 | .index t x i=>oIndex P t (opd x) (opd i)
 | .lookup t x k ok=>oLookup P t (opd x) (opd k) ok
 | .mapUpdate t m k v=>oUpd P t (opd m) (opd k) (opd v)
 | .insert t m k v=>oUpd P t (opd m) (opd k) (opd v)
 | .range t x=>oRange P t (opd x)
 | .next i s=>oNext (opd i) s
 | .entry i=>oEntry (opd i)
 | .extract t i=>oExtract (opd t) i
 | .call c=>oCall P c
 | _=>failC
structure PutC where
  run : Tm → AV → Tm
def okDst (N:Nat) (d:Option Tmp):Bool:=Option.casesOn d true fun d=>Nat.blt d N
def putC (d:Option Tmp):PutC:=Option.casesOn d ⟨fun tm _=>tm⟩ fun d=>⟨fun tm v=>(upd AV.bad d).run tm v⟩
def isG (want:Bool):AV->Option Bool
 | .bool b=>some (b == want)
 | .bad=>some false
 | _=>none
def guardC (d:Tmp) (want:Bool) (c:OpC):OpC:=match c with
 | .mv f=>.pr fun tm=>ob none (isG want ((acc AV.bad d).run tm)) fun q=>some (iteB q (f tm) .bad)
 | .pr f=>.pr fun tm=>ob none (isG want ((acc AV.bad d).run tm)) fun q=>iteB q (f tm) (some .bad)
 | .rd f=>.rd fun tm h=>ob none (isG want ((acc AV.bad d).run tm)) fun q=>iteB q (f tm h) (some .bad)
 | .ge f=>.ge fun call tm h=>ob .no (isG want ((acc AV.bad d).run tm)) fun q=>iteB q (f call tm h) (.one .bad h)
def stepC (ops:Array Oper) (o:Oper):OpC:=match o.guard with
 | none=>opC P o.op
 | some (g,want)=>match (ops[g]?).bind (·.dst) with
  | some d=>guardC d want (opC P o.op)
  | none=>failC
structure RC where
  run : CallF → Tm → H → O3
def consC (c:OpC) (p:PutC) (r:RC):RC:=match c with
 | .mv f=>⟨fun call tm h=>r.run call (p.run tm (f tm)) h⟩
 | .pr f=>⟨fun call tm h=>ob .no (f tm) fun v=>r.run call (p.run tm v) h⟩
 | .rd f=>⟨fun call tm h=>ob .no (f tm h) fun v=>r.run call (p.run tm v) h⟩
 | .ge f=>⟨fun call tm h=>(f call tm h).bndO fun v h=>r.run call (p.run tm v) h⟩
def cBad:RC:=⟨fun _ _ _=>.no⟩
def regC (N:Nat) (ops:Array Oper):List Oper->RC
 | []=>⟨fun _ tm h=>.one .normal tm h⟩
 | o :: l=>iteB (okDst N o.dst) (consC (stepC P ops o) (putC o.dst) (regC N ops l)) cBad
structure Tr where
  tm : Tm
  h : H
  v : AV
structure TC where
  run : CallF → Tm → H → List Tr → O3
def V2.one1 {β:Type} (z:β) (x:V2) (f:AV->H->β):β:=V2.casesOn x z f fun _ _=>z
def consT (c:OpC) (p:PutC) (r:TC):TC:=match c with
 | .mv f=>⟨fun call tm h tr=>r.run call (p.run tm (f tm)) h (⟨tm,h,f tm⟩ :: tr)⟩
 | .pr f=>⟨fun call tm h tr=>ob .no (f tm) fun v=>r.run call (p.run tm v) h (⟨tm,h,v⟩ :: tr)⟩
 | .rd f=>⟨fun call tm h tr=>ob .no (f tm h) fun v=>r.run call (p.run tm v) h (⟨tm,h,v⟩ :: tr)⟩
 | .ge f=>⟨fun call tm h tr=>(f call tm h).one1 .no fun v h'=>r.run call (p.run tm v) h' (⟨tm,h,v⟩ :: tr)⟩
def traceC (N:Nat) (ops:Array Oper) (k:List Tr->Tm->H->O3):List Oper->TC
 | []=>⟨fun _ tm h tr=>k tr tm h⟩
 | o :: l=>iteB (okDst N o.dst) (consT (stepC P ops o) (putC o.dst) (traceC N ops k l)) ⟨fun _ _ _ _=>.no⟩
def kindB:Builtin->Nat
 | .len=>2
 | .cap=>0
 | .min=>0
 | .max=>0
 | _=>3
def kindC (c:Call):Nat:=match c.callee with
 | .builtin b=>kindB b
 | _=>3
def kindO:Op->Nat
 | .move _=>0 | .assign _=>0 | .pick ..=>0 | .build ..=>0 | .nilCheck _=>0 | .binOp ..=>0 | .unOp ..=>0 | .makeFunc ..=>0
 | .slice ..=>0 | .fieldAddr ..=>0 | .field ..=>0 | .indexAddr ..=>0 | .index ..=>0 | .extract ..=>0
 | .alloc _=>1 | .box ..=>1 | .buildSlice ..=>1 | .makeMap ..=>1 | .makeSlice ..=>1
 | .load ..=>2 | .lookup ..=>2 | .convert ..=>2
 | .call c=>kindC c
 | _=>3
def memN (d:Nat) (l:List Nat):Bool:=l.any (Nat.beq d)
def maskL:List Nat->Nat
 | []=>0
 | d :: l=>Nat.lor (Nat.pow 2 d) (maskL l)
def tmpsO:List Operand->Nat
 | []=>0
 | .tmp t :: l=>Nat.lor (Nat.pow 2 t) (tmpsO l)
 | _ :: l=>tmpsO l
def maskD (d:Option Nat):Nat:=Option.casesOn d 0 fun d=>Nat.pow 2 d
structure DI where
  c : OpC
  kind : Nat
  dst : Nat
  use : Nat
  bef : Nat
def befE (l:List DI) (n:Nat):List Edge->Option Nat
 | []=>some 0
 | e :: es=>ob none (befE l n es) fun r=>iteB (Region.binds .any e)
   (iteB (Nat.blt e.on n) (ob none (headA (dropA (Nat.sub n (Nat.add e.on 1)) l)) fun d=>some (Nat.lor r (Nat.lor (Nat.pow 2 e.on) d.bef))) none) (some r)
def guardM (ops:Array Oper) (g:Option (Nat × Bool)):Nat:=match g with
 | none=>0
 | some (g,_)=>maskD ((ops[g]?).bind (·.dst))
def isZ (n:Nat):Bool:=Nat.beq n 0
def freeD (x y:DI):Bool:=
 andB (isZ (Nat.land x.dst (Nat.lor y.use y.dst))) (andB (isZ (Nat.land y.dst x.use)) (iteB (Nat.beq y.kind 3) (iteB (Nat.beq x.kind 3) false (iteB (Nat.beq x.kind 1) false true)) true))
def wellD (y:DI):List DI->Nat->Bool
 | [],_=>true
 | x :: l,n=>iteB (Nat.testBit y.bef (Nat.sub n 1)) (wellD y l (Nat.sub n 1)) (iteB (freeD x y) (wellD y l (Nat.sub n 1)) false)
def marksD (ops:Array Oper):List Oper->List DI->Nat->Option (List DI)
 | [],l,_=>some l
 | o :: os,l,n=>ob none (befE l n o.after.toList) fun b=>
   iteB (wellD ⟨stepC P ops o,kindO o.op,maskD o.dst,Nat.lor (guardM ops o.guard) (tmpsO o.op.operands.toList),b⟩ l n)
    (marksD ops os (⟨stepC P ops o,kindO o.op,maskD o.dst,Nat.lor (guardM ops o.guard) (tmpsO o.op.operands.toList),b⟩ :: l) (Nat.add n 1)) none
structure Clash where
  c : OpC
  i : Nat
  j : Nat
def clashD (y:DI) (k:Nat):List DI->Nat->List Clash->List Clash
 | [],_,r=>r
 | x :: l,n,r=>iteB (Nat.testBit y.bef (Nat.sub n 1)) (clashD y k l (Nat.sub n 1) r)
   (iteB (andB (Nat.beq x.kind 2) (Nat.beq y.kind 3)) (clashD y k l (Nat.sub n 1) (⟨x.c,Nat.sub n 1,k⟩ :: r))
    (iteB (andB (Nat.beq x.kind 3) (Nat.beq y.kind 2)) (clashD y k l (Nat.sub n 1) (⟨y.c,k,Nat.sub n 1⟩ :: r)) (clashD y k l (Nat.sub n 1) r)))
def clashesD:List DI->Nat->List Clash->List Clash
 | [],_,r=>r
 | y :: l,n,r=>clashesD l (Nat.sub n 1) (clashD y (Nat.sub n 1) l (Nat.sub n 1) r)
structure ClC where
  l : Option (List Clash)
def clC (ops:Array Oper):ClC:=⟨ob none (marksD P ops ops.toList [] 0) fun l=>some (clashesD l (lenL l) [])⟩
def readsSame (c:OpC) (s:Tr) (h:H):Bool:=match c with
 | .rd f=>ob false (f s.tm h) fun v=>sameV v s.v
 | _=>false
def trAt (i:Nat) (tr:List Tr) (f:Tr->Bool):Bool:=List.casesOn (dropA i tr) false fun s _=>f s
def clashOk (n:Nat) (tr:List Tr) (p:Clash):Bool:=
 trAt (Nat.sub n p.i) tr fun s=>trAt (Nat.sub n p.j) tr fun a=>trAt (Nat.sub n (Nat.add p.j 1)) tr fun b=>andB (readsSame p.c s a.h) (readsSame p.c s b.h)
def drawC (N:Nat) (ops:Array Oper):RC:=ob cBad (clC P ops).l fun cl=>
 ⟨fun call tm h=>(traceC P N ops (fun tr tm h=>iteB (allB (clashOk ops.size (⟨tm,h,.bad⟩ :: tr)) cl) (.one .normal tm h) .no) ops.toList).run call tm h []⟩
def thenE (e:Ex) (tm:Tm) (h:H) (k:Tm->H->O3):O3:=Ex.casesOn e (k tm h) (fun i=>.one (.exit i) tm h) (.one .ret tm h)
def cRegion (N:Nat) (ops:Array Oper) (dr:Bool):RC:=iteB dr (drawC P N ops) (regC P N ops ops.toList)
def cSeq (a b:RC):RC:=⟨fun call tm h=>(a.run call tm h).bnd fun e tm h=>thenE e tm h (b.run call)⟩
def cCond (c:Opd) (a b:RC):RC:=⟨fun call tm h=>ob .no (isB (c.run tm)) fun q=>iteB q (a.run call tm h) (b.run call tm h)⟩
def exitB (id:Nat) (e:Ex):Ex:=Ex.casesOn e .normal (fun i=>iteB (Nat.beq i id) .normal (.exit i)) .ret
def cBlock (id:Nat) (c:RC):RC:=⟨fun call tm h=>(c.run call tm h).bnd fun e tm h=>.one (exitB id e) tm h⟩
def loopN (body:Tm->H->O3):Nat->Tm->H->O3
 | 0,_,_=>.no
 | n+1,tm,h=>(body tm h).bnd fun e tm h=>thenE e tm h (loopN body n)
def cLoop (c:RC):RC:=⟨fun call tm h=>loopN (c.run call) 100000 tm h⟩
def afterRF (tm:Tm) (h:H):Blk->O3
 | .loop _ _ _ _ _ none=>.one .normal tm h
 | .loop _ _ _ _ _ (some e)=>.one e tm h
 | _=>.no
def cRangeFunc (N:Nat) (f:Opd) (ps:Array Tmp) (a b:Code):RC:=⟨fun call tm h=>
   (callFn call (h.add (.loop N tm ps.toList a b none)) [.yl h.n] (f.run tm)).bndO fun _ h2=>ob .no (h2.put h.n .gone) fun h3=>afterRF tm h3 (h2.blk h.n)⟩
def comp (rf:Bool) (N:Nat):Code->RC
 | .skip=>⟨fun _ tm h=>.one .normal tm h⟩
 | .region _ ops dr=>cRegion P N ops dr
 | .seq a b=>cSeq (comp rf N a) (comp rf N b)
 | .cond c a b=>cCond (opd c) (comp rf N a) (comp rf N b)
 | .block id c=>cBlock id (comp rf N c)
 | .loop c=>cLoop (comp rf N c)
 | .rangeFunc f ps a b=>iteB rf (cRangeFunc N (opd f) ps a b) cBad
 | .exit i=>⟨fun _ tm h=>.one (.exit i) tm h⟩
 | .ret=>⟨fun _ tm h=>.one .ret tm h⟩
 | _=>cBad
def setAll (N:Nat):List Tmp->List AV->Tm->Option Tm
 | [],l,tm=>List.casesOn l (some tm) fun _ _=>none
 | p :: ps,l,tm=>List.casesOn l none fun a t=>iteB (Nat.blt p N) (setAll N ps t ((upd AV.bad p).run tm a)) none
def resOne (h:H) (tm:Tm) (r:ResultVar):Option AV:=match r with
 | .tmp t=>some ((acc AV.bad t).run tm)
 | .cell a t=>atPtr none ((acc AV.bad a).run tm) fun b o=>loadAt P h t b o
def isTupB:AV->Bool
 | .tup _=>true
 | _=>false
def resAll (h:H) (tm:Tm):List ResultVar->Option (List AV)
 | []=>some []
 | r :: l=>ob none (resOne P h tm r) fun v=>iteB (isTupB v) none (ob none (resAll h tm l) fun l=>some (v :: l))
def packA (l:List AV):AV:=List.casesOn l (.tup []) fun v t=>List.casesOn t v fun a b=>.tup (v :: a :: b)
structure RsC where
  run : H → Tm → Option AV
def resC (l:List ResultVar):RsC:=match l with
 | []=>⟨fun _ _=>some (.tup [])⟩
 | [.tmp t]=>⟨fun _ tm=>some ((acc AV.bad t).run tm)⟩
 | l=>⟨fun h tm=>ob none (resAll P h tm l) fun l=>some (packA l)⟩
def endE (e:Ex) (k:V2):V2:=Ex.casesOn e k (fun _=>.no) k
def argsT:List AV->Nat->Tm->Tm
 | [],_,tm=>tm
 | a :: l,i,tm=>argsT l (Nat.add i 1) ((upd AV.bad i).run tm a)
structure FnC where
  run : CallF → List AV → H → V2
def bodyC (fn:Func):FnC:=match fn.body with
 | none=>⟨fun _ _ _=>.no⟩
 | some c=>⟨fun call args h=>((comp P true fn.ntmps c).run call (argsT args 0 .lf) h).bndV fun e tm h=>
   endE e (ob .no ((resC P fn.results.toList).run h tm) fun v=>.one v h)⟩
def roundEnd (l N:Nat) (tm:Tm) (ps:List Tmp) (a b:Code) (e:Ex) (h:H):V2:=
 Ex.casesOn e (ob .no (h.put l (.loop N tm ps a b none)) fun h=>.one (.bool true) h)
  (fun i=>ob .no (h.put l (.loop N tm ps a b (some (.exit i)))) fun h=>.one (.bool false) h)
  (ob .no (h.put l (.loop N tm ps a b (some .ret))) fun h=>.one (.bool false) h)
def thenR (e:Ex) (tm:Tm) (h:H) (k:Tm->H->V2):V2:=Ex.casesOn e (k tm h) (fun _=>.no) .no
def roundB (call:CallF) (l N:Nat) (b:Code) (tm2:Tm) (h2:H):Blk->V2
 | .loop N' tm ps a b' none=>ob .no (h2.put l .gone) fun h3=>((comp P false N b).run call tm2 h3).bndV fun e _ h4=>roundEnd l N' tm ps a b' e h4
 | _=>.no
def roundA (call:CallF) (l:Nat) (args:List AV) (h:H):Blk->V2
 | .loop N tm ps a b none=>ob .no (setAll N ps args tm) fun tm1=>((comp P false N a).run call tm1 h).bndV fun e tm2 h2=>
   thenR e tm2 h2 fun tm2 h2=>roundB P call l N b tm2 h2 (h2.blk l)
 | _=>.no
def ylOf (args:List AV) (f:Nat->List AV->V2):V2:=match args with
 | .yl l :: r=>f l r
 | _=>.no
def plainC:AV->Bool
 | .bool _=>true
 | .int ..=>true
 | .str _=>true
 | .nilp=>true
 | .nils=>true
 | .nilm=>true
 | .nilf=>true
 | _=>false
structure Q where
  v : AV
  t : TypeId
  cs : List AV
def normQ (n:Nat) (v:AV) (h:H):Option Q:=match v with
 | .sl b o m c ex=>iteB (andB (not (Nat.beq ex 0)) (andB (Nat.ble n b) (Nat.beq o 0)))
   (ob none (h.row b) fun q=>iteB (allB plainC q) (some ⟨.sl n 0 m c ex,typeRow (h.blk b),q⟩) none) none
 | .tup l=>iteB (allB plainC l) (some ⟨.tup l,0,[]⟩) none
 | v=>iteB (plainC v) (some ⟨v,0,[]⟩) none
def sameQ (a b:Q):Bool:=andB (sameV a.v b.v) (andB (Nat.beq a.t b.t) (sameL a.cs b.cs))
def allQ (n:Nat):V2->Option Q
 | .no=>none
 | .one v h=>normQ n v h
 | .alt x y=>ob none (allQ n x) fun a=>ob none (allQ n y) fun b=>iteB (sameQ a b) (some a) none
def layQ (h:H) (q:Q):V2:=match q.v with
 | .sl b o m c ex=>.one (.sl b o m c ex) (h.add (.row q.t q.cs))
 | v=>.one v h
def quiet (f:H->V2) (h:H):V2:=H.casesOn h fun t n lo=>ob .no (allQ n (f ⟨t,n,n⟩)) fun q=>layQ ⟨t,n,lo⟩ q
def fnC (qs:List Nat) (f:Nat):FnC:=match atL f P.funcs.toList with
 | none=>⟨fun _ _ _=>.no⟩
 | some fn=>iteB (memN f qs) ⟨fun call args h=>quiet ((bodyC P fn).run call args) h⟩ (bodyC P fn)
def fcall (qs:List Nat):Nat->CallF
 | 0=>fun _ _ _=>.no
 | n+1=>fun f args h=>List.casesOn f (ylOf args fun l r=>roundA P (fcall qs n) l r h (h.blk l))
  fun f _=>(fnC P qs f).run (fcall qs n) args h
end
def H0:H:=⟨.lf,0,0⟩
def isTrueV:AV->Bool
 | .bool b=>b
 | _=>false
def told (r:V2):Bool:=V2.casesOn r false (fun v _=>isTrueV v) fun _ _=>false
end Go.Proofs.YtcilaocknhphnaaGreat.Ev
