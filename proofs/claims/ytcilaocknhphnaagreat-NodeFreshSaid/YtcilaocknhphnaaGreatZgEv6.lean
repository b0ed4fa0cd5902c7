/-
  
-/
import Derived.ChangeKeysEq
import Derived.Laws.BytesString
import Derived.Laws.Cells
import Derived.Test.YtcilaocknhphnaaGreatZgEv2
namespace Go.Proofs.YtcilaocknhphnaaGreat.Ev
section
variable {P : Program} {φ : Phi}
theorem kn_inj {j k:IntKind} (h:Nat.beq (kn j) (kn k)=true):j=k:=by cases j <;> cases k <;> first | rfl | cases h
theorem eqI_eq (a b:Int):eqI a b=(a == b):=by
 cases a with
 | ofNat a=>cases b with
  | ofNat b=>
   show Nat.beq a b=_;by_cases h:a=b
   ·subst h;rw [Nat.beq_refl];simp
   ·have:Nat.beq a b=false:=by rw [<- Bool.not_eq_true];intro q;exact h (Nat.eq_of_beq_eq_true q)
    rw [this];symm;rw [beq_eq_false_iff_ne];intro e;cases e;exact h rfl
  | negSucc b=>rfl
 | negSucc a=>cases b with
  | ofNat b=>rfl
  | negSucc b=>
   show Nat.beq a b=_;by_cases h:a=b
   ·subst h;rw [Nat.beq_refl];simp
   ·have:Nat.beq a b=false:=by rw [<- Bool.not_eq_true];intro q;exact h (Nat.eq_of_beq_eq_true q)
    rw [this];symm;rw [beq_eq_false_iff_ne];intro e;cases e;exact h rfl
theorem ltI_eq (a b:Int):ltI a b=decide (a < b):=by
 cases a with
 | ofNat a=>cases b with
  | ofNat b=>show Nat.blt a b=_;rw [Bool.eq_iff_iff];simp [Nat.blt_eq]
  | negSucc b=>show false=_;symm;rw [decide_eq_false_iff_not];simp only [Int.ofNat_eq_natCast];omega
 | negSucc a=>cases b with
  | ofNat b=>show true=_;symm;rw [decide_eq_true_eq];simp only [Int.ofNat_eq_natCast];omega
  | negSucc b=>show Nat.blt b a=_;rw [Bool.eq_iff_iff];simp only [Nat.blt_eq,decide_eq_true_eq];omega
theorem wrapF_eq (k:IntKind) (n:Int):wrapF k n=k.wrap n:=by
 unfold wrapF;split
 ·rename_i m
  rw [iteB_eq];split
  ·rfl
  ·rename_i h
   have h:¬ 9223372036854775808<=m:=by intro q;exact h (Nat.ble_eq_true_of_le q)
   have e1:IntKind.i64.bits=64:=rfl;have e2:IntKind.i64.signed=true:=rfl;unfold IntKind.wrap;simp only [e1,e2,Bool.true_and,Int.ofNat_eq_natCast];have e3:(m:Int) % 2 ^ 64=(m:Int):=by rw [Int.emod_eq_of_lt (by omega) (by omega)]
   rw [e3,if_neg (by simp;omega)]
 ·rfl
theorem addI_eq (a b:Int):addI a b=a+b:=by cases a <;> cases b <;> rfl
theorem run_intOp {op:BinOp} {k:IntKind} {a b:Int} {v:AV} (t:TypeId) (hs:isSh op=false) (h:intOp op k a b=some v) (w:World):
  ∃ c,(binOp op t (.int k a) (.int k b)).run P w=.ok c w∧RelT φ v c:=by
 have int:∀ n,RelT φ (.int k n) (.int k n):=fun n=>RelB.toT (.int _ _);have boo:∀ n,RelT φ (.bool n) (.bool n):=fun n=>RelB.toT (.bool _)
 have fin:∀ {x:AV} {c:Value},some x=some v->(binOp op t (.int k a) (.int k b)).run P w=.ok c w->RelT φ x c->∃ c,(binOp op t (.int k a) (.int k b)).run P w=.ok c w∧RelT φ v c:=by
  intro x c e h1 h2;cases e;exact ⟨c,h1,h2⟩
 cases op <;> first | (cases h;done) | (cases hs;done) | skip
 ·exact fin h (c:=.int k (k.wrap (a+b))) (by simp [binOp,Op.intArith]) (by rw [wrapF_eq,addI_eq];exact int _)
 ·exact fin h (c:=.int k (k.wrap (a - b))) (by simp [binOp,Op.intArith]) (by rw [wrapF_eq];exact int _)
 ·exact fin h (c:=.int k (k.wrap (a*b))) (by simp [binOp,Op.intArith]) (by rw [wrapF_eq];exact int _)
 ·obtain ⟨h1,h2⟩:=iteB_some' h
  rw [eqI_eq] at h1;have h1:b≠0:=by simpa using h1
  exact fin h2 (c:=.int k (k.wrap (a.tdiv b))) (by simp [binOp,Op.intDiv,h1]) (by rw [wrapF_eq];exact int _)
 ·obtain ⟨h1,h2⟩:=iteB_some' h
  rw [eqI_eq] at h1;have h1:b≠0:=by simpa using h1
  exact fin h2 (c:=.int k (a.tmod b)) (by simp [binOp,Op.intDiv,h1]) (int _)
 ·exact fin h (c:=.int k (k.wrap (BitVec.ofInt k.bits a &&& BitVec.ofInt k.bits b).toNat)) (by simp only [binOp,Op.intBits];simp) (int _)
 ·exact fin h (c:=.int k (k.wrap (BitVec.ofInt k.bits a ||| BitVec.ofInt k.bits b).toNat)) (by simp only [binOp,Op.intBits];simp) (int _)
 ·exact fin h (c:=.int k (k.wrap (BitVec.ofInt k.bits a ^^^ BitVec.ofInt k.bits b).toNat)) (by simp only [binOp,Op.intBits];simp) (int _)
 ·exact fin h (c:=.bool (a == b)) (by simp [binOp,Op.intCmp]) (by rw [eqI_eq];exact boo _)
 ·exact fin h (c:=.bool (a != b)) (by simp [binOp,Op.intCmp]) (by rw [eqI_eq];exact boo _)
 ·exact fin h (c:=.bool (decide (a < b))) (by simp [binOp,Op.intCmp]) (by rw [ltI_eq];exact boo _)
 ·exact fin h (c:=.bool (decide (a<=b))) (by simp [binOp,Op.intCmp]) (by
   rw [ltI_eq,show (!decide (b < a))=decide (a<=b) by rw [Bool.eq_iff_iff];simp];exact boo _)
 ·exact fin h (c:=.bool (decide (b < a))) (by simp [binOp,Op.intCmp]) (by rw [ltI_eq];exact boo _)
 ·exact fin h (c:=.bool (decide (b<=a))) (by simp [binOp,Op.intCmp]) (by
   rw [ltI_eq,show (!decide (a < b))=decide (b<=a) by rw [Bool.eq_iff_iff];simp];exact boo _)
theorem run_shOp {op:BinOp} {k j:IntKind} {a b:Int} {v:AV} (t:TypeId) (hs:isSh op=true) (h:shOp op k a b=some v) (w:World):
  ∃ c,(binOp op t (.int k a) (.int j b)).run P w=.ok c w∧RelT φ v c:=by
 cases op <;> first | (cases hs;done) | skip
 ·obtain ⟨h1,h2⟩:=iteB_some' h
  cases h2;rw [ltI_eq] at h1;have h1:¬ b < 0:=by simpa using h1
  exact ⟨.int k (k.wrap (a*2 ^ (min b.toNat k.bits))),by simp [binOp,Op.shift,h1],RelB.toT (.int _ _)⟩
 ·obtain ⟨h1,h2⟩:=iteB_some' h
  cases h2;rw [ltI_eq] at h1;have h1:¬ b < 0:=by simpa using h1
  exact ⟨.int k (a.fdiv (2 ^ (min b.toNat k.bits))),by simp [binOp,Op.shift,h1],RelB.toT (.int _ _)⟩
theorem fits_length:∀ {ks:List Nat} {L:List AV},fits ks L=true->L.length=ks.length
 | [],[],_=>rfl
 | [],_ :: _,h=>by cases h
 | _ :: _,[],h=>by cases h
 | k :: ks,a :: L,h=>by
  have h:iteB (Nat.beq (cellKind a) k) (fits ks L) false=true:=h;rw [iteB_eq] at h;split at h
  ·simp [fits_length h]
  ·cases h
theorem fits_cons {k:Nat} {ks:List Nat} {a:AV} {L:List AV} (h:fits (k :: ks) (a :: L)=true):cellKind a=k∧fits ks L=true:=by
 have h:iteB (Nat.beq (cellKind a) k) (fits ks L) false=true:=h;rw [iteB_eq] at h;split at h
 ·rename_i e;exact ⟨Nat.eq_of_beq_eq_true e,h⟩
 ·cases h
theorem fits_append:∀ {k1 k2:List Nat} {L:List AV},fits (k1++k2) L=true->fits k1 (L.take k1.length)=true∧fits k2 (L.drop k1.length)=true
 | [],k2,L,h=>⟨rfl,h⟩
 | k :: k1,k2,[],h=>by cases h
 | k :: k1,k2,a :: L,h=>by
  obtain ⟨h1,h2⟩:=fits_cons h;obtain ⟨h3,h4⟩:=fits_append h2;refine ⟨?_,h4⟩;show iteB (Nat.beq (cellKind a) k) (fits k1 (L.take k1.length)) false=true;rw [h1,Nat.beq_refl];exact h3
theorem eqL_cons {a b:AV} {A B:List AV} {r:Bool} (h:eqL (a :: A) (b :: B)=some r):∃ r1 r2,eqC a b=some r1∧eqL A B=some r2∧r=(r1 && r2):=by
 obtain ⟨r1,h1,h⟩:=ob_none_eq (show ob none (eqC a b) _=some r from h);obtain ⟨r2,h2,h⟩:=ob_none_eq h;cases h;exact ⟨r1,r2,h1,h2,by cases r1 <;> rfl⟩
theorem eqL_append:∀ {A1 A2 B1 B2:List AV} {r:Bool},A1.length=B1.length->eqL (A1++A2) (B1++B2)=some r->∃ r1 r2,eqL A1 B1=some r1∧eqL A2 B2=some r2∧r=(r1 && r2)
 | [],A2,[],B2,r,_,h=>⟨true,r,rfl,h,by simp⟩
 | [],_,_ :: _,_,_,h,_=>by simp at h
 | _ :: _,_,[],_,_,h,_=>by simp at h
 | a :: A1,A2,b :: B1,B2,r,hl,h=>by
  obtain ⟨r1,r2,h1,h2,rfl⟩:=eqL_cons h;obtain ⟨r3,r4,h3,h4,rfl⟩:=eqL_append (by simpa using hl) h2;refine ⟨r1 && r3,r4,?_,h4,by rw [Bool.and_assoc]⟩;show ob none (eqC a b) (fun r=>ob none (eqL A1 B1) fun s=>some (andB r s))=_;rw [h1,h3];cases r1 <;> rfl
structure FV (P : Program) (φ : Phi) (t : TypeId) (A : List AV) (x : Value) : Prop where
  cells : L2 (RelS φ) A x.cells.toList
  agg : isAggD ((P.underlying t).getD .invalid) = true → ∃ X, x = .agg X
  one : isAggD ((P.underlying t).getD .invalid) = false → ∃ a, A = [a] ∧ RelS φ a x
theorem cells_one {a:AV} {x:Value} (h:RelS φ a x):x.cells=#[x]:=by
 cases h with
 | base h=>cases h <;> rfl
 | fn _ _=>rfl
theorem flat_und {m:Nat} {t:TypeId} {ks:List Nat} (h:flat P m t=some ks):∃ d,P.underlying t=some d ∧
    ((d=.bool∧ks=[8])∨(∃ k,d=.int k∧ks=[kn k])∨(d=.string∧ks=[9]) ∨
     (∃ fs,d=.struct fs∧P.stoodInHeld t=false∧∃ m',m=m'+1∧flatF P (flat P m') fs.toList 0=some ks) ∨
     (∃ n e l,d=.array n e∧∃ m',m=m'+1∧flat P m' e=some l∧l.length=P.cellsOf e∧ks=rep n l)):=by
  cases m with
  | zero=>cases h
  | succ m=>
    have e:(infC P t).i.bind (undI P)=P.underlying t:=by
      show (infF P t).bind (undI P)=_;rw [infF_eq,undI_eq]
    unfold flat at h;rw [e] at h;cases hu:P.underlying t with
    | none=>rw [hu] at h;cases h
    | some d=>
      rw [hu] at h;refine ⟨d,rfl,?_⟩;cases d <;> first | (cases h;done) | skip
      · cases h;exact .inl ⟨rfl,rfl⟩
      · cases h;exact .inr (.inl ⟨_,rfl,rfl⟩)
      · cases h;exact .inr (.inr (.inl ⟨rfl,rfl⟩))
      · rename_i n e
        obtain ⟨l,h1,h2⟩:=ob_none_eq h;obtain ⟨h3,h4⟩:=iteB_some h2;cases h4;have h3:=Nat.eq_of_beq_eq_true h3;rw [lenL_eq,ti_size] at h3;exact .inr (.inr (.inr (.inr ⟨n,e,l,rfl,m,rfl,h1,h3,rfl⟩)))
      · rename_i fs
        obtain ⟨h1,h2⟩:=iteB_some' h;exact .inr (.inr (.inr (.inl ⟨fs,rfl,h1,m,rfl,h2⟩)))
theorem run_piece {m:Nat} {t:TypeId} {ks:List Nat} (h:flat P m t=some ks) (hk:ks.length=P.cellsOf t) {A:List AV} {C:Array Value} (hr:L2 (RelS φ) A C.toList) {off:Nat}
  (hf:fits ks ((A.drop off).take ks.length)=true) (w:World):∃ c,(Go.part t C off).run P w=.ok c w∧FV P φ t ((A.drop off).take ks.length) c:=by
 obtain ⟨d,hu,hd⟩:=flat_und h;obtain ⟨i,hi⟩:=info_of_und hu;cases ha:isAggD d with
 | true=>
  refine ⟨.agg (C.extract off (off+P.cellsOf t)),by simp [Go.part,run_isAgg hu,ha,run_sizeOf hi],⟨?_,fun _=>⟨_,rfl⟩,fun q=>(by rw [hu] at q;rw [show isAggD d=false from q] at ha;cases ha)⟩⟩;have:=(hr.drop off).take ks.length;show L2 _ _ (C.extract off (off+P.cellsOf t)).toList;rw [Array.toList_extract,hk] at *
  simpa [List.extract] using this
 | false=>
  have one:∃ k,ks=[k]:=by
   rcases hd with ⟨rfl,rfl⟩ | ⟨k,rfl,rfl⟩ | ⟨rfl,rfl⟩ | ⟨fs,rfl,_⟩ | ⟨n,e,l,rfl,_⟩
   ·exact ⟨_,rfl⟩
   ·exact ⟨_,rfl⟩
   ·exact ⟨_,rfl⟩
   ·cases ha
   ·cases ha
  obtain ⟨k,rfl⟩:=one;have hl:=fits_length hf
  obtain ⟨a,e⟩:∃ a,(A.drop off).take [k].length=[a]:=by
   cases hx:(A.drop off).take [k].length with
   | nil=>rw [hx] at hl;cases hl
   | cons a L=>rw [hx] at hl;cases L with
    | nil=>exact ⟨a,rfl⟩
    | cons _ _=>simp at hl
  have ea:A[off]? = some a:=by
   have:((A.drop off).take 1)[0]? = some a:=by
    have e:(A.drop off).take 1=[a]:=e;rw [e];rfl
   rw [List.getElem?_take,if_pos (by decide),List.getElem?_drop] at this
   simpa using this
  obtain ⟨c,h1,h2⟩:=hr.get ea;rw [Array.getElem?_toList] at h1;refine ⟨c,by simp [Go.part,run_isAgg hu,ha,h1],⟨?_,fun q=>(by rw [hu] at q;rw [show isAggD d=true from q] at ha;cases ha),fun _=>⟨a,e,h2⟩⟩⟩;rw [e,cells_one h2];exact .cons h2 .nil
theorem kind_bool {a:AV} (h:cellKind a=8):∃ b,a=.bool b:=by
 cases a <;> first | exact ⟨_,rfl⟩ | (exfalso;revert h;simp [cellKind];done) | skip
 rename_i k n;cases k <;> (exfalso;revert h;simp [cellKind,kn])
theorem kind_int {a:AV} {k:IntKind} (h:cellKind a=kn k):∃ n,a=.int k n:=by
 cases a <;> first | (exfalso;revert h;cases k <;> simp [cellKind,kn];done) | skip
 rename_i j n;have:j=k:=by cases j <;> cases k <;> first | rfl | (exfalso;revert h;simp [cellKind,kn])
 subst this;exact ⟨_,rfl⟩
theorem kind_str {a:AV} (h:cellKind a=9):∃ l,a=.str l:=by
 cases a <;> first | exact ⟨_,rfl⟩ | (exfalso;revert h;simp [cellKind];done) | skip
 rename_i k n;cases k <;> (exfalso;revert h;simp [cellKind,kn])
theorem toNats_inj:∀ {a b:List UInt8},a.map UInt8.toNat=b.map UInt8.toNat->a=b
 | [],[],_=>rfl
 | [],_ :: _,h=>by cases h
 | _ :: _,[],h=>by cases h
 | x :: a,y :: b,h=>by
  simp only [List.map_cons,List.cons.injEq] at h;rw [UInt8.toNat_inj.1 h.1,toNats_inj h.2]
theorem codes_inj {s u:ByteArray} (h:codes s=codes u):s=u:=by
 obtain ⟨⟨a⟩⟩:=s;obtain ⟨⟨b⟩⟩:=u;rw [toNats_inj (a:=a) (b:=b) h]
theorem eqNs_codes (s u:ByteArray):eqNs (codes s) (codes u)=(s.toList == u.toList):=by
 rw [eqNs_iff,ByteArray.toList_eq,ByteArray.toList_eq,Bool.eq_iff_iff,decide_eq_true_eq,beq_iff_eq];constructor
 ·intro h;rw [codes_inj h]
 ·intro h;unfold codes;rw [h]
theorem fieldsOf_eq {t:TypeId} {fs:Array Field} (h:P.underlying t=some (.struct fs)):P.fieldsOf t=fs:=by unfold Program.fieldsOf;rw [h]
def EqOk (P:Program) (φ:Phi) (D:Nat) (t:TypeId) (ks:List Nat):Prop:=∀ (w:World) (A B:List AV) (x y:Value) (r:Bool),FV P φ t A x->FV P φ t B y->fits ks A=true->fits ks B=true->eqL A B=some r ->
 (Op.equalIn D t x y).run P w=.ok r w
theorem flatF_len {ih:TypeId->Option (List Nat)}:∀ {fs:List Field} {off:Nat} {ks:List Nat},flatF P ih fs off=some ks->∀ f l,fs=f :: l ->
  ∃ k1 k2,ih f.type=some k1∧k1.length=P.cellsOf f.type∧f.offset=off∧f.name≠"_"∧flatF P ih l (off+k1.length)=some k2∧ks=k1++k2:=by
 intro fs off ks h f l e;subst e;obtain ⟨h1,h⟩:=iteB_some h;obtain ⟨h1,h2⟩:=andB_iff.1 h1;obtain ⟨k1,h3,h⟩:=ob_none_eq h;obtain ⟨h4,h⟩:=iteB_some h;obtain ⟨k2,h5,h⟩:=ob_none_eq h;cases h;have h4:=Nat.eq_of_beq_eq_true h4;rw [lenL_eq,ti_size] at h4;have h5:flatF P ih l (off+lenL k1)=some k2:=h5;rw [lenL_eq] at h5;exact ⟨k1,k2,h3,h4,Nat.eq_of_beq_eq_true h1,by simpa using h2,h5,appL_eq _ _⟩
theorem eqFields_ok {m D:Nat} (IH:∀ t ks,flat P m t=some ks->EqOk P φ D t ks) {A B:List AV} {X Y:Array Value} (hX:L2 (RelS φ) A X.toList) (hY:L2 (RelS φ) B Y.toList) (w:World):
  ∀ (fs:List Field) (off:Nat) (ks:List Nat) (r:Bool),flatF P (flat P m) fs off=some ks->fits ks (A.drop off)=true->fits ks (B.drop off)=true->eqL (A.drop off) (B.drop off)=some r ->
   (Op.eqFields D X Y fs).run P w=.ok r w
 | [],off,ks,r,h,hA,hB,he=>by
  cases h;have e1:=List.eq_nil_of_length_eq_zero (fits_length hA);have e2:=List.eq_nil_of_length_eq_zero (fits_length hB);rw [e1,e2] at he;cases he;rfl
 | f :: fs,off,ks,r,h,hA,hB,he=>by
  obtain ⟨k1,k2,h1,h2,rfl,h4,h5,rfl⟩:=flatF_len h f fs rfl;obtain ⟨a1,a2⟩:=fits_append hA;obtain ⟨b1,b2⟩:=fits_append hB;rw [<- List.take_append_drop k1.length (A.drop f.offset),<- List.take_append_drop k1.length (B.drop f.offset)] at he;obtain ⟨r1,r2,e1,e2,rfl⟩:=eqL_append (by rw [fits_length a1,fits_length b1]) he;obtain ⟨x,p1,v1⟩:=run_piece h1 h2 hX a1 w;obtain ⟨y,p2,v2⟩:=run_piece h1 h2 hY b1 w;have q:=IH f.type k1 h1 w _ _ x y r1 v1 v2 a1 b1 e1;rw [List.drop_drop] at a2 b2 e2;have e2:eqL (A.drop (f.offset+k1.length)) (B.drop (f.offset+k1.length))=some r2:=by rw [List.drop_drop] at e2;exact e2
  have rest:=eqFields_ok IH hX hY w fs _ k2 r2 h5 a2 b2 e2;simp only [Op.eqFields,ne_eq,h4,not_false_eq_true,if_true,Sem.run_bind,p1,p2,q,Result.andThen_ok];cases r1
  ·simp
  ·simpa using rest
theorem eqItems_ok {m D:Nat} {e:TypeId} {l:List Nat} (hl:flat P m e=some l) (hle:l.length=P.cellsOf e) (IH:EqOk P φ D e l) {A B:List AV} {X Y:Array Value} (hX:L2 (RelS φ) A X.toList) (hY:L2 (RelS φ) B Y.toList) (w:World):
  ∀ (n i:Nat) (r:Bool),fits (rep n l) (A.drop (i*l.length))=true->fits (rep n l) (B.drop (i*l.length))=true->eqL (A.drop (i*l.length)) (B.drop (i*l.length))=some r ->
   (Op.eqItems D e (P.cellsOf e) X Y (List.range' i n)).run P w=.ok r w
 | 0,i,r,hA,hB,he=>by
  have e1:=List.eq_nil_of_length_eq_zero (fits_length hA);have e2:=List.eq_nil_of_length_eq_zero (fits_length hB);rw [e1,e2] at he;cases he;rfl
 | n+1,i,r,hA,hB,he=>by
  have er:rep (n+1) l=l++rep n l:=appL_eq _ _;rw [er] at hA hB;obtain ⟨a1,a2⟩:=fits_append hA;obtain ⟨b1,b2⟩:=fits_append hB;rw [<- List.take_append_drop l.length (A.drop (i*l.length)),<- List.take_append_drop l.length (B.drop (i*l.length))] at he;obtain ⟨r1,r2,e1,e2,rfl⟩:=eqL_append (by rw [fits_length a1,fits_length b1]) he;obtain ⟨x,p1,v1⟩:=run_piece hl hle hX a1 w;obtain ⟨y,p2,v2⟩:=run_piece hl hle hY b1 w;have q:=IH w _ _ x y r1 v1 v2 a1 b1 e1;have ei:i*l.length+l.length=(i+1)*l.length:=by rw [Nat.add_mul];omega
  rw [List.drop_drop,ei] at a2 b2;rw [List.drop_drop,List.drop_drop,ei] at e2;have rest:=eqItems_ok hl hle IH hX hY w n (i+1) r2 a2 b2 e2;rw [hle] at p1 p2;rw [List.range'_succ];simp only [Op.eqItems,Sem.run_bind,p1,p2,q,Result.andThen_ok];cases r1
  ·simp
  ·simpa using rest
theorem flat_eq:∀ (m:Nat) (t:TypeId) (ks:List Nat),flat P m t=some ks->∀ D,EqOk P φ (D+m) t ks
 | 0,t,ks,h,_=>by cases h
 | m+1,t,ks,h,D=>by
  intro w A B x y r hx hy fA fB he;obtain ⟨d,hu,hd⟩:=flat_und h
  have sc:isAggD d=false->∃ a b,A=[a]∧B=[b]∧RelS φ a x∧RelS φ b y∧eqC a b=some r:=by
   intro q;obtain ⟨a,rfl,ra⟩:=hx.one (by rw [hu];exact q);obtain ⟨b,rfl,rb⟩:=hy.one (by rw [hu];exact q);obtain ⟨r1,r2,h1,h2,rfl⟩:=eqL_cons he;cases h2;exact ⟨a,b,rfl,rfl,ra,rb,by rw [h1];simp⟩
  rw [show D+(m+1)=(D+m)+1 by omega];rcases hd with ⟨rfl,rfl⟩ | ⟨k,rfl,rfl⟩ | ⟨rfl,rfl⟩ | ⟨fs,rfl,hst,m',hm,hfs⟩ | ⟨n,e,l,rfl,m',hm,hl,hle,rfl⟩
  ·obtain ⟨a,b,rfl,rfl,ra,rb,hc⟩:=sc rfl
   obtain ⟨a,rfl⟩:=kind_bool (fits_cons fA).1;obtain ⟨b,rfl⟩:=kind_bool (fits_cons fB).1;cases relT_bool ra.toT;cases relT_bool rb.toT;cases hc;exact run_equalIn_bool w _ t _ _ hu
  ·obtain ⟨a,b,rfl,rfl,ra,rb,hc⟩:=sc rfl
   obtain ⟨a,rfl⟩:=kind_int (fits_cons fA).1;obtain ⟨b,rfl⟩:=kind_int (fits_cons fB).1;cases relT_int ra.toT;cases relT_int rb.toT;obtain ⟨_,hc⟩:=iteB_some hc;cases hc;rw [eqI_eq];exact run_equalIn_int w _ t _ _ a b hu
  ·obtain ⟨a,b,rfl,rfl,ra,rb,hc⟩:=sc rfl
   obtain ⟨a,rfl⟩:=kind_str (fits_cons fA).1;obtain ⟨b,rfl⟩:=kind_str (fits_cons fB).1;obtain ⟨s,rfl,rfl⟩:=relT_str ra.toT;obtain ⟨u,rfl,rfl⟩:=relT_str rb.toT;have hc:some (eqNs (codes s) (codes u))=some r:=hc;cases hc;rw [run_equalIn_string w _ t s u hu,eqNs_codes]
  ·cases hm
   obtain ⟨X,rfl⟩:=hx.agg (by rw [hu];rfl);obtain ⟨Y,rfl⟩:=hy.agg (by rw [hu];rfl);rw [run_equalIn_struct w _ t X Y (by rw [fieldsOf_eq hu];exact hu) hst,fieldsOf_eq hu];exact eqFields_ok (fun t ks h=>flat_eq m t ks h D) hx.cells hy.cells w fs.toList 0 ks r hfs fA fB he
  ·cases hm
   obtain ⟨X,rfl⟩:=hx.agg (by rw [hu];rfl);obtain ⟨Y,rfl⟩:=hy.agg (by rw [hu];rfl);obtain ⟨i,hi⟩:∃ i,P.info? e=some i:=by obtain ⟨d,hd,_⟩:=flat_und hl;exact info_of_und hd
   rw [run_equalIn_array w _ X Y hu hi,List.range_eq_range'];exact eqItems_ok hl hle (flat_eq m e l hl D) hx.cells hy.cells w n 0 r (by simpa using fA) (by simpa using fB) (by simpa using he)
theorem lt_toNats:∀ a b:List UInt8,ltNs (a.map UInt8.toNat) (b.map UInt8.toNat)=Op.bytesLess a b
 | [],[]=>rfl
 | [],_ :: _=>rfl
 | _ :: _,[]=>rfl
 | x :: a,y :: b=>by
  show iteB (Nat.beq x.toNat y.toNat) (ltNs (a.map UInt8.toNat) (b.map UInt8.toNat)) (Nat.blt x.toNat y.toNat)=(decide (x < y) || (x == y && Op.bytesLess a b));rw [lt_toNats a b];by_cases h:x=y
  ·subst h
   rw [Nat.beq_refl];simp
  ·have h1:Nat.beq x.toNat y.toNat=false:=by rw [<- Bool.not_eq_true];intro q;exact h (UInt8.toNat_inj.1 (Nat.eq_of_beq_eq_true q))
   have h2:(x == y)=false:=by rw [beq_eq_false_iff_ne];exact h
   rw [h1,h2];simp only [iteB_false,Bool.false_and,Bool.or_false];rw [Bool.eq_iff_iff,decide_eq_true_eq,UInt8.lt_iff_toNat_lt];simp [Nat.blt_eq]
theorem less_total:∀ a b:List UInt8,(!Op.bytesLess b a)=(Op.bytesLess a b || (a == b))
 | [],[]=>by simp [Op.bytesLess]
 | [],_ :: _=>by simp [Op.bytesLess]
 | _ :: _,[]=>by simp [Op.bytesLess]
 | x :: a,y :: b=>by
  have ih:=less_total a b;simp only [Op.bytesLess];by_cases h:x=y
  ·subst h
   have e:(x :: a == x :: b)=(a == b):=by simp
   rw [e]
   simpa using ih
  ·have e:(x :: a == y :: b)=false:=by rw [beq_eq_false_iff_ne];intro q;injection q with q;exact h q
   have e1:(x == y)=false:=by rw [beq_eq_false_iff_ne];exact h
   have e2:(y == x)=false:=by rw [beq_eq_false_iff_ne];exact fun q=>h q.symm
   rw [e,e1,e2];simp only [Bool.false_and,Bool.or_false];rw [Bool.eq_iff_iff];simp only [Bool.not_eq_true',decide_eq_false_iff_not,decide_eq_true_eq,UInt8.lt_iff_toNat_lt];have:x.toNat≠y.toNat:=fun q=>h (UInt8.toNat_inj.1 q);omega
theorem codes_append (s u:ByteArray):codes (s++u)=codes s++codes u:=by
 unfold codes;rw [<- List.map_append,ByteArray.data_append,Array.toList_append]
theorem run_strOp {op:BinOp} {s u:ByteArray} {v:AV} (t:TypeId) (h:strOp op (codes s) (codes u)=some v) (w:World):
  ∃ c,(binOp op t (.string s) (.string u)).run P w=.ok c w∧RelT φ v c:=by
 have boo:∀ n,RelT φ (.bool n) (.bool n):=fun n=>RelB.toT (.bool _);have el:∀ x:ByteArray,codes x=x.toList.map UInt8.toNat:=fun x=>by rw [ByteArray.toList_eq];rfl
 have elt:∀ x y:ByteArray,ltNs (codes x) (codes y)=Op.bytesLess x.toList y.toList:=fun x y=>by rw [el,el,lt_toNats]
 have fin:∀ {x:AV} {c:Value},some x=some v->(binOp op t (.string s) (.string u)).run P w=.ok c w->RelT φ x c->∃ c,(binOp op t (.string s) (.string u)).run P w=.ok c w∧RelT φ v c:=by
  intro x c e h1 h2;cases e;exact ⟨c,h1,h2⟩
 cases op <;> first | (cases h;done) | skip
 ·obtain ⟨h1,h⟩:=iteB_some h
  have h1:=Nat.le_of_ble_eq_true h1;rw [lenL_eq,lenL_eq,codes_length,codes_length] at h1;have h1:s.size+u.size<=1099511627776:=h1;refine fin h (c:=.string (s++u)) ?_ (by rw [appL_eq,<- codes_append];exact RelB.toT (.str _));have:¬ ((s.size:Int)+(u.size:Int) > 9223372036854775807):=by omega
  simp [binOp,Op.stringOp,IntKind.max_i64,this]
 ·exact fin h (c:=.bool (s.toList == u.toList)) (by simp [binOp,Op.stringOp]) (by rw [eqNs_codes];exact boo _)
 ·exact fin h (c:=.bool (!(s.toList == u.toList))) (by simp [binOp,Op.stringOp]) (by rw [eqNs_codes];exact boo _)
 ·exact fin h (c:=.bool (Op.bytesLess s.toList u.toList)) (by simp [binOp,Op.stringOp]) (by rw [elt];exact boo _)
 ·exact fin h (c:=.bool (Op.bytesLess s.toList u.toList || (s.toList == u.toList))) (by simp [binOp,Op.stringOp]) (by rw [elt,less_total];exact boo _)
 ·exact fin h (c:=.bool (!(Op.bytesLess s.toList u.toList || (s.toList == u.toList)))) (by simp [binOp,Op.stringOp]) (by rw [elt,<- less_total,Bool.not_not];exact boo _)
 ·exact fin h (c:=.bool (!Op.bytesLess s.toList u.toList)) (by simp [binOp,Op.stringOp]) (by rw [elt];exact boo _)
section
variable (d : Nat) {t e k : TypeId} {ps rs : Array TypeId} {vd : Bool} (w : World)
theorem eq_p1 (hu:P.underlying t=some (.pointer e)) (b:Option Addr):(Op.equalIn (d+1) t (.pointer none) (.pointer b)).run P w=.ok b.isNone w:=by simp [Op.equalIn,run_underlying hu]
theorem eq_p2 (hu:P.underlying t=some (.pointer e)) (b:Addr):(Op.equalIn (d+1) t (.pointer (some b)) (.pointer none)).run P w=.ok false w:=by simp [Op.equalIn,run_underlying hu]
theorem eq_s1 (hu:P.underlying t=some (.slice e)) (b:Option Addr) (n c:Nat):(Op.equalIn (d+1) t (.slice none 0 0) (.slice b n c)).run P w=.ok b.isNone w:=by simp [Op.equalIn,run_underlying hu]
theorem eq_s2 (hu:P.underlying t=some (.slice e)) (b:Addr) (n c:Nat):(Op.equalIn (d+1) t (.slice (some b) n c) (.slice none 0 0)).run P w=.ok false w:=by simp [Op.equalIn,run_underlying hu]
theorem eq_m1 (hu:P.underlying t=some (.map k e)) (b:Option Nat):(Op.equalIn (d+1) t (.map none) (.map b)).run P w=.ok b.isNone w:=by simp [Op.equalIn,run_underlying hu]
theorem eq_m2 (hu:P.underlying t=some (.map k e)) (b:Nat):(Op.equalIn (d+1) t (.map (some b)) (.map none)).run P w=.ok false w:=by simp [Op.equalIn,run_underlying hu]
theorem eq_f0 (hu:P.underlying t=some (.func ps rs vd)):(Op.equalIn (d+1) t .nilFunc .nilFunc).run P w=.ok true w:=by simp [Op.equalIn,run_underlying hu]
theorem eq_f1 (hu:P.underlying t=some (.func ps rs vd)) (f:Fn) (a c:Array Value):(Op.equalIn (d+1) t .nilFunc (.func f a c)).run P w=.ok false w:=by simp [Op.equalIn,run_underlying hu]
theorem eq_f2 (hu:P.underlying t=some (.func ps rs vd)) (f:Fn) (a c:Array Value):(Op.equalIn (d+1) t (.func f a c) .nilFunc).run P w=.ok false w:=by simp [Op.equalIn,run_underlying hu]
end
theorem run_eqV {t:TypeId} {x y:AV} {u v:Value} {r:Bool} (hx:RelT φ x u) (hy:RelT φ y v) (h1:eqT (ti P t).desc x=true) (h2:eqT (ti P t).desc y=true) (h:eqV P t x y=some r) (w:World):
  (Op.equalIn 10000 t u v).run P w=.ok r w:=by
 have hd:∀ d,(ti P t).desc=d->d≠.invalid->P.underlying t=some d:=fun d e q=>und_of e q;cases x <;> first | (cases h;done) | skip
 all_goals (cases y <;> first | (cases h;done) | skip)
 all_goals (cases hk:(ti P t).desc <;> rw [hk] at h1 h2 <;> first | (cases h1;done) | (cases h2;done) | skip)
 all_goals (have hu:=hd _ hk (by simp))
 case bool.bool.bool=>
  cases relT_bool hx;cases relT_bool hy;cases h;exact run_equalIn_bool w 9999 t _ _ hu
 case int.int.int=>
  cases relT_int hx;cases relT_int hy;obtain ⟨hk,h⟩:=iteB_some h;cases h;cases kn_inj hk;rw [eqI_eq];exact run_equalIn_int w 9999 t _ _ _ _ hu
 case str.str.string=>
  obtain ⟨s,rfl,rfl⟩:=relT_str hx;obtain ⟨z,rfl,rfl⟩:=relT_str hy;have h:some (eqNs (codes s) (codes z))=some r:=h;cases h;rw [run_equalIn_string w 9999 t s z hu,eqNs_codes]
 case agg.agg.struct=>
  obtain ⟨A,rfl,ra⟩:=relT_agg hx;obtain ⟨B,rfl,rb⟩:=relT_agg hy;obtain ⟨ks,hf,h⟩:=ob_none_eq h;obtain ⟨hk,h⟩:=iteB_some h;obtain ⟨f1,f2⟩:=andB_iff.1 hk;exact flat_eq (φ:=φ) 8 t ks hf 9992 w _ _ _ _ r ⟨ra,fun _=>⟨A,rfl⟩,fun q=>by rw [hu] at q;cases q⟩ ⟨rb,fun _=>⟨B,rfl⟩,fun q=>by rw [hu] at q;cases q⟩ f1 f2 h
 case agg.agg.array=>
  obtain ⟨A,rfl,ra⟩:=relT_agg hx;obtain ⟨B,rfl,rb⟩:=relT_agg hy;obtain ⟨ks,hf,h⟩:=ob_none_eq h;obtain ⟨hk,h⟩:=iteB_some h;obtain ⟨f1,f2⟩:=andB_iff.1 hk;exact flat_eq (φ:=φ) 8 t ks hf 9992 w _ _ _ _ r ⟨ra,fun _=>⟨A,rfl⟩,fun q=>by rw [hu] at q;cases q⟩ ⟨rb,fun _=>⟨B,rfl⟩,fun q=>by rw [hu] at q;cases q⟩ f1 f2 h
 all_goals (cases h)
 case nilp.nilp=>cases relT_nilp hx;cases relT_nilp hy;exact eq_p1 9999 w hu none
 case nilp.ptr=>cases relT_nilp hx;obtain ⟨p,_,rfl⟩:=relT_ptr hy;exact eq_p1 9999 w hu _
 case ptr.nilp=>cases relT_nilp hy;obtain ⟨p,_,rfl⟩:=relT_ptr hx;exact eq_p2 9999 w hu _
 case nils.nils=>cases relT_nils hx;cases relT_nils hy;exact eq_s1 9999 w hu none 0 0
 case nils.sl=>cases relT_nils hx;obtain ⟨p,_,_,_,rfl,_⟩:=relT_sl hy;exact eq_s1 9999 w hu _ _ _
 case sl.nils=>cases relT_nils hy;obtain ⟨p,_,_,_,rfl,_⟩:=relT_sl hx;exact eq_s2 9999 w hu _ _ _
 case nilm.nilm=>cases relT_nilm hx;cases relT_nilm hy;exact eq_m1 9999 w hu none
 case nilm.map=>cases relT_nilm hx;obtain ⟨p,_,rfl⟩:=relT_map hy;exact eq_m1 9999 w hu _
 case map.nilm=>cases relT_nilm hy;obtain ⟨p,_,rfl⟩:=relT_map hx;exact eq_m2 9999 w hu _
 case nilf.nilf=>cases relT_nilf hx;cases relT_nilf hy;exact eq_f0 9999 w hu
 case nilf.fn=>cases relT_nilf hx;obtain ⟨_,_,rfl,_⟩:=relT_fn hy;exact eq_f1 9999 w hu _ _ _
 case fn.nilf=>cases relT_nilf hy;obtain ⟨_,_,rfl,_⟩:=relT_fn hx;exact eq_f2 9999 w hu _ _ _
theorem eqT_agg {d:TypeDesc} {l:List AV} {y:AV} (h1:eqT d (.agg l)=true) (h2:eqT d y=true):∃ m,y=.agg m:=by
 cases d <;> first | (cases h1;done) | skip
 ·cases y <;> first | (cases h2;done) | exact ⟨_,rfl⟩
 ·cases y <;> first | (cases h2;done) | exact ⟨_,rfl⟩
theorem eqT_not {d:TypeDesc} {x:AV} (h:eqT d x=true):x≠.junk∧x≠.bad∧(∀ l,x≠.tup l)∧(∀ b,x≠.it b)∧∀ b,x≠.yl b:=by
 refine ⟨?_,?_,?_,?_,?_⟩ <;> intros <;> rintro rfl <;> (cases d <;> cases h)
theorem eqT_int {d:TypeDesc} {k:IntKind} {n:Int} {y:AV} (h1:eqT d (.int k n)=true) (h2:eqT d y=true):∃ j m,y=.int j m:=by
 cases d <;> first | (cases h1;done) | skip
 cases y <;> first | (cases h2;done) | exact ⟨_,_,rfl⟩
theorem eqT_str {d:TypeDesc} {l:List Nat} {y:AV} (h1:eqT d (.str l)=true) (h2:eqT d y=true):∃ m,y=.str m:=by
 cases d <;> first | (cases h1;done) | skip
 cases y <;> first | (cases h2;done) | exact ⟨_,rfl⟩
theorem bin_eq {t:TypeId} {u v:Value} (h:(∃ b,u=.bool b)∨(∃ a,u=.pointer a)∨(∃ a n c,u=.slice a n c)∨(∃ m,u=.map m)∨(∃ f a c,u=.func f a c)∨u=.nilFunc∨(∃ l,u=.agg l)):
  binOp .eql t u v=(do pure (.bool (<- Op.equal t u v)))∧binOp .neq t u v=(do pure (.bool (!(<- Op.equal t u v)))):=by
 rcases h with ⟨b,rfl⟩ | ⟨a,rfl⟩ | ⟨a,n,c,rfl⟩ | ⟨m,rfl⟩ | ⟨f,a,c,rfl⟩ | rfl | ⟨l,rfl⟩ <;> exact ⟨rfl,rfl⟩
theorem run_eqOp {op:BinOp} {t:TypeId} {x y:AV} {u v:Value} {r:AV} {X Y:Operand} (hx:RelT φ x u) (hy:RelT φ y v) (h:eqOp P op t x y=some r)
  (h1:∀ k a j b,u=.int k a->v=.int j b->False) (h2:∀ a b,u=.string a->v=.string b->False) (w:World):
  ∃ c,(do eqGuard op t X Y u v;binOp op t u v:Sem Value).run P w=.ok c w∧RelT φ r c:=by
 obtain ⟨hc,h⟩:=iteB_some h;obtain ⟨hc,hg⟩:=andB_iff.1 hc;obtain ⟨t1,t2⟩:=andB_iff.1 hc;have hg:P.eqGuardType P.depth t=false:=by simpa using hg
 have gd:(eqGuard op t X Y u v).run P w=.ok () w:=by
  obtain ⟨n1,n2,n3,n4,n5⟩:=eqT_not t1;cases x <;> first | exact absurd rfl n1 | exact absurd rfl n2 | exact absurd rfl (n3 _) | exact absurd rfl (n4 _) | exact absurd rfl (n5 _) | skip
  case bool b=>cases relT_bool hx;rw [eqGuard_at_bool];rfl
  case int k n=>cases relT_int hx;rw [eqGuard_at_int];rfl
  case str l=>obtain ⟨s,rfl,_⟩:=relT_str hx;rw [eqGuard_at_string];rfl
  case nilp=>cases relT_nilp hx;rw [eqGuard_at_pointer];rfl
  case ptr=>obtain ⟨p,_,rfl⟩:=relT_ptr hx;rw [eqGuard_at_pointer];rfl
  case nils=>cases relT_nils hx;rw [eqGuard_at_slice];rfl
  case sl=>obtain ⟨p,_,_,_,rfl,_⟩:=relT_sl hx;rw [eqGuard_at_slice];rfl
  case nilm=>cases relT_nilm hx;rw [eqGuard_at_map];rfl
  case map=>obtain ⟨p,_,rfl⟩:=relT_map hx;rw [eqGuard_at_map];rfl
  case fn=>obtain ⟨_,_,rfl,_⟩:=relT_fn hx;rw [eqGuard_at_func];rfl
  case nilf=>cases relT_nilf hx;rw [eqGuard_at_nilFunc];rfl
  case agg l=>
   obtain ⟨A,rfl,_⟩:=relT_agg hx;obtain ⟨m,rfl⟩:=eqT_agg t1 t2;obtain ⟨B,rfl,_⟩:=relT_agg hy;exact run_eqGuard_agg w op t X Y A B hg
 have main:∀ b,eqV P t x y=some b->(Op.equal t u v).run P w=.ok b w:=fun b hb=>run_eqV hx hy t1 t2 hb w
 have red:∀ b,(Op.equal t u v).run P w=.ok b w->(binOp .eql t u v).run P w=.ok (.bool b) w∧(binOp .neq t u v).run P w=.ok (.bool (!b)) w:=by
  intro b hb
  have hs:(∃ b,u=.bool b)∨(∃ a,u=.pointer a)∨(∃ a n c,u=.slice a n c)∨(∃ m,u=.map m)∨(∃ f a c,u=.func f a c)∨u=.nilFunc∨(∃ l,u=.agg l):=by
   obtain ⟨n1,n2,n3,n4,n5⟩:=eqT_not t1;cases x <;> first | exact absurd rfl n1 | exact absurd rfl n2 | exact absurd rfl (n3 _) | exact absurd rfl (n4 _) | exact absurd rfl (n5 _) | skip
   case bool b=>exact .inl ⟨_,relT_bool hx⟩
   case int k n=>
    obtain ⟨j,m,rfl⟩:=eqT_int t1 t2;exact (h1 _ _ _ _ (relT_int hx) (relT_int hy)).elim
   case str l=>
    obtain ⟨m,rfl⟩:=eqT_str t1 t2;obtain ⟨s,rfl,_⟩:=relT_str hx;obtain ⟨z,rfl,_⟩:=relT_str hy;exact (h2 _ _ rfl rfl).elim
   case nilp=>exact .inr (.inl ⟨_,relT_nilp hx⟩)
   case ptr=>obtain ⟨p,_,e⟩:=relT_ptr hx;exact .inr (.inl ⟨_,e⟩)
   case nils=>exact .inr (.inr (.inl ⟨_,_,_,relT_nils hx⟩))
   case sl=>obtain ⟨p,_,_,_,e,_⟩:=relT_sl hx;exact .inr (.inr (.inl ⟨_,_,_,e⟩))
   case nilm=>exact .inr (.inr (.inr (.inl ⟨_,relT_nilm hx⟩)))
   case map=>obtain ⟨p,_,e⟩:=relT_map hx;exact .inr (.inr (.inr (.inl ⟨_,e⟩)))
   case fn=>obtain ⟨_,_,e,_⟩:=relT_fn hx;exact .inr (.inr (.inr (.inr (.inl ⟨_,_,_,e⟩))))
   case nilf=>exact .inr (.inr (.inr (.inr (.inr (.inl (relT_nilf hx))))))
   case agg=>obtain ⟨A,e,_⟩:=relT_agg hx;exact .inr (.inr (.inr (.inr (.inr (.inr ⟨_,e⟩)))))
  obtain ⟨e1,e2⟩:=bin_eq (t:=t) (v:=v) hs;rw [e1,e2];exact ⟨by simp [hb],by simp [hb]⟩
 cases op <;> first | (cases h;done) | skip
 ·obtain ⟨b,hb,h⟩:=ob_none_eq h
  cases h;refine ⟨.bool b,?_,RelB.toT (.bool _)⟩;rw [Sem.run_bind,gd];exact (red b (main b hb)).1
 ·obtain ⟨b,hb,h⟩:=ob_none_eq h
  cases h;refine ⟨.bool (!b),?_,RelB.toT (.bool _)⟩;rw [Sem.run_bind,gd];exact (red b (main b hb)).2
theorem ok_bin {o:Oper} {op:BinOp} {t u:TypeId} {x y:Operand} (ho:o.op=.binOp op t x y u):PrOk P o (oBin P op t (opd x) (opd y)):=fun φ tm ρ v h hv w=>by
 have hx:=h x (by rw [ho];simp [Op.operands]);have hy:=h y (by rw [ho];simp [Op.operands]);have hv:binA P op t ((opd x).run tm) ((opd y).run tm)=some v:=hv
 have fin:(∃ c,(do eqGuard op t x y (ρ x) (ρ y);binOp op t (ρ x) (ρ y):Sem Value).run P w=.ok c w∧RelT φ v c)->∃ c,(execOp ρ o).run P w=.ok (.value c) w∧RelT φ v c:=by
  rintro ⟨c,h1,h2⟩;refine ⟨c,?_,h2⟩;simp only [execOp,ho];rw [Sem.run_bind,h1];rfl
 refine fin ?_;generalize hX:(opd x).run tm=X at hx hv;generalize hY:(opd y).run tm=Y at hy hv
 have gen:(∀ k a j b,ρ x=.int k a->ρ y=.int j b->False)->(∀ a b,ρ x=.string a->ρ y=.string b->False)->eqOp P op t X Y=some v ->
   ∃ c,(do eqGuard op t x y (ρ x) (ρ y);binOp op t (ρ x) (ρ y):Sem Value).run P w=.ok c w∧RelT φ v c:=fun a b c=>run_eqOp hx hy c a b w
 have notI:(∀ k n,X≠.int k n)∨(∀ k n,Y≠.int k n)->X≠.junk->Y≠.junk->∀ k a j b,ρ x=.int k a->ρ y=.int j b->False:=by
  intro h n1 n2 k a j b e1 e2;rw [e1] at hx;rw [e2] at hy;rcases h with h | h
  ·cases hx with | one r=>cases r with
    | junk _=>exact n1 rfl
    | val r=>cases r with | cell r=>cases r with | base r=>cases r;exact h _ _ rfl
  ·cases hy with | one r=>cases r with
    | junk _=>exact n2 rfl
    | val r=>cases r with | cell r=>cases r with | base r=>cases r;exact h _ _ rfl
 have notS:(∀ l,X≠.str l)∨(∀ l,Y≠.str l)->X≠.junk->Y≠.junk->∀ a b,ρ x=.string a->ρ y=.string b->False:=by
  intro h n1 n2 a b e1 e2;rw [e1] at hx;rw [e2] at hy;rcases h with h | h
  ·cases hx with | one r=>cases r with
    | junk _=>exact n1 rfl
    | val r=>cases r with | cell r=>cases r with | base r=>cases r;exact h _ rfl
  ·cases hy with | one r=>cases r with
    | junk _=>exact n2 rfl
    | val r=>cases r with | cell r=>cases r with | base r=>cases r;exact h _ rfl
 by_cases hi:(∃ k n,X=.int k n)∧∃ k n,Y=.int k n
 ·obtain ⟨⟨k,a,rfl⟩,j,b,rfl⟩:=hi
  rw [relT_int hx,relT_int hy,eqGuard_at_int];have hv:iteB (isSh op) (shOp op k a b) (iteB (Nat.beq (kn k) (kn j)) (intOp op k a b) none)=some v:=hv;cases hs:isSh op with
  | true=>rw [hs] at hv;obtain ⟨c,h1,h2⟩:=run_shOp (P:=P) (φ:=φ) (j:=j) t hs hv w;exact ⟨c,by rw [Sem.run_bind];exact h1,h2⟩
  | false=>
   rw [hs] at hv;have hv:iteB (Nat.beq (kn k) (kn j)) (intOp op k a b) none=some v:=hv;obtain ⟨hk,hz⟩:=iteB_some hv;clear hv;cases kn_inj hk;obtain ⟨c,h1,h2⟩:=run_intOp (P:=P) (φ:=φ) t hs hz w;exact ⟨c,by rw [Sem.run_bind];exact h1,h2⟩
 ·by_cases hs:(∃ l,X=.str l)∧∃ l,Y=.str l
  ·obtain ⟨⟨l,rfl⟩,m,rfl⟩:=hs
   obtain ⟨s,e1,rfl⟩:=relT_str hx;obtain ⟨z,e2,rfl⟩:=relT_str hy;rw [e1,e2,eqGuard_at_string];obtain ⟨c,h1,h2⟩:=run_strOp (P:=P) (φ:=φ) t hv w;exact ⟨c,by rw [Sem.run_bind];exact h1,h2⟩
  ·have hv:eqOp P op t X Y=some v:=by
    cases X <;> first | exact hv | skip
    ·cases Y <;> first | exact hv | exact absurd ⟨⟨_,_,rfl⟩,_,_,rfl⟩ hi
    ·cases Y <;> first | exact hv | exact absurd ⟨⟨_,rfl⟩,_,rfl⟩ hs
   obtain ⟨hc,_⟩:=iteB_some hv;obtain ⟨hc,_⟩:=andB_iff.1 hc;obtain ⟨t1,t2⟩:=andB_iff.1 hc;refine gen (notI ?_ (eqT_not t1).1 (eqT_not t2).1) (notS ?_ (eqT_not t1).1 (eqT_not t2).1) hv
   ·by_cases q:∃ k n,X=.int k n
    ·exact .inr fun k n e=>hi ⟨q,k,n,e⟩
    ·exact .inl fun k n e=>q ⟨k,n,e⟩
   ·by_cases q:∃ l,X=.str l
    ·exact .inr fun l e=>hs ⟨q,l,e⟩
    ·exact .inl fun l e=>q ⟨l,e⟩
theorem ok_un {o:Oper} {op:UnOp} {t:TypeId} {x:Operand} (ho:o.op=.unOp op t x):PrOk P o (oUn op (opd x)):=fun φ tm ρ v h hv w=>by
 have hx:=h x (by rw [ho];simp [Op.operands]);have hv:unA op ((opd x).run tm)=some v:=hv;generalize (opd x).run tm=X at hx hv;cases op <;> first | (cases hv;done) | skip
 ·cases X <;> first | (cases hv;done) | skip
  cases hv;exact ⟨_,by simp [execOp,ho,relT_int hx,Op.unary,Op.intArith],RelB.toT (.int _ _)⟩
 ·cases X <;> first | (cases hv;done) | skip
  cases hv;exact ⟨_,by simp [execOp,ho,relT_bool hx,Op.unary],RelB.toT (.bool _)⟩
end
end Go.Proofs.YtcilaocknhphnaaGreat.Ev
namespace Go.Proofs.YtcilaocknhphnaaGreat.Ev
section
variable {P : Program} {φ : Phi}
theorem isPtrs_rel:∀ {l:List AV} {L:List Value},isPtrs l=true->L2 (RelT φ) l L->L2 (RelB φ) l L
 | [],_,_,h=>by cases h;exact .nil
 | x :: l,_,hp,h=>by
  cases h with
  | cons hr h=>
   cases x <;> first | (cases hp;done) | skip
   obtain ⟨p,hp1,rfl⟩:=relT_ptr hr;exact .cons (.ptr hp1) (isPtrs_rel hp h)
theorem ok_makeFunc {o:Oper} {fn:Fn} {a c:Array Operand} (ho:o.op=.makeFunc fn a c):PrOk P o (oMakeFunc fn a c):=by
 cases fn <;> first | exact failC_ok o | skip
 rename_i f;intro φ tm ρ v h hv w;obtain ⟨hc,hv⟩:=iteB_some hv;cases hv;obtain ⟨h1,h2⟩:=andB_iff.1 hc
 have ra:L2 (RelT φ) ((getsC a.toList).run tm) (a.map ρ).toList:=by
  rw [Array.toList_map];exact EvRel.list fun x hx=>h x (by rw [ho];simp [Op.operands];exact .inl (by simpa using hx))
 have rc:L2 (RelT φ) ((getsC c.toList).run tm) (c.map ρ).toList:=by
  rw [Array.toList_map];exact EvRel.list fun x hx=>h x (by rw [ho];simp [Op.operands];exact .inr (by simpa using hx))
 exact ⟨.func (.func f) (a.map ρ) (c.map ρ),by simp [execOp,ho,Instr.makeFunc],RelS.toT (.fn (isPtrs_rel h1 ra) (isPtrs_rel h2 rc))⟩
theorem mmA_some {mx:Bool} {x y v:AV} (h:mmA mx x y=some v):∃ k a b,x=.int k a∧y=.int k b∧v=.int k (if mx then (if a < b then b else a) else (if b < a then b else a)):=by
 cases x <;> first | (cases h;done) | skip
 rename_i k a;cases y <;> first | (cases h;done) | skip
 rename_i j b;obtain ⟨h1,h2⟩:=iteB_some h;cases h2;cases kn_inj h1;refine ⟨k,a,b,rfl,rfl,?_⟩;cases mx
 ·show AV.int k (iteB (ltI b a) b a)=_
  rw [iteB_eq,ltI_eq];simp
 ·show AV.int k (iteB (ltI a b) b a)=_
  rw [iteB_eq,ltI_eq];simp
theorem one1'_some {β:Type} {l:List AV} {f:AV->Option β} {b:β} (h:one1' l f=some b):∃ x,l=[x]∧f x=some b:=by
 match l,h with
 | [x],h=>exact ⟨x,rfl,h⟩
theorem two2'_some {β:Type} {l:List AV} {f:AV->AV->Option β} {b:β} (h:two2' l f=some b):∃ x y,l=[x,y]∧f x y=some b:=by
 match l,h with
 | [x,y],h=>exact ⟨x,y,rfl,h⟩
theorem argsRel {o:Oper} {c:Call} {tm:Tm} {ρ:Operand->Value} (ho:o.op=.call c) (h:EvRel φ tm ρ o.op.operands):L2 (RelT φ) ((getsC c.args.toList).run tm) (c.args.map ρ).toList:=by
 rw [Array.toList_map];exact EvRel.list fun x hx=>h x (by rw [ho];simp [Op.operands,Call.operands];exact .inr (by simpa using hx))
theorem toList_one {α:Type} {a:Array α} {x:α} (h:a.toList=[x]):a=#[x]:=by cases a;simp at h;subst h;rfl
theorem toList_two {α:Type} {a:Array α} {x y:α} (h:a.toList=[x,y]):a=#[x,y]:=by cases a;simp at h;subst h;rfl
theorem L2.one {α β:Type} {R:α->β->Prop} {x:α} {m:List β} (h:L2 R [x] m):∃ y,m=[y]∧R x y:=by
 cases h with | cons hr h=>cases h;exact ⟨_,rfl,hr⟩
theorem L2.two {α β:Type} {R:α->β->Prop} {x y:α} {m:List β} (h:L2 R [x,y] m):∃ u v,m=[u,v]∧R x u∧R y v:=by
 cases h with | cons hr h=>obtain ⟨v,rfl,hv⟩:=h.one;exact ⟨_,_,rfl,hr,hv⟩
theorem ok_min {o:Oper} {c:Call} (ho:o.op=.call c) (hb:c.callee=.builtin .min) (t:BT):PrOk P o (oBuiltin P .min t c.args.toList):=fun φ tm ρ v h hv w=>by
 have hr:=argsRel ho h;obtain ⟨x,y,e,hv⟩:=two2'_some hv;rw [e] at hr;obtain ⟨u,z,em,hx,hy⟩:=hr.two;have em:=toList_two em;obtain ⟨k,a,b,rfl,rfl,rfl⟩:=mmA_some hv;rw [relT_int hx,relT_int hy] at em;exact ⟨_,by simp [execOp,ho,resolve,hb,invoke,builtin,em,Builtin.min_,Builtin.min2],RelB.toT (.int _ _)⟩
theorem ok_max {o:Oper} {c:Call} (ho:o.op=.call c) (hb:c.callee=.builtin .max) (t:BT):PrOk P o (oBuiltin P .max t c.args.toList):=fun φ tm ρ v h hv w=>by
 have hr:=argsRel ho h;obtain ⟨x,y,e,hv⟩:=two2'_some hv;rw [e] at hr;obtain ⟨u,z,em,hx,hy⟩:=hr.two;have em:=toList_two em;obtain ⟨k,a,b,rfl,rfl,rfl⟩:=mmA_some hv;rw [relT_int hx,relT_int hy] at em;exact ⟨_,by simp [execOp,ho,resolve,hb,invoke,builtin,em,Builtin.max_,Builtin.max2],RelB.toT (.int _ _)⟩
theorem headA_get {α:Type} {l:List α} {d:α} (h:l≠[]):∃ x,headA l=some x∧l[0]? = some x:=by
 cases l with
 | nil=>exact absurd rfl h
 | cons x l=>exact ⟨x,rfl,rfl⟩
theorem btC_t {ts:Array TypeId} {t:TypeId} (h:ts[0]? = some t):(btC P ts.toList).t=t:=by
 obtain ⟨l⟩:=ts;cases l with
 | nil=>simp at h
 | cons x l=>simp at h;subst h;rfl
theorem btC_some {ts:Array TypeId} (h:isSomeB (headA ts.toList)=true):∃ t,ts[0]? = some t∧(btC P ts.toList).t=t∧(btC P ts.toList).e=(elemS P t).l:=by
 obtain ⟨l⟩:=ts;cases l with
 | nil=>cases h
 | cons x l=>exact ⟨x,by simp,rfl,rfl⟩
theorem run_cap_slice {t e ty:TypeId} (hu:P.underlying t=some (.slice e)) (a:Option Addr) (n c:Nat) (w:World) {ts:Array TypeId} (ht:ts[0]? = some t):
  (Builtin.cap_ ts ty #[.slice a n c]).run P w=.ok (goInt c) w:=by
 simp [Builtin.cap_,ht,run_underlying hu]
theorem run_cap_array {t e ty:TypeId} {n:Nat} (hu:P.underlying t=some (.array n e)) (v:Value) (w:World) {ts:Array TypeId} (ht:ts[0]? = some t):
  (Builtin.cap_ ts ty #[v]).run P w=.ok (goInt n) w:=by
 simp [Builtin.cap_,ht,run_underlying hu]
theorem ok_cap {o:Oper} {c:Call} (ho:o.op=.call c) (hb:c.callee=.builtin .cap) (hs:isSomeB (headA c.argTypes.toList)=true):PrOk P o (oBuiltin P .cap (btC P c.argTypes.toList) c.args.toList):=fun φ tm ρ v h hv w=>by
 have hr:=argsRel ho h;obtain ⟨x,e,hv⟩:=one1'_some hv;rw [e] at hr;obtain ⟨u,em,hx⟩:=hr.one;have em:=toList_one em;obtain ⟨n,h1,h2⟩:=ob_none_eq hv;cases h2;obtain ⟨t,ht,h3,_⟩:=btC_some (P:=P) hs;rw [h3] at h1;refine ⟨goInt n,?_,RelB.toT (.int _ _)⟩
 have fin:(Builtin.cap_ c.argTypes o.type #[u]).run P w=.ok (goInt n) w->(execOp ρ o).run P w=.ok (.value (goInt n)) w:=by
  intro q;simp [execOp,ho,resolve,hb,invoke,builtin,em,q]
 refine fin ?_;cases hd:(ti P t).desc <;> rw [hd] at h1 <;> first | (cases h1;done) | skip
 ·rename_i el
  have hu:=und_of hd (by simp);cases x <;> first | (cases h1;done) | skip
  ·cases h1;cases relT_nils hx
   exact run_cap_slice hu _ _ _ w ht
  ·obtain ⟨hq,h1⟩:=iteB_some h1
   cases h1;obtain ⟨p,off,C,hp,rfl,_,_,_,hC,_⟩:=relT_sl hx;cases hC (Nat.eq_of_beq_eq_true hq);exact run_cap_slice hu _ _ _ w ht
 ·have hu:=und_of hd (by simp)
  have h1:some _=some n:=h1;cases h1;exact run_cap_array hu _ w ht
theorem run_sb {x:Value} {k:IntKind} {n y:Nat} {code:BoundsCode} (hx:x=.int k (n:Int)) (h:n<=y) (w:World):(Instr.sliceBound x y code).run P w=.ok n w:=by
 subst hx;have:(n:Int)<=(y:Int):=by omega
 simp [Instr.sliceBound,asIntOf,h]
theorem run_bounds {isS:Bool} {len cap l u m:Nat} {low high max:Option Value} (hl:(low=none∧l=0)∨∃ x k,low=some x∧x=.int k (l:Int)) (hh:(high=none∧max=none∧u=len)∨∃ x k,high=some x∧x=.int k (u:Int))
  (hm:(max=none∧m=cap)∨∃ x k,max=some x∧x=.int k (m:Int)) (h1:l<=u) (h2:u<=m) (h3:m<=cap) (w:World):(Instr.sliceBounds isS len cap low high max).run P w=.ok (l,u,m) w:=by
 rcases hm with ⟨rfl,rfl⟩ | ⟨xm,km,rfl,hxm⟩ <;> rcases hh with ⟨rfl,hn,rfl⟩ | ⟨xh,kh,rfl,hxh⟩ <;> rcases hl with ⟨rfl,rfl⟩ | ⟨xl,kl,rfl,hxl⟩ <;> try (cases hn;done)
 all_goals simp [Instr.sliceBounds, *,run_sb rfl h1,run_sb rfl h2,run_sb rfl h3]
theorem bound_rel {tm:Tm} {ρ:Operand->Value} {d l:Nat} {lo:Option Operand} (h:bound d lo tm=some l) (hr:∀ x,lo=some x->RelT φ ((opd x).run tm) (ρ x)):
  (lo=none∧lo.map ρ=none∧l=d)∨∃ x k,lo.map ρ=some x∧x=.int k (l:Int):=by
 cases lo with
 | none=>cases h;exact .inl ⟨rfl,rfl,rfl⟩
 | some x=>
  obtain ⟨k,e⟩:=natOf_some (show natOf ((opd x).run tm)=some l from h);have:=hr x rfl;rw [e] at this;exact .inr ⟨ρ x,k,rfl,relT_int this⟩
theorem codes_slice (s:ByteArray) (l u:Nat):((codes s).drop l).take (u - l)=codes (s.extract l u):=by
 unfold codes;rw [<- List.map_drop,<- List.map_take,ByteArray.data_extract,Array.toList_extract]
theorem okQ_some {q sz:Nat} (h:okQ q sz=true):q=0∨q=sz+1:=by
 unfold okQ at h;rw [iteB_eq] at h;split at h
 ·rename_i e;exact .inl (Nat.eq_of_beq_eq_true e)
 ·exact .inr (Nat.eq_of_beq_eq_true h)
theorem sliceSl_rel {tm:Tm} {ρ:Operand->Value} {sz b o n c q:Nat} {lo hi mx:Option Operand} {v:AV} (h:sliceSl sz b o n c q lo hi mx tm=some v)
  (hlo:∀ x,lo=some x->RelT φ ((opd x).run tm) (ρ x)) (hhi:∀ x,hi=some x->RelT φ ((opd x).run tm) (ρ x)) (hmx:∀ x,mx=some x->RelT φ ((opd x).run tm) (ρ x))
  {p:Pl} {off C:Nat} (hp:φ b=some p) (h0:off=p.s+o∨C=0) (h1:n<=c) (h2:c<=C) (h3:q=0->C=c) (h4:∀ z,q=z+1->o+C*z<=p.k) (isS:Bool) (w:World):
  ∃ l u m,(Instr.sliceBounds isS n C (lo.map ρ) (hi.map ρ) (mx.map ρ)).run P w=.ok (l,u,m) w ∧
   RelT φ v (.slice (if m=l then some ⟨p.b,off,none⟩ else some ⟨p.b,off+l*sz,none⟩) (u - l) (m - l)):=by
 obtain ⟨l,hl,h⟩:=ob_none_eq h;obtain ⟨u,hu,h⟩:=ob_none_eq h;obtain ⟨hc,h⟩:=iteB_some h;obtain ⟨hq,hc⟩:=andB_iff.1 hc;obtain ⟨hlu,huc⟩:=andB_iff.1 hc;have hlu:=Nat.le_of_ble_eq_true hlu;have huc:=Nat.le_of_ble_eq_true huc;have bl:=bound_rel hl hlo;have bu:=bound_rel hu hhi;have bl':(lo.map ρ=none∧l=0)∨∃ x k,lo.map ρ=some x∧x=.int k (l:Int):=bl.imp (fun q=>q.2) id
 have fin:∀ {m c' q':Nat},l<=m->some (AV.sl b (Nat.add o (Nat.mul l sz)) (Nat.sub u l) (Nat.sub c' l) q')=some v->u<=c'->c'<=m->m<=C->(q'=0->m=c')->(∀ z,q'=z+1->z=sz∧o+m*z<=p.k) ->
   RelT φ v (.slice (if m=l then some ⟨p.b,off,none⟩ else some ⟨p.b,off+l*sz,none⟩) (u - l) (m - l)):=by
  intro m c' q' hlm e a1 a2 a3 a4 a5;cases e;have e0:(if m=l then some (⟨p.b,off,none⟩:Addr) else some ⟨p.b,off+l*sz,none⟩)=some ⟨p.b,if m=l then off else off+l*sz,none⟩:=by split <;> rfl
  rw [e0];refine RelB.toT (.sl hp ?_ (by show u - l<=c' - l;omega) (by show c' - l<=m - l;omega) (fun e=>by show m - l=c' - l;rw [a4 e]) fun z e=>?_)
  ·by_cases e:m=l
   ·exact .inr (by omega)
   ·rw [if_neg e]
    refine .inl ?_;show off+l*sz=p.s+(o+l*sz);rcases h0 with h0 | h0
    ·omega
    ·exact absurd (by omega:m=l) e
  ·obtain ⟨rfl,a6⟩:=a5 z e
   show (o+l*z)+(m - l)*z<=p.k;rw [Nat.sub_mul];have:l*z<=m*z:=Nat.mul_le_mul_right z hlm;omega
 cases mx with
 | none=>
  have bu':(hi.map ρ=none∧(none:Option Operand).map ρ=none∧u=n)∨∃ x k,hi.map ρ=some x∧x=.int k (u:Int):=bu.imp (fun q=>⟨q.2.1,rfl,q.2.2⟩) id;refine ⟨l,u,C,run_bounds bl' bu' (.inl ⟨rfl,rfl⟩) hlu (by omega) (Nat.le_refl _) w,fin (by omega) h huc h2 (Nat.le_refl _) h3 fun z e=>?_⟩;rcases okQ_some hq with e' | e'
  ·omega
  ·exact ⟨by omega,h4 z e⟩
 | some x=>
  cases hi with
  | none=>cases h
  | some y=>
   obtain ⟨m,hm,h⟩:=ob_none_eq h;obtain ⟨hc,h⟩:=iteB_some h;obtain ⟨hum,hmc⟩:=andB_iff.1 hc;have hum:=Nat.le_of_ble_eq_true hum;have hmc:=Nat.le_of_ble_eq_true hmc;have bm:=bound_rel (d:=0) (lo:=some x) (tm:=tm) (ρ:=ρ) (φ:=φ) hm hmx;have bm':((some x).map ρ=none∧m=C)∨∃ v k,(some x).map ρ=some v∧v=.int k (m:Int):=bm.imp (fun q=>by cases q.1) id;have bu':((some y).map ρ=none∧(some x).map ρ=none∧u=n)∨∃ v k,(some y).map ρ=some v∧v=.int k (u:Int):=bu.imp (fun q=>by cases q.1) id;exact ⟨l,u,m,run_bounds bl' bu' bm' hlu hum (by omega) w,fin (by omega) h hum (Nat.le_refl _) (by omega) (fun _=>rfl) fun z e=>by omega⟩
theorem ok_slice {o:Oper} {t:TypeId} {x:Operand} {lo hi mx:Option Operand} (ho:o.op=.slice t x lo hi mx):PrOk P o (oSlice P t (opd x) lo hi mx):=fun φ tm ρ v h hv w=>by
 have hx:=h x (by rw [ho];simp [Op.operands]);have hlo:∀ y,lo=some y->RelT φ ((opd y).run tm) (ρ y):=fun y e=>h y (by rw [ho,e];simp [Op.operands]);have hhi:∀ y,hi=some y->RelT φ ((opd y).run tm) (ρ y):=fun y e=>h y (by rw [ho,e];simp [Op.operands]);have hmx:∀ y,mx=some y->RelT φ ((opd y).run tm) (ρ y):=fun y e=>h y (by rw [ho,e];simp [Op.operands]);have hv:sliceA P (ti P t).desc lo hi mx tm ((opd x).run tm)=some v:=hv;generalize (opd x).run tm=X at hx hv
 have fin:∀ r,(Instr.sliceAt t (ρ x) (lo.map ρ) (hi.map ρ) (mx.map ρ)).run P w=.ok r w->RelT φ v r->∃ c,(execOp ρ o).run P w=.ok (.value c) w∧RelT φ v c:=
  fun r h1 h2=>⟨r,by simp [execOp,ho,h1],h2⟩
 cases hd:(ti P t).desc <;> rw [hd] at hv <;> first | (cases hv;done) | skip
 ·have hu:=und_of hd (by simp)
  cases X <;> first | (cases hv;done) | skip
  cases mx with
  | some _=>cases hv
  | none=>
   obtain ⟨s,e,rfl⟩:=relT_str hx;obtain ⟨l,hl,hv⟩:=ob_none_eq hv;obtain ⟨u,hu',hv⟩:=ob_none_eq hv;rw [lenL_eq,codes_length] at hu'
   have key:l<=u∧u<=s.size∧v=.str (((codes s).drop l).take (u - l)):=by
    rw [iteB_eq] at hv;split at hv
    ·rename_i e
     obtain ⟨h1,hv⟩:=iteB_some hv;cases hv;cases Nat.eq_of_beq_eq_true e;have h1:=Nat.le_of_ble_eq_true h1;rw [lenL_eq,codes_length] at h1;exact ⟨Nat.le_refl _,h1,by simp⟩
    ·rename_i e
     obtain ⟨hlu,hv⟩:=iteB_some hv;obtain ⟨r,hr,hv⟩:=ob_none_eq hv;cases hv;have hlu:=Nat.le_of_ble_eq_true hlu;obtain ⟨rfl,hle⟩:=takeA_some _ _ _ hr;rw [dropA_eq] at hle ⊢;rw [List.length_drop,codes_length] at hle;have hle:u - l<=s.size - l:=hle;have:l≠u:=by rintro rfl;exact e (Nat.beq_refl l)
     exact ⟨hlu,by omega,rfl⟩
   obtain ⟨hlu,hus,rfl⟩:=key;have bl:=bound_rel hl hlo;have bu:=bound_rel hu' hhi;refine fin (.string (s.extract l u)) ?_ (by rw [codes_slice];exact RelB.toT (.str _));have:=run_bounds (P:=P) (isS:=false) (len:=s.size) (cap:=s.size) (m:=s.size) (max:=none) (bl.imp (fun q=>q.2) id) (bu.imp (fun q=>⟨q.2.1,rfl,q.2.2⟩) id) (.inl ⟨rfl,rfl⟩) hlu hus (Nat.le_refl _) w;simp [Instr.sliceAt,Instr.slice,run_underlying hu,e,this]
 ·rename_i el
  have hu:=und_of hd (by simp);cases X <;> first | (cases hv;done) | skip
  ·obtain ⟨hk,hv⟩:=iteB_some hv
   obtain ⟨i,hii⟩:=kn_some hk;obtain ⟨l,hl,hv⟩:=ob_none_eq hv;obtain ⟨u,hu',hv⟩:=ob_none_eq hv;obtain ⟨h0,hv⟩:=iteB_some hv;have h0:l+u=0:=Nat.eq_of_beq_eq_true h0;obtain rfl:l=0:=by omega
   obtain rfl:u=0:=by omega
   have e:=relT_nils hx;have bl:=bound_rel hl hlo;have bu:=bound_rel hu' hhi
   have key:v=.nils∧((mx.map ρ=none)∨(∃ y,hi=some y)∧∃ x k,mx.map ρ=some x∧x=.int k ((0:Nat):Int)):=by
    cases mx with
    | none=>cases hv;exact ⟨rfl,.inl rfl⟩
    | some m=>
     cases hi with
     | none=>cases hv
     | some y=>
      obtain ⟨m',hm,hv⟩:=ob_none_eq hv;obtain ⟨hm0,hv⟩:=iteB_some hv;cases hv;cases Nat.eq_of_beq_eq_true hm0;have bm:=bound_rel (d:=0) (lo:=some m) (tm:=tm) (ρ:=ρ) (φ:=φ) hm hmx;exact ⟨rfl,.inr ⟨⟨y,rfl⟩,bm.resolve_left (by rintro ⟨q,_⟩;cases q)⟩⟩
   obtain ⟨rfl,hm⟩:=key;refine fin (.slice none 0 0) ?_ (RelB.toT .nils)
   have bu':(hi.map ρ=none∧mx.map ρ=none∧0=0)∨∃ x k,hi.map ρ=some x∧x=.int k ((0:Nat):Int):=by
    rcases bu with ⟨a,b,_⟩ | q
    ·rcases hm with hm | ⟨⟨y,e⟩,_⟩
     ·exact .inl ⟨b,hm,rfl⟩
     ·rw [a] at e;cases e
    ·exact .inr q
   have:=run_bounds (P:=P) (isS:=true) (len:=0) (cap:=0) (l:=0) (u:=0) (m:=0) (bl.imp (fun q=>q.2) id) bu' (hm.imp (fun q=>⟨q,rfl⟩) (fun q=>q.2)) (Nat.le_refl _) (Nat.le_refl _) (Nat.le_refl _) w;simp [Instr.sliceAt,Instr.slice,run_underlying hu,e,this,run_sizeOf hii]
  ·obtain ⟨hk,hv⟩:=iteB_some hv
   obtain ⟨i,hii⟩:=kn_some hk;obtain ⟨p,off,C,hp,e,h0,h1,h2,h3,h4⟩:=relT_sl hx;obtain ⟨l,u,m,hb,hr⟩:=sliceSl_rel (P:=P) hv hlo hhi hmx hp h0 h1 h2 h3 h4 true w;rw [ti_size] at hr;refine fin _ ?_ hr;simp only [Instr.sliceAt,Instr.slice,run_underlying hu,e,hb,run_sizeOf hii,Sem.run_bind,Result.andThen_ok,Option.map_some,Addr.add_plain,Sem.run_pure]
 ·rename_i n el
  have hu:=und_of hd (by simp);cases X <;> first | (cases hv;done) | skip
  obtain ⟨hk,hv⟩:=iteB_some hv;obtain ⟨i,hii⟩:=kn_some hk;obtain ⟨p,hp,e⟩:=relT_ptr hx;obtain ⟨l,u,m,hb,hr⟩:=sliceSl_rel (P:=P) hv hlo hhi hmx hp (.inl rfl) (Nat.le_refl _) (Nat.le_refl _) (fun _=>rfl) (fun z q=>by omega) false w;rw [ti_size] at hr;refine fin _ ?_ hr;have e0:∀ (a b:Addr),(if m=l then some a else some b)=some (if m=l then a else b):=fun a b=>by split <;> rfl
  simp only [Instr.sliceAt,run_underlying hu,e,Instr.sureAddr,hb,run_sizeOf hii,Sem.run_bind,Result.andThen_ok,Addr.add_plain,Sem.run_pure,e0]
end
end Go.Proofs.YtcilaocknhphnaaGreat.Ev
namespace Go.Proofs.YtcilaocknhphnaaGreat.Ev
section
variable {P : Program} {φ : Phi}
def Rl (φ:Phi) (h:H) (w:World):Prop:=∀ b p,φ b=some p->BlkOk φ h.lo w p (h.blk b)
theorem Rel.rl {φ:Phi} {h:H} {w:World} (r:Rel φ h w):Rl φ h w:=r.blk
def RdOk (P:Program) (o:Oper):OpC->Prop
 | .rd f=>∀ φ tm ρ h w v,EvRel φ tm ρ o.op.operands->Rl φ h w->f tm h=some v->∃ c,(execOp ρ o).run P w=.ok (.value c) w∧RelT φ v c
 | c=>PrOk P o c
structure RowAt (φ : Phi) (w : World) (p : Pl) (cs : List AV) (C : Array Value) (T : TypeId) : Prop where
  obj : w.heap[p.b]? = some (.cells C T (0, 0))
  room : p.s + p.k ≤ C.size
  len : cs.length ≤ p.k
  cell : ∀ i x, cs[i]? = some x → ∃ v, C[p.s + i]? = some v ∧ RelS φ x v
theorem row_some {h:H} {w:World} (r:Rl φ h w) {b:Nat} {p:Pl} (hp:φ b=some p) {cs:List AV} (hr:h.row b=some cs):∃ C T,RowAt φ w p cs C T:=by
 have:=r b p hp;unfold H.row at hr;generalize h.blk b=x at this hr;cases this <;> first | (cases hr;done) | skip
 rename_i h1 h2 h3 h4;cases hr;exact ⟨_,_,h1,h2,h3,h4⟩
theorem map_some {h:H} {w:World} (r:Rl φ h w) {b:Nat} {p:Pl} (hp:φ b=some p) {es:List (AV × AV)} (hm:h.map b=some es):
  ∃ ces clk,w.heap[p.b]? = some (.map ces clk)∧L2 (EntRel φ) es ces.toList∧(∀ c∈ces.toList,c.born < clk)∧(ces.toList.map (·.born)).Nodup:=by
 have:=r b p hp;unfold H.map at hm;generalize h.blk b=x at this hm;cases this <;> first | (cases hm;done) | skip
 rename_i h1 h2 h3 h4;cases hm;exact ⟨_,_,h1,h2,h3,h4⟩
theorem RowAt.cellAt {w:World} {p:Pl} {cs:List AV} {C:Array Value} {T:TypeId} (r:RowAt φ w p cs C T) (n:Nat):w.cell? ⟨p.b,n,none⟩=C[n]?:=by
 unfold World.cell?;rw [r.obj];rfl
theorem RowAt.cells {w:World} {p:Pl} {cs:List AV} {C:Array Value} {T:TypeId} (r:RowAt φ w p cs C T) {o n:Nat} {l:List AV} (h:takeA n (dropA o cs)=some l):
  ∃ vs:List Value,vs.length=n∧L2 (RelS φ) l vs∧(loadCells ⟨p.b,p.s+o,none⟩ n).run P w=.ok vs.toArray w:=by
 obtain ⟨rfl,hl⟩:=takeA_some _ _ _ h;rw [dropA_eq] at hl ⊢;rw [List.length_drop] at hl;have hroom:=r.room;have hlen:=r.len;by_cases hn:n=0
 ·subst hn
  exact ⟨[],rfl,by simpa using L2.nil,by simp [loadCells,loadCellsFrom]⟩
 refine ⟨(C.toList.drop (p.s+o)).take n,by simp;omega,?_,?_⟩
 ·refine L2.of_get (by simp;omega) fun i a b ha hb=>?_
  rw [List.getElem?_take] at ha hb;split at ha
  ·rename_i hi
   rw [if_pos hi] at hb;rw [List.getElem?_drop] at ha hb;obtain ⟨v,hv,hr⟩:=r.cell _ _ ha;rw [Array.getElem?_toList] at hb;rw [show p.s+(o+i)=p.s+o+i by omega] at hv;rw [hb] at hv;cases hv;exact hr
  ·cases ha
 ·have:=run_loadCells_list (P:=P) w ⟨p.b,p.s+o,none⟩ ((C.toList.drop (p.s+o)).take n) (by
   intro j v hj;rw [List.getElem?_take] at hj;split at hj
   ·rw [List.getElem?_drop,Array.getElem?_toList] at hj
    rw [Addr.add_plain,r.cellAt];exact hj
   ·cases hj)
  rw [show ((C.toList.drop (p.s+o)).take n).length=n by simp;omega] at this;exact this
theorem loadVar_ok {t:TypeId} {h:H} {w:World} (r:Rl φ h w) {b o:Nat} {p:Pl} (hp:φ b=some p) {v:AV} (hl:loadAt P h t b o=some v):
  ∃ c,(loadVar t ⟨p.b,p.s+o,none⟩).run P w=.ok c w∧RelF φ v c:=by
 obtain ⟨cs,hr,hl⟩:=ob_none_eq hl;obtain ⟨C,T,ra⟩:=row_some r hp hr;have hl:iteB (isOneD (ti P t).desc) (headA (dropA o cs)) (iteB (isAggD (ti P t).desc) (ob none (takeA (ti P t).size (dropA o cs)) fun l=>some (.agg l)) none)=some v:=hl;cases ho:isOneD (ti P t).desc with
 | true=>
  rw [ho] at hl;have hu:P.underlying t=some (ti P t).desc:=und_of rfl (by intro e;rw [e] at ho;cases ho);have ha:isAggD (ti P t).desc=false:=by revert ho;cases (ti P t).desc <;> intro ho <;> first | rfl | cases ho
  obtain ⟨c,h1,h2⟩:=ra.cell _ _ (headA_drop hl);have h3:=ra.cellAt (p.s+o);rw [h1] at h3;refine ⟨c,?_,.cell h2⟩;simp only [loadVar,Sem.run_bind,run_isAgg hu,ha,Result.andThen_ok,Bool.false_eq_true,if_false];simp [load,Sem.run,h3]
 | false=>
  rw [ho] at hl;obtain ⟨ha,hl⟩:=iteB_some hl;have hu:P.underlying t=some (ti P t).desc:=und_of rfl (by intro e;rw [e] at ha;cases ha);obtain ⟨i,hi⟩:=info_of_und hu;obtain ⟨l,h1,h2⟩:=ob_none_eq hl;cases h2;rw [ti_size] at h1;obtain ⟨vs,hlen,hr,hrun⟩:=ra.cells (P:=P) h1;refine ⟨.agg vs.toArray,?_,.agg hr⟩;simp only [loadVar,Sem.run_bind,run_isAgg hu,ha,Result.andThen_ok,if_true,run_sizeOf hi,hrun,Sem.run_pure]
theorem atPtr_some' {v:AV} {β:Type} {r:β} {f:Nat->Nat->Option β} (h:atPtr none v f=some r):∃ b o,v=.ptr b o∧f b o=some r:=by
 cases v <;> first | exact ⟨_,_,rfl,h⟩ | cases h
theorem ok_load {o:Oper} {t:TypeId} {x:Operand} (ho:o.op=.load t x):RdOk P o (oLoad P t (opd x)):=fun φ tm ρ h w v he hr hv=>by
 have hx:=he x (by rw [ho];simp [Op.operands]);obtain ⟨b,q,e,hv⟩:=atPtr_some hv;rw [e] at hx;obtain ⟨p,hp,ex⟩:=relT_ptr hx;obtain ⟨c,h1,h2⟩:=loadVar_ok (P:=P) hr hp hv;exact ⟨c,by simp [execOp,ho,ex,Instr.loadAt,Instr.sureAddr,h1],h2.toT⟩
theorem byteOf_some {x:AV} {n:Nat} (h:byteOfA x=some n):x=.int .u8 (.ofNat n)∧n < 256:=by
 cases x <;> first | (cases h;done) | skip
 rename_i k m;cases k <;> first | (cases h;done) | skip
 cases m <;> first | (cases h;done) | skip
 obtain ⟨h1,h2⟩:=iteB_some h;cases h2;exact ⟨rfl,by simpa [Nat.blt_eq] using h1⟩
theorem bytesOf_rel:∀ {l:List AV} {vs:List Value} {s:List Nat},bytesOf l=some s->L2 (RelS φ) l vs->vs=s.map (fun n:Nat=>Value.int .u8 (n:Int))∧∀ n∈s,n < 256
 | [],_,_,h,hr=>by cases hr;cases h;exact ⟨rfl,by simp⟩
 | x :: l,_,_,h,hr=>by
  cases hr with
  | cons hx hr=>
   obtain ⟨n,h1,h⟩:=ob_none_eq (show ob none (byteOfA x) _=_ from h);obtain ⟨s,h2,h⟩:=ob_none_eq h;cases h;obtain ⟨rfl,hn⟩:=byteOf_some h1;obtain ⟨rfl,hns⟩:=bytesOf_rel h2 hr;refine ⟨?_,?_⟩
   ·rw [relT_int hx.toT];rfl
   ·intro m hm
    rcases List.mem_cons.1 hm with rfl | hm
    ·exact hn
    ·exact hns m hm
theorem push_codes (ns:List Nat) (h:∀ n∈ns,n < 256):∀ s:ByteArray,codes (ns.foldl (fun r n=>r.push (UInt8.ofNat n)) s)=codes s++ns:=by
 induction ns with
 | nil=>intro s;simp
 | cons n ns ih=>
  intro s;rw [List.foldl_cons,ih (fun m hm=>h m (by simp [hm]))]
  have:codes (s.push (UInt8.ofNat n))=codes s++[n]:=by
   unfold codes;rw [ByteArray.data_push,Array.toList_push,List.map_append]
   congr 1
   simp only [List.map_cons,List.map_nil];rw [UInt8.toNat_ofNat',Nat.mod_eq_of_lt (h n (by simp))]
  rw [this];simp
theorem convA_some {h:H} {s d:TypeDesc} {x v:AV} (hc:convA P h s d x=some v):
  (∃ k j n,d=.int k∧x=.int j n∧v=.int k (k.wrap n))∨(d=.string∧(∃ l,x=.str l∧v=.str l)) ∨
  (d=.string∧isBytes P s=true∧x=.nils∧v=.str []) ∨
  (d=.string∧isBytes P s=true∧∃ b o n c q cs bs,x=.sl b o n c q∧h.row b=some cs∧(∃ l,takeA (n*1) (dropA o cs)=some l∧bytesOf l=some bs)∧v=.str bs):=by
 cases d <;> first | (cases hc;done) | skip
 ·cases x <;> first | (cases hc;done) | skip
  cases hc;exact .inl ⟨_,_,_,rfl,rfl,by rw [wrapF_eq]⟩
 ·cases x <;> first | (cases hc;done) | skip
  ·cases hc;exact .inr (.inl ⟨rfl,_,rfl,rfl⟩)
  ·obtain ⟨h1,h2⟩:=iteB_some hc
   cases h2;exact .inr (.inr (.inl ⟨rfl,h1,rfl,rfl⟩))
  ·obtain ⟨h1,h2⟩:=iteB_some hc
   obtain ⟨l,h3,h2⟩:=ob_none_eq h2;obtain ⟨bs,h4,h2⟩:=ob_none_eq h2;cases h2;obtain ⟨cs,h5,h3⟩:=ob_none_eq h3;exact .inr (.inr (.inr ⟨rfl,h1,_,_,_,_,_,cs,bs,rfl,h5,⟨l,h3,h4⟩,rfl⟩))
theorem isBytes_some {d:TypeDesc} (h:isBytes P d=true):∃ e,d=.slice e∧P.underlying e=some (.int .u8):=by
 cases d <;> first | (cases h;done) | skip
 rename_i e;refine ⟨e,rfl,und_of ?_ (by simp)⟩;have h:isU8 (ti P e).desc=true:=h;revert h;cases (ti P e).desc <;> intro h <;> first | (cases h;done) | skip
 rename_i k;cases k <;> first | (cases h;done) | rfl
theorem knownD_some {t:TypeId} (h:knownD (ti P t).desc=true):∃ d,P.underlying t=some d:=⟨_,und_of rfl (by intro e;rw [e] at h;cases h)⟩
theorem ok_conv {o:Oper} {s d:TypeId} {x:Operand} (ho:o.op=.convert s d x):RdOk P o (oConv P s d (opd x)):=by
 unfold oConv;cases hk:knownD (ti P s).desc with
 | false=>exact failC_ok o
 | true=>
 intro φ tm ρ h w v he hr hv;obtain ⟨ds,hus⟩:=knownD_some hk;have hx:=he x (by rw [ho];simp [Op.operands]);have hv:convA P h (ti P s).desc (ti P d).desc ((opd x).run tm)=some v:=hv
 have fin:∀ c,(convert s d (ρ x)).run P w=.ok c w->RelT φ v c->∃ c,(execOp ρ o).run P w=.ok (.value c) w∧RelT φ v c:=
  fun c h1 h2=>⟨c,by simp [execOp,ho,h1],h2⟩
 rcases convA_some hv with ⟨k,j,n,hd,e,rfl⟩ | ⟨hd,l,e,rfl⟩ | ⟨hd,hb,e,rfl⟩ | ⟨hd,hb,b,q,n,c,z,cs,bs,e,hrow,⟨l,hl,hbs⟩,rfl⟩
 ·have hu:=und_of hd (by simp)
  rw [e] at hx;refine fin (.int k (k.wrap n)) ?_ (RelB.toT (.int _ _));rw [relT_int hx];simp [convert,run_underlying hus,run_underlying hu,Conv.intToInt]
 ·have hu:=und_of hd (by simp)
  rw [e] at hx;obtain ⟨s',es,rfl⟩:=relT_str hx;refine fin (.string s') ?_ (RelB.toT (.str s'));rw [es];cases ds <;> simp [convert,run_underlying hus,run_underlying hu]
 ·obtain ⟨el,hs,hel⟩:=isBytes_some hb
  have hu:=und_of hd (by simp);have hus:=und_of hs (by simp);rw [e] at hx;refine fin (.string .empty) ?_ (RelB.toT (.str .empty));rw [relT_nils hx];simp [convert,run_underlying hus,run_underlying hu,run_underlying hel,Conv.bytesToString]
 ·obtain ⟨el,hs,hel⟩:=isBytes_some hb
  have hu:=und_of hd (by simp);have hus:=und_of hs (by simp);rw [e] at hx;obtain ⟨p,off,C,hp,ex,h0,h1,h2,_,_⟩:=relT_sl hx;obtain ⟨A,T,ra⟩:=row_some hr hp hrow;rw [Nat.mul_one] at hl;obtain ⟨vs,hlen,hrel,hrun⟩:=ra.cells (P:=P) hl;obtain ⟨rfl,hns⟩:=bytesOf_rel hbs hrel
  have hload:(loadCells ⟨p.b,off,none⟩ n).run P w=.ok ((bs.map Int.ofNat).map (Value.int .u8)).toArray w:=by
   by_cases hn:n=0
   ·subst hn
    have:bs=[]:=by simpa using hlen
    subst this;simp [loadCells,loadCellsFrom]
   ·rw [h0.resolve_right (by omega)]
    rw [List.map_map];exact hrun
  refine fin (.string (bs.foldl (fun r n=>r.push (UInt8.ofNat n)) ByteArray.empty)) ?_ ?_
  ·rw [ex,run_convert_bytes_string w s d el _ _ _ hus hel hu,run_bytesToString w _ n C _ hload]
   rw [List.foldl_map];rfl
  ·have:=push_codes bs hns ByteArray.empty
   rw [show codes ByteArray.empty=[] from rfl,List.nil_append] at this;have r:=RelB.toT (φ:=φ) (.str (bs.foldl (fun r n=>r.push (UInt8.ofNat n)) ByteArray.empty));rw [this] at r;exact r
end
end Go.Proofs.YtcilaocknhphnaaGreat.Ev
