/-
  The reference's cut: firsts, ahead, uses, anew. The reference's cut in plain Lean: what it needs and numbers anew is the program's.
-/
import Derived.Test.YthdfplafihmejaaGreatZtUPlainY
import Derived.Test.YthdfplafihmejaaGreatZtAEntZ
import Derived.Test.YthdfplafihmejaaGreatZtBaseZ
import Derived.Test.YthdfplafihmejaaGreatZtRRefAZ
import Derived.Test.YthdfplafihmejaaGreatZtVShort
import Derived.Test.YthdfplafihmejaaGreatZtDRun
import Derived.Test.YthdfplafihmejaaGreatZtQNeed
import Derived.Test.YthdfplafihmejaaGreatZtKit2
import Derived.Test.YthdfplafihmejaaGreatZtVPlain2
import Derived.Test.YthdfplafihmejaaGreatZtQCut
namespace Go.Proofs.YthdfplafihmejaaGreat
open Go.RowKit Go.Maps
def xd (n:Int) (l:zE):Bool:=l.all fun s=>decide (0<=s.2) && decide (s.2 < n)
def zb5 (a b:Int) (l:zE):Bool:=l.any fun s=>decide (a<=s.2) && decide (s.2 < b)
set_option maxRecDepth 100000 in
theorem zfp (w:World) (sv:Value) (G:Nat->Prop) (l:zE) (n:Int) (hl:Yl w sv G l):
    Calls Tryz.prog 101 #[sv,.int .i64 n] w fun e w'=>e=.returned (.bool (xd n l))∧Chg (fun _=>False) w w':=by
  have HL:=ze hl;obtain ⟨la,cap,rfl,hl0,_⟩:=hl;unfold maxLen at hl0
  have YES:=ze (fun (q:∀ (j:Nat) (s:Int × Int),l[j]? = some s->0<=s.2∧s.2 < n)=>show xd n l=true from zrh.2 (fun s hs=>by
    obtain ⟨j,hj⟩:=List.mem_iff_getElem?.1 hs;have:=q j s hj;rw [zqY this.1,zqY this.2];rfl))
  have NOT:=ze (fun (j:Nat) (s:Int × Int) (hj:l[j]? = some s) (q:¬ (0<=s.2∧s.2 < n))=>show xd n l=false from by
    cases hb:xd n l with
    | false=>rfl
    | true=>
      have:=zrh.1 hb s (zq2 hj);simp only [zrl,decide_eq_true_eq] at this;exact absurd this q)
  generalize xd n l=res at *;go_enter Tryz.func101,Tryz.ntmps101;go_wp2;go_loopw [5] (fun iv wr=>∃ k:Nat,k<=l.length∧iv=.int .i64 k∧Hid (w=wr)∧Hid (∀ (j:Nat) (s:Int × Int),j < k->l[j]? = some s->0<=s.2∧s.2 < n)) (fun iv _=>l.length - (intOf iv).toNat)
  case atStart=>exact ⟨0,by omega,rfl,ze rfl,ze (fun j s hj=>by omega)⟩
  case round=>
    obtain ⟨k,hk,rfl,hw,ALL⟩:=hrel;have hw:=hw.out;subst hw;by_cases hlt:k < l.length
    · have g0:decide ((k:Int) < (l.length:Int))=true:=zqY (by omega)
      have g0':decide (k < l.length)=true:=zqY hlt;obtain ⟨⟨at_,r⟩,hx⟩:∃ s,l[k]? = some s:=⟨_,zq0 hlt⟩;obtain ⟨_,_,e1,_,hcl⟩:=HL.out;cases e1;obtain ⟨lb,lo,rfl,_,x0,x1⟩:=hcl k _ hx;simp only at x0 x1
      have NX:=ze (show 0<=r∧r < n->∀ (j:Nat) (s:Int × Int),j < k+1->l[j]? = some s->0<=s.2∧s.2 < n from fun q j s hj hs=>by
        rcases Nat.lt_or_ge j k with z | z
        · exact ALL.out j s z hs
        · obtain rfl:j=k:=by omega
          rw [hx] at hs;cases hs;exact q)
      have NO:=ze (NOT.out k (at_,r) hx);clear hcl hx x0;by_cases h1:r < 0
      · have g1:decide (r < 0)=true:=zqY h1
        have R:=ze (NO.out (fun q=>by have:=q.1;simp only at this;omega));go_wp2;go_ret;exact ⟨by rw [R.out];rfl,Chg.refl _ _⟩
      have g1:decide (r < 0)=false:=zqZ h1;by_cases h2:n<=r
      · have g2:decide (n<=r)=true:=zqY h2
        have R:=ze (NO.out (fun q=>by have:=q.2;simp only at this;omega));go_wp2;go_ret;exact ⟨by rw [R.out];rfl,Chg.refl _ _⟩
      have g2:decide (n<=r)=false:=zqZ h2;have R:=ze (NX.out ⟨by omega,by omega⟩);go_wp2;go_roundw
      case rel=>exact ⟨k+1,by omega,by go_num,ze (by first | trivial | rfl),R⟩
      case measure=>simp [intOf];omega
    · obtain rfl:k=l.length:=by omega
      have g0:decide ((l.length:Int) < (l.length:Int))=false:=zqZ (by omega);have g0':decide (l.length < l.length)=false:=zqZ (by omega);have R:=ze (YES.out (fun j s hj=>ALL.out j s (zq1.1 hj).1 hj));go_wp2;go_ret;exact ⟨by rw [R.out];rfl,Chg.refl _ _⟩
set_option maxRecDepth 100000 in
theorem zlI (w:World) (sv:Value) (G:Nat->Prop) (l:zE) (a b:Int) (hl:Yl w sv G l):
    Calls Tryz.prog 102 #[sv,.int .i64 a,.int .i64 b] w fun e w'=>e=.returned (.bool (zb5 a b l))∧Chg (fun _=>False) w w':=by
  have HL:=ze hl;obtain ⟨la,cap,rfl,hl0,_⟩:=hl;unfold maxLen at hl0;have YES:=ze (fun (j:Nat) (s:Int × Int) (hj:l[j]? = some s) (q:a<=s.2∧s.2 < b)=>show zb5 a b l=true from List.any_eq_true.2 ⟨s,zq2 hj,by rw [zqY q.1,zqY q.2];rfl⟩)
  have NOT:=ze (fun (q:∀ (j:Nat) (s:Int × Int),l[j]? = some s->¬ (a<=s.2∧s.2 < b))=>show zb5 a b l=false from by
    cases hb:zb5 a b l with
    | false=>rfl
    | true=>
      obtain ⟨s,hs,h2⟩:=List.any_eq_true.1 hb;obtain ⟨j,hj⟩:=List.mem_iff_getElem?.1 hs;simp only [zrl,decide_eq_true_eq] at h2;exact absurd h2 (q j s hj))
  generalize zb5 a b l=res at *;go_enter Tryz.func102,Tryz.ntmps102;go_wp2;go_loopw [7] (fun iv wr=>∃ k:Nat,k<=l.length∧iv=.int .i64 k∧Hid (w=wr)∧Hid (∀ (j:Nat) (s:Int × Int),j < k->l[j]? = some s->¬ (a<=s.2∧s.2 < b))) (fun iv _=>l.length - (intOf iv).toNat)
  case atStart=>exact ⟨0,by omega,rfl,ze rfl,ze (fun j s hj=>by omega)⟩
  case round=>
    obtain ⟨k,hk,rfl,hw,ALL⟩:=hrel;have hw:=hw.out;subst hw;by_cases hlt:k < l.length
    · have g0:decide ((k:Int) < (l.length:Int))=true:=zqY (by omega)
      have g0':decide (k < l.length)=true:=zqY hlt;obtain ⟨⟨at_,r⟩,hx⟩:∃ s,l[k]? = some s:=⟨_,zq0 hlt⟩;obtain ⟨_,_,e1,_,hcl⟩:=HL.out;cases e1;obtain ⟨lb,lo,rfl,_,x0,x1⟩:=hcl k _ hx;simp only at x0 x1
      have NX:=ze (show ¬ (a<=r∧r < b)->∀ (j:Nat) (s:Int × Int),j < k+1->l[j]? = some s->¬ (a<=s.2∧s.2 < b) from fun q j s hj hs=>by
        rcases Nat.lt_or_ge j k with z | z
        · exact ALL.out j s z hs
        · obtain rfl:j=k:=by omega
          rw [hx] at hs;cases hs;exact q)
      have YS:=ze (YES.out k (at_,r) hx);clear hcl hx x0;by_cases h1:a<=r
      · have g1:decide (a<=r)=true:=zqY h1
        by_cases h2:r < b
        · have g2:decide (r < b)=true:=zqY h2
          have R:=ze (YS.out ⟨h1,h2⟩);go_wp2;go_ret;exact ⟨by rw [R.out];rfl,Chg.refl _ _⟩
        · have g2:decide (r < b)=false:=zqZ h2
          have R:=ze (NX.out (fun q=>h2 q.2));go_wp2;go_roundw
          case rel=>exact ⟨k+1,by omega,by go_num,ze (by first | trivial | rfl),R⟩
          case measure=>simp [intOf];omega
      · have g1:decide (a<=r)=false:=zqZ h1
        have R:=ze (NX.out (fun q=>h1 q.1));go_wp2;go_roundw
        case rel=>exact ⟨k+1,by omega,by go_num,ze (by first | trivial | rfl),R⟩
        case measure=>simp [intOf];omega
    · obtain rfl:k=l.length:=by omega
      have g0:decide ((l.length:Int) < (l.length:Int))=false:=zqZ (by omega);have g0':decide (l.length < l.length)=false:=zqZ (by omega);have R:=ze (NOT.out (fun j s hj=>ALL.out j s (zq1.1 hj).1 hj));go_wp2;go_ret;exact ⟨by rw [R.out];rfl,Chg.refl _ _⟩
def za8 (roots:Int) (T:Nat->Nat) (m:Nat):List Value:=(List.range m).map fun k=>.int .i64 (roots+(T k:Int))
theorem ziE (roots:Int) (T:Nat->Nat) (m:Nat):za8 roots T (m+1)=za8 roots T m++[.int .i64 (roots+(T m:Int))]:=by
  unfold za8;rw [List.range_succ,List.map_append];rfl
theorem zkV {roots:Int} {T:Nat->Nat} {m k:Nat} (h:k < m):(za8 roots T m)[k]? = some (.int .i64 (roots+(T k:Int))):=by
  unfold za8;rw [zrb,List.getElem?_range h];rfl
def zaG (C:List zq) (I:List zP):Prop:=∀ (k:Nat) x,I[k]? = some x->0<=x.cert∧x.cert < C.length
def zgz (w:World) (roots:Int) (C:List zq) (I:List zP) (e:Ending) (w':World):Prop:=Chg (fun _=>False) w w' ∧
  ((zaG C I∧∃ fv,e=.returned (.tuple #[fv,.bool true])∧w'.ownsRow w.heap.size 3 1 fv (I.length+1) (za8 roots (tot C I) (I.length+1))) ∨
   (¬ zaG C I∧e=.returned (.tuple #[.slice none 0 0,.bool false])))
set_option maxHeartbeats 4000000 in
set_option maxRecDepth 100000 in
theorem zih (w:World) (roots:Int) (v iv sv:Value) (P:List (zq × Value)) (p:zL) (G G':Nat->Prop) (hv:ym w v G P) (hp:Zz w iv sv G' p) (hI:p.items.length<=1000) (hC:∀ c∈zk P,c.fr.length<=1000) (hr1:-9223372036854775808<=roots) (hr2:roots<=1099511627776):
    Calls Tryz.prog 100 #[.int .i64 roots,v,.agg #[iv,sv]] w (zgz w roots (zk P) p.items):=by
  have HV:=ze hv;have HP:=ze hp;obtain ⟨la,lcap,rfl,hl0,_⟩:=hv;obtain ⟨ia,ic,rfl⟩:=hp.items.shape;obtain ⟨sa,sc,rfl⟩:=hp.steps.shape;unfold maxLen at hl0;have CL:=zQ P;obtain ⟨T,hT⟩:∃ T:Nat->Nat,T=tot (zk P) p.items:=⟨_,rfl⟩
  have TB:=ze (fun k (hk:k<=p.items.length)=>show T k<=1000000 from by
    rw [hT];exact Nat.le_trans (zb9 hC p.items k) (by have:=Nat.mul_le_mul_right 1000 (Nat.le_trans hk hI);omega))
  have TS:=ze (fun k (x:zP) (hk:p.items[k]? = some x)=>show T (k+1)=T k+zdu (zk P) x.cert from by rw [hT];exact zdy hk);have T0:=ze (show T 0=0 from by rw [hT];exact zb8 _ _)
  have FRL:=ze (fun (c:Nat) q (hq:P[c]? = some q)=>show zdu (zk P) (c:Int)=q.1.fr.length from by
    unfold zdu;rw [Int.toNat_natCast,Zy hq])
  have YES:=ze (fun (q:∀ (k:Nat) x,k < p.items.length->p.items[k]? = some x->0<=x.cert∧x.cert < P.length)=>show zaG (zk P) p.items from fun k x hx=>by
    rw [CL];exact q k x (zq1.1 hx).1 hx)
  have NOT:=ze (fun (k:Nat) x (hx:p.items[k]? = some x) (q:¬ (0<=x.cert∧x.cert < P.length))=>show ¬ zaG (zk P) p.items from fun h=>by
    have:=h k x hx;rw [CL] at this;exact q this)
  unfold zgz;rw [<- hT];generalize zaG (zk P) p.items=OK at *;have OB:=ze (zh w (.cells #[.slice ia p.items.length ic,.slice sa p.steps.length sc] 83));have kb:=zi (fun _=>False) w (.cells #[.slice ia p.items.length ic,.slice sa p.steps.length sc] 83);have ka:=zi (fun _=>False) (w.alloc (.cells #[.slice ia p.items.length ic,.slice sa p.steps.length sc] 83)) (.cells #[.int .i64 roots] 3);have KB:=ze (kb.trans ka);have OA:=ze (ka.obj (fun e=>e) OB.out);have or:((w.alloc (.cells #[.slice ia p.items.length ic,.slice sa p.steps.length sc] 83)).alloc (.cells #[.int .i64 roots] 3)).ownsRow (w.alloc (.cells #[.slice ia p.items.length ic,.slice sa p.steps.length sc] 83)).heap.size 3 1 (.slice (some ⟨(w.alloc (.cells #[.slice ia p.items.length ic,.slice sa p.steps.length sc] 83)).heap.size,0,none⟩) 1 1) 1 [.int .i64 roots]:=zis rfl (by decide);rw [zq8] at or;have OR0:=ze or;have hs1:w.heap.size+1<=((w.alloc (.cells #[.slice ia p.items.length ic,.slice sa p.steps.length sc] 83)).alloc (.cells #[.int .i64 roots] 3)).heap.size:=by rw [zq8,zq8];omega
  clear hp hT CL kb ka or OB;go_enter Tryz.func100,Tryz.ntmps100;go_wp2;generalize (w.alloc (.cells #[.slice ia p.items.length ic,.slice sa p.steps.length sc] 83)).alloc (.cells #[.int .i64 roots] 3)=w1 at *;go_loopw [8,9,10] (fun ov nv iv wr=>∃ k:Nat,k<=p.items.length∧nv=.int .i64 (roots+(T k:Int))∧iv=.int .i64 k∧Hid (wr.ownsRow (w.heap.size+1) 3 1 ov (k+1) (za8 roots T (k+1))∧(Chg (fun _=>False) w wr∧wr.heap[w.heap.size]? = some (.cells #[.slice ia p.items.length ic,.slice sa p.steps.length sc] 83 (0,0)))∧∀ (j:Nat) x,j < k->p.items[j]? = some x->0<=x.cert∧x.cert < P.length)) (fun _ _ iv _=>p.items.length - (intOf iv).toNat)
  case atStart=>
    refine ⟨0,by omega,?_,rfl,ze ⟨?_,⟨KB.out,OA.out⟩,fun j x hj=>by omega⟩⟩
    · rw [T0.out];simp
    · have e:za8 roots T (0+1)=[.int .i64 roots]:=by
        unfold za8;simp [T0.out]
      rw [e];exact OR0.out
  case round=>
    obtain ⟨k,hk,rfl,rfl,HI⟩:=hrel;have KW:=ze HI.out.2.1.1;have OP:=ze HI.out.2.1.2;have ALL:=ze HI.out.2.2;obtain ⟨ba,bc,rfl⟩:=zl HI.out.1;have OR:=ze HI.out.1;have tk:=TB.out k hk;have q0:=zf (o:=0) OP.out rfl;clear HI OR0;by_cases hlt:k < p.items.length
    · have g0:decide ((k:Int) < (p.items.length:Int))=true:=zqY (by omega)
      have g0':decide (k < p.items.length)=true:=zqY hlt;obtain ⟨⟨cert,paths⟩,hx⟩:∃ x,p.items[k]? = some x:=⟨_,zq0 hlt⟩;obtain ⟨_,_,e1,_,hcl⟩:=HP.out.items.chg KW.out (fun _ _ e=>e);cases e1;obtain ⟨lb,lo,pv,rfl,_,i0,i1,hpa⟩:=hcl k _ hx;simp only at i0;have NO:=ze (NOT.out k _ hx);have TSK:=ze (TS.out k _ hx)
      have NX:=ze (show 0<=cert∧cert < (P.length:Int)->∀ (j:Nat) x,j < k+1->p.items[j]? = some x->0<=x.cert∧x.cert < P.length from fun q j x hj hs=>by
        rcases Nat.lt_or_ge j k with z | z
        · exact ALL.out j x z hs
        · obtain rfl:j=k:=by omega
          rw [hx] at hs;cases hs;exact q)
      clear hcl hx i1 hpa;by_cases h1:cert < 0
      · have g1:decide (cert < 0)=true:=zqY h1
        have R:=ze (NO.out (fun q=>by have:=q.1;simp only at this;omega));go_wp2;refine bodyPost_ret (v:=.tuple #[.slice none 0 0,.bool false]) (by simp [results,Tryz.results100,go_sem]) rfl ?_;exact ⟨KW.out,.inr ⟨R.out,rfl⟩⟩
      have g1:decide (cert < 0)=false:=zqZ h1;obtain ⟨c,rfl⟩:∃ c:Nat,cert=(c:Int):=⟨cert.toNat,by omega⟩;by_cases hc1:c < P.length
      rotate_left
      · have g3:decide ((P.length:Int)<=(c:Int))=true:=zqY (by omega)
        have g4:decide (P.length<=c)=true:=zqY (by omega);have R:=ze (NO.out (fun q=>by have:=q.2;simp only at this;omega));go_wp2;refine bodyPost_ret (v:=.tuple #[.slice none 0 0,.bool false]) (by simp [results,Tryz.results100,go_sem]) rfl ?_;exact ⟨KW.out,.inr ⟨R.out,rfl⟩⟩
      have g3:decide ((P.length:Int)<=(c:Int))=false:=zqZ (by omega);have g4:decide (P.length<=c)=false:=zqZ (by omega);obtain ⟨pq,hpq⟩:∃ pq,P[c]? = some pq:=⟨_,zq0 hc1⟩;have FR:=FRL.out c pq hpq;have TE:T (k+1)=T k+pq.1.fr.length:=by rw [TSK.out];(try simp only);rw [FR]
      have tk1:=TB.out (k+1) hlt;have TI:=ze (show roots+(T (k+1):Int)=roots+(T k:Int)+(pq.1.fr.length:Int) by omega);have z1:IntKind.i64.wrap (roots+(T k:Int)+(pq.1.fr.length:Int))=roots+(T k:Int)+(pq.1.fr.length:Int):=by rw [IntKind.wrap_i64];omega
      have hfl:pq.1.fr.length<=1000000:=by omega
      obtain ⟨_,_,e2,_,hcl2⟩:=HV.out.chg KW.out (fun _ _ e=>e);cases e2;obtain ⟨cb,co,ca,cc,rfl,_,_,_,_,_,c3,_⟩:=hcl2 c pq hpq;have R:=ze (NX.out ⟨by omega,by omega⟩);have hbs:w.heap.size+1<=wr.heap.size:=zr OP.out;clear hcl2 hpq FR TE NO NX h1;obtain ⟨fl,hfl2⟩:∃ fl,fl=pq.1.fr.length:=⟨_,rfl⟩;rw [<- hfl2] at z1 hfl c3 TI;clear hfl2;go_wp2_with (at_builtin;refine Zd rfl (.tmp 44) (.tmp 46) 36 rfl 3 1 8 Tryz.underlying36 Tryz.elemInt (w.heap.size+1) (.slice ba (k+1) bc) (k+1) (za8 roots T (k+1)) rfl (OR.out.alloc _) _ [.int .i64 (roots+(T k:Int)+(fl:Int))] 3 (0,0) rfl (zh _ _) rfl ?b1 ?b2 ?b3 ?b4 ?nx)
      case b1=>first | rfl | (intro u hu;simp at hu;subst hu;rfl)
      case b2=>omega
      case b3=>unfold maxLen;omega
      case b4=>first | omega | (rw [zq8];omega)
      intro v5 w5 o5 g5;obtain ⟨a5,c5,rfl⟩:=zl o5;have ka:=zi (fun _=>False) wr (.cells #[.int .i64 (roots+(T k:Int)+(fl:Int))] 3);have KN:=ze (And.intro ((KW.out.trans ka).next (Chg.of_grown g5) (fun i hi e=>by have:=(OR.out.lt i e).1;omega)) ((Chg.of_grown g5).obj (fun e=>by have:=(OR.out.lt _ e).1;omega) (ka.obj (fun e=>e) OP.out)))
      have ON:=ze (show w5.ownsRow (w.heap.size+1) 3 1 (.slice a5 (k+1+1) c5) (k+1+1) (za8 roots T (k+1+1)) by
        rw [ziE roots T (k+1),TI.out];exact o5)
      have TI2:=TI.out;clear o5 g5 ka q0 c3 i0;go_wp2;go_roundw
      case rel=>exact ⟨k+1,by omega,by rw [TI2],by go_num,ze ⟨ON.out,KN.out,R.out⟩⟩
      case measure=>simp [intOf];omega
    · obtain rfl:k=p.items.length:=by omega
      have g0:decide ((p.items.length:Int) < (p.items.length:Int))=false:=zqZ (by omega);have g0':decide (p.items.length < p.items.length)=false:=zqZ (by omega);have R:=ze (YES.out ALL.out);go_wp2;refine bodyPost_ret (v:=.tuple #[.slice ba (p.items.length+1) bc,.bool true]) (by simp [results,Tryz.results100,go_sem]) rfl ?_;exact ⟨KW.out,.inl ⟨R.out,_,rfl,ZP OR.out (by omega)⟩⟩
def zjh (roots:Int) (T:Nat->Nat) (N:Nat->Bool) (r:Int):Nat->Nat
  | 0=>0
  | k+1=>zjh roots T N r k+(if N k=false∧roots+(T (k+1):Int)<=r then T (k+1) - T k else 0)
def zfo (roots:Int) (T:Nat->Nat) (N:Nat->Bool) (m:Nat) (s:Int × Int):Int × Int:=(s.1,s.2 - (zjh roots T N s.2 m:Int))
theorem zlQ {roots:Int} {T:Nat->Nat} (hT:∀ k,T k<=T (k+1)) (N:Nat->Bool) (r:Int):∀ k,zjh roots T N r k+T 0<=T k
  | 0=>by unfold zjh;omega
  | k+1=>by
    have ih:=zlQ (roots:=roots) hT N r k;have:=hT k;unfold zjh;split <;> omega
structure zeP (w:World) (fb fc nb:Nat) (na:Option Addr) (nc:Nat) (roots:Int) (T:Nat->Nat) (m:Nat) (N:Nat->Bool):Prop where
  f:∀ k,k<=m->w.cell? ⟨fb,k,none⟩=some (.int .i64 (roots+(T k:Int)))
  n:∀ k,k < m->na=some ⟨nb,0,none⟩∧w.cell? ⟨nb,k,none⟩=some (.bool (N k))
theorem zeP.chg {w w':World} {fb fc nb:Nat} {na:Option Addr} {nc:Nat} {roots:Int} {T:Nat->Nat} {m:Nat} {N:Nat->Bool} (h:zeP w fb fc nb na nc roots T m N) (k:Chg (fun _=>False) w w'):zeP w' fb fc nb na nc roots T m N:=
  ⟨fun i hi=>zj k (fun e=>e) (h.f i hi),fun i hi=>⟨(h.n i hi).1,zj k (fun e=>e) (h.n i hi).2⟩⟩
theorem zfV {f:Int × Int->Int × Int} {l:zE} {k:Nat} {s:Int × Int} (h:l[k]? = some s):(l.take (k+1)).map f=(l.take k).map f++[f s]:=by
  rw [zri,h,List.map_append];rfl
theorem zfZ (a b:zE):Zv (a++b)=Zv a++Zv b:=by unfold Zv;rw [List.flatMap_append]
set_option maxHeartbeats 8000000 in
set_option maxRecDepth 100000 in
theorem zlZ (w:World) (fb fc nb:Nat) (na:Option Addr) (nc:Nat) (roots:Int) (T:Nat->Nat) (m:Nat) (N:Nat->Bool) (sv:Value) (G:Nat->Prop) (l:zE) (h:zeP w fb fc nb na nc roots T m N) (hl:Yq w sv G l) (hll:l.length<=1000000) (hm:m<=1000) (hT:∀ k,T k<=T (k+1)) (hTm:T m<=1000000) (hr0:0<=roots) (hr:roots<=1099511627776) (hs:∀ s∈l,0<=s.2∧s.2<=9223372036854775807):
    Calls Tryz.prog 103 #[sv,.slice (some ⟨fb,0,none⟩) (m+1) fc,.slice na m nc] w fun e w'=>∃ v,e=.returned v∧w'.ownsRow w.heap.size 153 2 v l.length (Zv (l.map (zfo roots T N m)))∧Chg (fun _=>False) w w':=by
  have HL:=ze hl;have HA:=ze h;have HS:=ze hs
  have TMN:=ze (show ∀ i j,i<=j->T i<=T j from fun i j hij=>by
    induction hij with
    | refl=>exact zrj _
    | step _ ih=>exact Nat.le_trans ih (hT _))
  have ROF:=ze (fun r k (hk:k<=m)=>show zjh roots T N r k<=1000000 from by
    have h1:=zlQ (roots:=roots) hT N r k;have h2:=TMN.out k m hk;omega)
  have ROS:=ze (fun r k=>show zjh roots T N r (k+1)=zjh roots T N r k+(if N k=false∧roots+(T (k+1):Int)<=r then T (k+1) - T k else 0) from rfl);have RO0:=ze (fun r=>show zjh roots T N r 0=0 from rfl);obtain ⟨F,hF⟩:∃ F:Int->Nat->Nat,F=zjh roots T N:=⟨_,rfl⟩;obtain ⟨U,hU⟩:∃ U:Nat->zE,U=fun k=>(l.take k).map (zfo roots T N m):=⟨_,rfl⟩;have U0:=ze (show U 0=[] from by rw [hU];rfl);have US:=ze (fun k (s:Int × Int) (hk:l[k]? = some s)=>show U (k+1)=U k++[(s.1,s.2 - (F s.2 m:Int))] from by rw [hU,hF];exact zfV hk);have UF:=ze (show l.map (zfo roots T N m)=U l.length from by rw [hU];simp only [zrk]);rw [UF.out];rw [<- hF] at ROF ROS RO0;obtain ⟨la,cap,rfl⟩:=hl.shape;have k0:=zi (fun _=>False) w (.cells #[] 153);have K0:=ze k0;have OE:=ze (ZH w w.heap.size 153 2 (zrj _));have hz0:w.heap.size<=(w.alloc (.cells #[] 153)).heap.size:=k0.size;clear hF hU h hl hs hT k0;go_enter Tryz.func103,Tryz.ntmps103;go_wp2;generalize w.alloc (.cells #[] 153)=w1 at *;go_loopw [7,8] (fun ov iv wr=>∃ k:Nat,k<=l.length∧iv=.int .i64 k∧Hid (wr.ownsRow w.heap.size 153 2 ov k (Zv (U k))∧Chg (fun _=>False) w wr)) (fun _ iv _=>l.length - (intOf iv).toNat)
  case atStart=>exact ⟨0,by omega,rfl,ze ⟨by rw [U0.out];exact OE.out,K0.out⟩⟩
  case round=>
    obtain ⟨k,hk,rfl,HI⟩:=hrel;have KC:=ze HI.out.2;obtain ⟨oa,oc,rfl⟩:=zl HI.out.1;have OR:=ze HI.out.1;clear HI OE K0;by_cases hlt:k < l.length
    · have g0:decide ((k:Int) < (l.length:Int))=true:=zqY (by omega)
      have g0':decide (k < l.length)=true:=zqY hlt;obtain ⟨⟨at_,r⟩,hx⟩:∃ s,l[k]? = some s:=⟨_,zq0 hlt⟩;obtain ⟨_,_,e1,_,hcl⟩:=HL.out.at_.chg KC.out (fun _ _ e=>e);cases e1;obtain ⟨lb,lo,rfl,_,x0,x1⟩:=hcl k _ hx;simp only at x0 x1;obtain ⟨hr1,hr2⟩:=HS.out _ (zq2 hx);simp only at hr1 hr2;have USK:=ze (US.out k _ hx);have RK:=ze (HA.out.chg KC.out);have X0:=ze x0;have X1:=ze x1;clear hcl hx x0;obtain ⟨wo,hwo⟩:∃ wo,wo=wr:=⟨_,rfl⟩;subst hwo;go_wp2;clear x1;go_loopw [9,10] (fun nv kv wr=>∃ j:Nat,j<=m∧nv=.int .i64 (r - (F r j:Int))∧kv=.int .i64 j∧Hid (Chg (fun _=>False) wo wr)) (fun _ kv _=>m - (intOf kv).toNat)
      case atStart=>exact ⟨0,by omega,by rw [RO0.out];simp,rfl,ze (Chg.refl _ _)⟩
      case round=>
        obtain ⟨j,hj,rfl,rfl,KJ⟩:=hrel;have fj:=ROF.out r j hj;by_cases hjl:j < m
        · as_aux_lemma=>
          have g1:decide ((j:Int) < (m:Int))=true:=zqY (by omega);have g1':decide (j < m)=true:=zqY hjl;have RJ:=RK.out.chg KJ.out;obtain ⟨rfl,n0⟩:=RJ.n j hjl;have f0:=RJ.f j hj;have f1:=RJ.f (j+1) hjl;have y1:=zj KJ.out (fun e=>e) X1.out;have t1:=TMN.out (j+1) m hjl;have t2:=TMN.out j (j+1) (Nat.le_succ _);have FS:=ze (ROS.out r j);have fj1:=ROF.out r (j+1) hjl;have w1':IntKind.i64.wrap ((j:Int)+1)=(j:Int)+1:=by rw [IntKind.wrap_i64];omega
          cases hn:N j with
          | true=>
            rw [hn] at n0;have FE:=ze (show F r (j+1)=F r j from by rw [FS.out,hn];simp);clear RJ hn;go_wp2_with fail;go_quiet (fail);rename_i nq;have KQ:=ze (KJ.out.drewN nq);go_wp2;go_roundw
            case rel=>exact ⟨j+1,by omega,by rw [FE.out],by go_num,KQ⟩
            case measure=>simp [intOf];omega
          | false=>
            rw [hn] at n0;by_cases hge:roots+(T (j+1):Int)<=r
            · have g2:decide (roots+(T (j+1):Int)<=r)=true:=zqY hge
              have FE:=ze (show F r (j+1)=F r j+(T (j+1) - T j) from by rw [FS.out,hn,if_pos ⟨rfl,hge⟩]);have z3:=ze (show r - (F r (j+1):Int)=r - (F r j:Int) - (roots+(T (j+1):Int) - (roots+(T j:Int))) from by have:=FE.out;omega);have zb:roots+(T (j+1):Int) - (roots+(T j:Int))<=1000000∧0<=roots+(T (j+1):Int) - (roots+(T j:Int)):=by omega
              have zc:-1000000<=r - (F r j:Int)∧r - (F r j:Int)<=9223372036854775807:=by omega
              obtain ⟨a,ha⟩:∃ a:Int,a=roots+(T j:Int):=⟨_,rfl⟩;obtain ⟨b,hb⟩:∃ b:Int,b=roots+(T (j+1):Int):=⟨_,rfl⟩;obtain ⟨c,hc⟩:∃ c:Int,c=r - (F r j:Int):=⟨_,rfl⟩;rw [<- ha] at f0 z3 zb;rw [<- hb] at f1 z3 zb g2;rw [<- hc] at z3 zc ⊢;have z1:IntKind.i64.wrap (b - a)=b - a:=by rw [IntKind.wrap_i64] <;> omega
              have z2:IntKind.i64.wrap (c - (b - a))=c - (b - a):=by rw [IntKind.wrap_i64] <;> omega
              have x4:((j:Int)+1).toNat=j+1:=by omega
              have x5:0<=(j:Int)+1:=by omega
              have x6:(j:Int)+1 < ((m+1:Nat):Int):=by omega
              have x7:(j:Int) < (m:Int)+1:=by omega
              clear RJ hn ha hb hc hge zb zc fj fj1 t1 t2;go_wp2_with fail;go_quiet (fail);rename_i nq;have KQ:=ze (KJ.out.drewN nq);clear y1 n0;have KQ2:=ze KQ.out.drew;go_wp2_with fail;refine xS (by kernel_rfl) (by kernel_rfl) ?_;refine WS.out ?_
              repeat (refine Zu (fun K hK=>?_);go_simp;refine hK _ ?_;clear hK K)
              refine yn ?_;go_wp2;go_roundw
              case rel=>exact ⟨j+1,by omega,by rw [z3.out],by go_num,KQ2⟩
              case measure=>simp [intOf];omega
            · have g2:decide (roots+(T (j+1):Int)<=r)=false:=zqZ hge
              have FE:=ze (show F r (j+1)=F r j from by rw [FS.out,if_neg (fun q=>hge q.2)];rfl);clear RJ hn;go_wp2_with fail;go_quiet (fail);rename_i nq;have KQ:=ze (KJ.out.drewN nq);go_wp2;go_roundw
              case rel=>exact ⟨j+1,by omega,by rw [FE.out],by go_num,KQ⟩
              case measure=>simp [intOf];omega
        · as_aux_lemma=>
          obtain rfl:j=m:=by omega
          have g1:decide ((j:Int) < (j:Int))=false:=zqZ (by omega);have g1':decide (j < j)=false:=zqZ (by omega);have y0:=zj KJ.out (fun e=>e) X0.out;have OJ:=ze (zn OR.out KJ.out (fun _ _ e=>e));have KW:=ze (KC.out.trans KJ.out);have hbs:w.heap.size<=wr.heap.size:=KW.out.size;go_wp2_with (at_builtin;refine Zd rfl (.tmp 59) (.tmp 67) 81 rfl 153 2 16 Tryz.underlying81 Tryz.elemStep w.heap.size (.slice oa k oc) k (Zv (U k)) rfl (OJ.out.alloc _) _ [.int .i64 at_,.int .i64 (r - (F r j:Int))] 153 (0,0) rfl (zh _ _) rfl ?b1 ?b2 ?b3 ?b4 ?nx)
          case b1=>intro u hu;simp at hu;rcases hu with rfl | rfl <;> rfl
          case b2=>omega
          case b3=>unfold maxLen;omega
          case b4=>first | omega | (rw [zq8];omega)
          intro v5 w5 o5 g5;obtain ⟨a5,c5,rfl⟩:=zl o5;have ka:=zi (fun _=>False) wr (.cells #[.int .i64 at_,.int .i64 (r - (F r j:Int))] 153);have KN:=ze ((KW.out.trans ka).next (Chg.of_grown g5) (fun i hi e=>by have:=(OJ.out.lt i e).1;omega))
          have ON:=ze (show w5.ownsRow w.heap.size 153 2 (.slice a5 (k+1) c5) (k+1) (Zv (U (k+1))) by
            rw [USK.out,zfZ];exact o5)
          clear o5 g5 ka y0;go_wp2;go_roundw
          case rel=>exact ⟨k+1,by omega,by go_num,ze ⟨ON.out,KN.out⟩⟩
          case measure=>simp [intOf];omega
    · obtain rfl:k=l.length:=by omega
      have g0:decide ((l.length:Int) < (l.length:Int))=false:=zqZ (by omega);have g0':decide (l.length < l.length)=false:=zqZ (by omega);go_wp2;go_ret;exact ⟨_,rfl,OR.out,KC.out⟩
variable {roots:Int} {C:List zq} {p:zL}
theorem zdW {k i:Nat} (hk:k<=p.items.length) (hi:i < p.items.length) {l:zE} (hl:∀ s∈l,s.2 < roots+tot C p.items k):zb5 (roots+(tot C p.items i:Int)) (roots+(tot C p.items (i+1):Int)) l=true↔zfU roots (zN C p.items) l i:=by
  unfold zb5 zfU;rw [List.any_eq_true];refine ⟨fun ⟨s,hs,h⟩=>?_,fun ⟨s,hs,h⟩=>?_⟩
  · rw [zrl,decide_eq_true_eq,decide_eq_true_eq] at h
    exact ⟨s,hs,zoF hi h.1 h.2⟩
  · obtain ⟨_,h1,h2⟩:=zgc hk (hl s hs) h
    exact ⟨s,hs,by rw [zrl,decide_eq_true_eq,decide_eq_true_eq];exact ⟨h1,h2⟩⟩
def zdr (roots:Int) (C:List zq) (p:zL) (i:Nat):Bool:=(xh roots (zN C p.items) p).getD i false
def zpY (roots:Int) (C:List zq) (p:zL) (i:Nat) (ps:List zE):Bool:=ps.any (zb5 (roots+(tot C p.items i:Int)) (roots+(tot C p.items (i+1):Int)))
def zpZ (roots:Int) (C:List zq) (p:zL) (i j:Nat):Bool:=match p.items[j]? with
  | some x=>zpY roots C p i x.paths
  | none=>false
def zoz (roots:Int) (C:List zq) (p:zL) (i k:Nat):Bool:=zb5 (roots+(tot C p.items i:Int)) (roots+(tot C p.items (i+1):Int)) p.steps || (List.range k).any fun j=>decide (i < j) && (zdr roots C p j && zpZ roots C p i j)
theorem zj4 (roots:Int) (C:List zq) (p:zL) (i:Nat):zoz roots C p i (i+1)=zb5 (roots+(tot C p.items i:Int)) (roots+(tot C p.items (i+1):Int)) p.steps:=by
  unfold zoz
  have e:((List.range (i+1)).any fun j=>decide (i < j) && (zdr roots C p j && zpZ roots C p i j))=false:=by
    rw [List.any_eq_false];intro j hj;have:=List.mem_range.1 hj;have d:decide (i < j)=false:=zqZ (by omega);rw [d];simp
  rw [e,Bool.or_false]
theorem zlD {i k:Nat} {x:zP} (hx:p.items[k]? = some x) (h:i < k):zoz roots C p i (k+1)=(zoz roots C p i k || (zdr roots C p k && zpY roots C p i x.paths)):=by
  unfold zoz;rw [List.range_succ,List.any_append]
  have e:zpZ roots C p i k=zpY roots C p i x.paths:=by
    unfold zpZ;rw [hx]
  have d:decide (i < k)=true:=zqY h;simp only [List.any_cons,List.any_nil,Bool.or_false,d,Bool.true_and,e,Bool.or_assoc]
theorem znu (h:yF roots C p) {i:Nat} (hi:i < p.items.length):zoz roots C p i p.items.length=zdr roots C p i:=by
  refine zdn ?_;unfold zdr;rw [znN h i];unfold zoz;rw [Bool.or_eq_true,zdW (zrj _) hi (fun s hs=>(h.lasts hs).2),List.any_eq_true];refine or_congr Iff.rfl ⟨fun ⟨j,_,hj⟩=>?_,fun ⟨k,x,hx,hn,hu⟩=>?_⟩
  · rw [zrl,zrl,decide_eq_true_eq] at hj
    obtain ⟨_,hn,hu⟩:=hj;unfold zpZ at hu;cases hx:p.items[j]? with
    | none=>rw [hx] at hu;cases hu
    | some x=>
      rw [hx] at hu;simp only at hu;unfold zpY at hu;rw [List.any_eq_true] at hu;obtain ⟨l,hl,hu⟩:=hu;exact ⟨j,x,hx,hn,l,hl,(zdW (k:=j) (Nat.le_of_lt (zq1.1 hx).1) hi (fun s hs=>(h.stands hx hl hs).2)).1 hu⟩
  · have hik:=h.ahead k x i hx hu
    obtain ⟨l,hl,hu⟩:=hu;have hkl:=(zq1.1 hx).1;refine ⟨k,List.mem_range.2 hkl,?_⟩;rw [zrl,zrl,decide_eq_true_eq];refine ⟨hik,hn,?_⟩;unfold zpZ;rw [hx];simp only;unfold zpY;rw [List.any_eq_true];exact ⟨l,hl,(zdW (k:=k) (Nat.le_of_lt hkl) hi (fun s hs=>(h.stands hx hl hs).2)).2 hu⟩
theorem zgZ {r:Int} (hr:r < roots):∀ k,zjh roots (tot C p.items) (zdr roots C p) r k=0
  | 0=>rfl
  | k+1=>by
    unfold zjh;rw [zgZ hr k,if_neg (fun q=>by have:=q.2;omega)]
theorem zgY {r:Int} {i:Nat} (h1:roots+tot C p.items i<=r) (h2:r < roots+tot C p.items (i+1)):∀ k,zjh roots (tot C p.items) (zdr roots C p) r k=YU C p.items (xh roots (zN C p.items) p) (min k i)
  | 0=>by rw [Nat.zero_min];rfl
  | k+1=>by
    unfold zjh;rw [zgY h1 h2 k];by_cases hk:k+1<=i
    · have t:=zbg C p.items hk
      have e1:min k i=k:=by omega
      have e2:min (k+1) i=k+1:=by omega
      rw [e1,e2,show YU C p.items (xh roots (zN C p.items) p) (k+1)=YU C p.items (xh roots (zN C p.items) p) k+(if (xh roots (zN C p.items) p).getD k false then 0 else tot C p.items (k+1) - tot C p.items k) from rfl];unfold zdr;cases (xh roots (zN C p.items) p).getD k false with
      | true=>rw [if_neg (fun q=>by cases q.1),if_pos rfl]
      | false=>rw [if_pos ⟨rfl,by omega⟩,if_neg (fun q=>by cases q)]
    · have t:=zbg C p.items (show i+1<=k+1 by omega)
      have e1:min k i=i:=by omega
      have e2:min (k+1) i=i:=by omega
      rw [e1,e2,if_neg (fun q=>by have:=q.2;omega),Nat.add_zero]
theorem zkm {k:Nat} (hk:k<=p.items.length) {s:Int × Int} (hs:s.2 < roots+tot C p.items k):zfo roots (tot C p.items) (zdr roots C p) p.items.length s=ziU roots (zN C p.items) (YU C p.items (xh roots (zN C p.items) p)) s:=by
  unfold zfo ziU;cases ho:Xq roots (zN C p.items) s.2 with
  | none=>
    have hr:=zkv.1 ho;simp only;rw [zgZ hr];simp
  | some i=>
    obtain ⟨h0,h1,h2⟩:=zgc hk hs ho;simp only;rw [zgY h1 h2];have e:min p.items.length i=i:=by omega
    rw [e]
theorem zkn {k:Nat} (hk:k<=p.items.length) {l:zE} (hl:∀ s∈l,s.2 < roots+tot C p.items k):l.map (zfo roots (tot C p.items) (zdr roots C p) p.items.length)=YZ roots (zN C p.items) (YU C p.items (xh roots (zN C p.items) p)) l:=by
  unfold YZ;exact List.map_congr_left (fun s hs=>zkm hk (hl s hs))
theorem zon (h0:0<=roots) (hin:zaG C p.items) (hl:xd (roots+(tot C p.items p.items.length:Int)) p.steps=true) (hi:∀ (k:Nat) x,p.items[k]? = some x->∀ (j:Nat) l,x.paths[j]? = some l->xd (roots+(tot C p.items k:Int)) l=true):yF roots C p:=
  ⟨h0,fun k x hx=>by
    unfold zes;rw [zrl,zrl,decide_eq_true_eq,decide_eq_true_eq]
    exact ⟨(hin k x hx).1,(hin k x hx).2,zrh.2 (fun l hl=>by
      obtain ⟨j,hj⟩:=List.mem_iff_getElem?.1 hl;exact hi k x hx j l hj)⟩,hl⟩
theorem ziH (h:yF roots C p):zaG C p.items:=fun _ _ hx=>h.cert hx
theorem zk5 (h:yF roots C p):xd (roots+(tot C p.items p.items.length:Int)) p.steps=true:=h.last
theorem zk4 (h:yF roots C p) {k:Nat} {x:zP} (hx:p.items[k]? = some x) {l:zE} (hl:l∈x.paths):xd (roots+(tot C p.items k:Int)) l=true:=by
  have h1:=h.item k x hx;unfold zes at h1;rw [zrl,zrl] at h1;exact zrh.1 h1.2.2 l hl
end Go.Proofs.YthdfplafihmejaaGreat
