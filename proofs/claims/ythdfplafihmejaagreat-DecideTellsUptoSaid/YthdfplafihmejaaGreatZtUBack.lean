/-
  Package accept: the looker's stale; slices.Index, Contains of words. Package accept: the looker's words. Package accept: backed, Backed, refused.
-/
import Derived.Test.YthdfplafihmejaaGreatZtUPlain
import Derived.Test.YthdfplafihmejaaGreatZtCLike
import Derived.Test.YthdfplafihmejaaGreatZtAEnt
import Derived.Test.YthdfplafihmejaaGreatZtCMap
namespace Go.Proofs.YthdfplafihmejaaGreat
open Go.RowKit Go.Maps
section
variable (w:World) (v:Value) (G:Nat->Prop) (l:List ByteArray) (x:ByteArray)
theorem zkM (hv:zx w v G l):Calls Tryz.prog 122 #[v,.string x] w fun e w'=>e=.returned (.int .i64 (zhP l x))∧w=w':=by
 obtain ⟨la,cap,rfl,hl0,hcl⟩:=hv;have HCL:=ze hcl;unfold maxLen at hl0;clear hcl;go_enter Tryz.func122,Tryz.ntmps122;go_wp2;go_loop [8] (fun iv=>∃ k:Nat,k<=l.length∧iv=.int .i64 k∧Hid (∀ j,j < k->l[j]?≠some x)) (fun iv=>l.length - (intOf iv).toNat)
 case atStart=>exact ⟨0,by omega,rfl,ze (fun j hj=>by omega)⟩
 case round=>
  obtain ⟨k,hk,rfl,HI⟩:=hrel;by_cases hlt:k < l.length
  ·obtain ⟨y,hy⟩:∃ y,l[k]? = some y:=⟨_,zq0 hlt⟩
   obtain ⟨lb,lo,rfl,_,c0,_⟩:=HCL.out k y hy;by_cases hxy:x=y
   ·have n1:(x.toList == y.toList)=true:=by rw [xC,zqY hxy]
    have R:=ze (show zhP l x=(k:Int) by
     have:=zmn (hxy ▸ hy) HI.out;unfold zhP;rw [if_pos this.1,this.2])
    clear hy hxy;go_wp2;go_ret;exact ⟨by rw [R.out];rfl,rfl⟩
   ·have n1:(x.toList == y.toList)=false:=by rw [xC,zqZ hxy]
    have HI2:=ze (show ∀ j,j < k+1->l[j]?≠some x from fun j hj=>by
     rcases Nat.lt_or_ge j k with q | q
     ·exact HI.out j q
     ·obtain rfl:j=k:=by omega
      rw [hy];exact fun e=>hxy (Option.some.inj e).symm)
    clear hy hxy;go_wp2;go_round
    case rel=>exact ⟨k+1,by omega,by go_num,HI2⟩
    case measure=>simp [intOf];omega
  ·obtain rfl:k=l.length:=by omega
   have R:=ze (show zhP l x=-1 from if_neg (zcl HI.out));go_wp2;go_ret;exact ⟨by rw [R.out];rfl,rfl⟩
theorem zcu (hv:zx w v G l):Calls Tryz.prog 95 #[v,.string x] w fun e w'=>e=.returned (.bool (decide (x∈l)))∧w=w':=by
 have IX:=ze (zkM w v G l x hv);obtain ⟨la,cap,rfl,hl0,_⟩:=hv;by_cases h:x∈l
 ·have R:=ze (show decide (x∈l)=true from zqY h)
  have q:0<=zhP l x:=by unfold zhP;rw [if_pos h];omega
  have g:decide (0<=zhP l x)=true:=zqY q;clear h;go_enter Tryz.func95,Tryz.ntmps95;go_wp2_with (first | ((with_reducible refine IX.out.mono ?_);rintro e w1 ⟨rfl,rfl⟩) | go_in);go_ret;exact ⟨by rw [R.out];rfl,rfl⟩
 ·have R:=ze (show decide (x∈l)=false from zqZ h)
  have q:zhP l x=-1:=if_neg h;rw [q] at IX;clear h q;go_enter Tryz.func95,Tryz.ntmps95;go_wp2_with (first | ((with_reducible refine IX.out.mono ?_);rintro e w1 ⟨rfl,rfl⟩) | go_in);go_ret;exact ⟨by rw [R.out];rfl,rfl⟩
end
theorem zk0 {w:World} {ra:Option Addr} {R:List zF} {rc n:Nat} {G:Nat->Prop} (h:zX w (.slice ra R.length rc) G R) (hn:n<=R.length) (hcap:n=R.length∨R.length<=rc):
  ∃ ra' rc',zX w (.slice ra' (R.drop n).length rc') G (R.drop n)∧∀ w',(Instr.slice 22 (.slice ra R.length rc) (some (.int .i64 (n:Int))) none none).run Tryz.prog w'=.ok (.slice ra' (R.drop n).length rc') w':=by
 have hel:Tryz.prog.elem 22=66:=by kernel_rfl
 have hu:Tryz.prog.underlying 22=some (.slice (Tryz.prog.elem 22)):=by rw [hel];exact Tryz.underlying22
 have hsz:∀ w',(sizeOf (Tryz.prog.elem 22)).run Tryz.prog w'=.ok 2 w':=fun w'=>by rw [hel];kernel_rfl
 obtain ⟨_,_,e,h2,h3⟩:=h;cases e
 have run:∀ w',(Instr.slice 22 (.slice ra R.length rc) (some (.int .i64 (n:Int))) none none).run Tryz.prog w'=.ok (sliced ra n R.length rc 2) w':=fun w'=>by
  rw [run_slice_l (P:=Tryz.prog) (t:=22) (a:=ra) (len:=R.length) (cap:=rc) (ht:=hu) (kl:=.i64) (l:=(n:Int)) (h0:=by omega) (h1:=by omega),hsz];simp [Result.andThen]
 have hlen:(R.drop n).length=R.length - n:=List.length_drop;unfold sliced at run;generalize ha:(if rc=n then ra else ra.map (·.add (n*2)))=ra' at run;refine ⟨ra',rc - n,⟨ra',rc - n,rfl,by omega,fun j r hj=>?_⟩,fun w'=>by rw [run,hlen]⟩;have hjl:=(zq1.1 hj).1;rw [if_neg (by omega)] at ha;rw [List.getElem?_drop] at hj;obtain ⟨lb,lo,q1,q2,q3,q4,q5⟩:=h3 _ _ hj;subst q1;refine ⟨lb,lo+n*2,by rw [<- ha];simp [yN],q2,?_,?_,q5⟩
 ·rw [show lo+n*2+j*2=lo+(n+j)*2 from by omega];exact q3
 ·rw [show lo+n*2+j*2+1=lo+(n+j)*2+1 from by omega];exact q4
def zgt (w:World) (r:Bool) (e:Ending) (w':World):Prop:=e=.returned (.bool r)∧Chg (fun _=>False) w w'
theorem zly {R:List zF} {n j k:Nat} {L:List ByteArray} {r:zF} {y:ByteArray} (hr:(R.drop n)[j]? = some r) (hc:Zx (Zw r)=true) (hy:L[k]? = some y) (hf:0<=xH y.data.toList r.1.data.toList 0):zbE R n L=true:=by
 unfold zbE;rw [List.any_eq_true];refine ⟨r,zq2 hr,?_⟩;rw [hc,Bool.true_and,List.any_eq_true];exact ⟨y,zq2 hy,zqY hf⟩
theorem znt {R:List zF} {n:Nat} {L:List ByteArray} (h:∀ (j:Nat) (r:zF),(R.drop n)[j]? = some r->Zx (Zw r)=true->∀ (k:Nat) (y:ByteArray),L[k]? = some y->xH y.data.toList r.1.data.toList 0 < 0):zbE R n L=false:=by
 unfold zbE;rw [List.any_eq_false];intro r hr;obtain ⟨j,hj⟩:=List.mem_iff_getElem?.1 hr;rw [zrl,not_and,zrn];intro hc;rw [List.any_eq_false];intro y hy;obtain ⟨k,hk⟩:=List.mem_iff_getElem?.1 hy;have:=h j r hj hc k y hk;simp;omega
set_option maxHeartbeats 4000000 in
set_option maxRecDepth 100000 in
theorem zlz (w:World) (lk mS:Nat) (b:Int) (ra:Option Addr) (R:List zF) (rc n:Nat) (G C:Nat->Prop) (a:Option Addr) (L:List ByteArray) (c:Nat)
  (ho:w.heap[lk]? = some (.cells #[.slice ra R.length rc,.int .i64 b,.map (some mS)] 192 (0,0))) (hR:zX w (.slice ra R.length rc) G R) (hL:zx w (.slice a L.length c) C L) (h16:∀ y∈L,y.size<=16) (hn:n<=R.length) (hcap:n=R.length∨R.length<=rc) (hsz:∀ r∈R,r.1.size<=400):
  Calls Tryz.prog 154 #[.pointer (some ⟨lk,0,none⟩),.agg #[.int .i64 (n:Int),.slice a L.length c]] w (zgt w (zbE R n L)):=by
 have hRl:R.length<=maxLen:=by obtain ⟨_,_,e,q,_⟩:=hR;exact q
 obtain ⟨ra',rc',hD,run⟩:=zk0 hR hn hcap;have hsz':∀ r∈R.drop n,r.1.size<=400:=fun r hr=>hsz r (List.mem_of_mem_drop hr);have YES:=ze (fun j k r y=>@zly R n j k L r y);have NO:=ze (@znt R n L);have hdl:(R.drop n).length<=maxLen:=by rw [List.length_drop];omega
 unfold zgt;generalize zbE R n L=res at *;have ka:=zi (fun _=>False) w (.cells #[.int .i64 (n:Int),.slice a L.length c] 229);have kd:=zw (fun _=>False) (w.alloc (.cells #[.int .i64 (n:Int),.slice a L.length c] 229));have KD:=ze (ka.trans kd);have oa:=zh w (.cells #[.int .i64 (n:Int),.slice a L.length c] 229);have o1:=ka.obj (fun e=>e) ho;have d0:(w.alloc (.cells #[.int .i64 (n:Int),.slice a L.length c] 229)).drew.cell? ⟨lk,0,none⟩=some (.slice ra R.length rc):=zf (o:=0) o1 rfl;have n0:(w.alloc (.cells #[.int .i64 (n:Int),.slice a L.length c] 229)).drew.cell? ⟨w.heap.size,0,none⟩=some (.int .i64 (n:Int)):=zf (o:=0) oa rfl;have LA:=ze (kd.obj (fun e=>e) oa);have HD:=ze (hD.chg (ka.trans kd) (fun _ _ e=>e));have HL:=ze (hL.chg (ka.trans kd) (fun _ _ e=>e));have HS:=ze hsz';have H16:=ze h16;obtain ⟨_,_,eD,_,_⟩:=hD;clear ka kd oa o1 ho hR hL hn hcap hsz hsz' h16;generalize hDD:R.drop n=D at *;clear hDD;go_enter Tryz.func154,Tryz.ntmps154;go_wp2_with fail;refine xS (by kernel_rfl) (by kernel_rfl) ?_
 repeat still_step
 refine wpStill_nil ?_;generalize (w.alloc (.cells #[.int .i64 (n:Int),.slice a L.length c] 229)).drew=w1 at *;clear d0 n0 run;unfold maxLen at hdl;go_wp2_with fail;go_loopw [17] (fun iv wr=>∃ k:Nat,k<=D.length∧iv=.int .i64 k∧Hid (Chg (fun _=>False) w1 wr∧∀ j r,j < k->D[j]? = some r->Zx (Zw r)=true->∀ (i:Nat) (y:ByteArray),L[i]? = some y->xH y.data.toList r.1.data.toList 0 < 0)) (fun iv _=>D.length - (intOf iv).toNat)
 case atStart=>exact ⟨0,by omega,rfl,ze ⟨Chg.refl _ _,fun j r hj=>by omega⟩⟩
 case round=>
  obtain ⟨k,hk,rfl,HI⟩:=hrel;obtain ⟨hkc,hno⟩:=HI.out;have KC:=ze hkc;have HNO:=ze hno;clear HI hkc hno;by_cases hlt:k < D.length
  rotate_left
  ·obtain rfl:k=D.length:=by omega
   have R0:=ze (NO.out (fun j r hj hc=>HNO.out j r (zq1.1 hj).1 hj hc));go_wp2;go_ret;exact ⟨by rw [R0.out];rfl,KD.out.trans KC.out⟩
  obtain ⟨r,hr⟩:∃ r,D[k]? = some r:=⟨_,zq0 hlt⟩;obtain ⟨_,_,e1,_,hcl⟩:=HD.out.chg KC.out (fun _ _ e=>e);cases e1;obtain ⟨lb,lo,rfl,_,c0,c1,hs1,hs2⟩:=hcl k r hr;have HR:=ze hr;have hr4:=HS.out r (zq2 hr);clear hcl hr;obtain ⟨rf,rt⟩:=r;simp only at c0 c1 hs1 hs2 hr4;have ka:=zi (fun _=>False) wr (.cells #[.string rf,.string rt] 66);have oa:=zh wr (.cells #[.string rf,.string rt] 66);have CO:=zc2 (wr.alloc (.cells #[.string rf,.string rt] 66)) (rf,rt) hs1 hs2;unfold zgU at CO;simp only at CO;have CO:=ze CO;have OA:=ze oa;have KA:=ze (KC.out.trans ka);have OL:=ze ((KC.out.trans ka).obj (fun e=>e) LA.out);have HLA:=ze (HL.out.chg (KC.out.trans ka) (fun _ _ e=>e));clear ka oa;go_wp2_with fail;generalize wr.alloc (.cells #[.string rf,.string rt] 66)=wa at *;cases hcb:Zx (Zw (rf,rt)) with
  | false=>
   have HCB:=ze hcb;rw [hcb] at CO;clear hcb;(with_reducible refine CO.out.mono ?_);rintro e w2 ⟨rfl,k2⟩;have K2:=ze (KA.out.trans k2);clear k2 CO c0 c1;go_wp2;go_roundw
   case rel=>exact ⟨k+1,by omega,by go_num,ze ⟨K2.out,fun j r hj hr hc=>by
    rcases Nat.lt_or_ge j k with q | q
    ·exact HNO.out j r q hr hc
    ·obtain rfl:j=k:=by omega
     rw [HR.out] at hr;cases hr;rw [HCB.out] at hc;cases hc⟩⟩
   case measure=>simp [intOf];omega
  | true=>
   have HCB:=ze hcb
   have hmay:Zp rf.data.toList=true:=by
    unfold Zx at hcb;simp only [zrl] at hcb;exact hcb.1.1
   have hmz:rf.size<=16∧rf.size % 2=0∧0 < rf.size:=⟨(Zn (a:=rf) hmay).1,(Zn (a:=rf) hmay).2,by
    obtain ⟨_,q,_,_⟩:=(Zh _).1 hmay;unfold zz at q;rw [zA] at q;omega⟩
   have MZ:=ze hmz;rw [hcb] at CO;clear hcb hmay hmz;(with_reducible refine CO.out.mono ?_);rintro e w2 ⟨rfl,k2⟩;have d0:=zf (o:=0) (k2.obj (fun e=>e) OL.out) rfl;have d1:=zf (o:=1) (k2.obj (fun e=>e) OL.out) rfl;have O2:=ze (k2.obj (fun e=>e) OA.out);have HL2:=ze (HLA.out.chg k2 (fun _ _ e=>e));have K2:=ze (KA.out.trans k2);have hll:L.length<=maxLen:=by obtain ⟨_,_,_,q,_⟩:=HL2.out;exact q
   unfold maxLen at hll;clear k2 CO c0 c1 OA OL HLA KA;go_wp2_with fail;go_loopw [27] (fun iv wq=>∃ i:Nat,i<=L.length∧iv=.int .i64 i∧Hid (w2=wq∧∀ (j:Nat) (y:ByteArray),j < i->L[j]? = some y->xH y.data.toList rf.data.toList 0 < 0)) (fun iv _=>L.length - (intOf iv).toNat)
   case atStart=>exact ⟨0,by omega,rfl,ze ⟨rfl,fun j r hj=>by omega⟩⟩
   case round=>
    obtain ⟨i,hi,rfl,HI⟩:=hrel;obtain ⟨rfl,hno⟩:=HI.out;have HN2:=ze hno;clear HI hno;by_cases hil:i < L.length
    rotate_left
    ·obtain rfl:i=L.length:=by omega
     go_wp2;go_roundw
     case rel=>exact ⟨k+1,by omega,by go_num,ze ⟨K2.out,fun j r hj hr hc=>by
      rcases Nat.lt_or_ge j k with q | q
      ·exact HNO.out j r q hr hc
      ·obtain rfl:j=k:=by omega
       rw [HR.out] at hr;cases hr;exact fun i y hy=>HN2.out i y (zq1.1 hy).1 hy⟩⟩
     case measure=>simp [intOf];omega
    obtain ⟨y,hy⟩:∃ y,L[i]? = some y:=⟨_,zq0 hil⟩;obtain ⟨_,_,e1,_,hcl⟩:=HL2.out;cases e1;obtain ⟨mb,mo,rfl,_,y0,hys⟩:=hcl i y hy;have HY:=ze hy;have hy16:=H16.out y (zq2 hy);clear hcl hy;have r0:=zf (o:=0) O2.out rfl;have FI:=zjA w2 y rf 0 (by omega) (by omega) MZ.out.2.1 MZ.out.2.2 (by omega);rw [show ((0:Nat):Int)=0 from rfl] at FI;have FI:=ze FI;go_wp2_with fail;(with_reducible refine FI.out.mono ?_);rintro e w3 ⟨rfl,rfl⟩;by_cases hf:0<=xH y.data.toList rf.data.toList 0
    ·have R0:=ze (YES.out k i (rf,rt) y HR.out HCB.out HY.out hf)
     have g:decide (0<=xH y.data.toList rf.data.toList 0)=true:=zqY hf;go_wp2;go_ret;exact ⟨by rw [R0.out];rfl,KD.out.trans K2.out⟩
    ·have g:decide (0<=xH y.data.toList rf.data.toList 0)=false:=zqZ hf
     have hf2:=ze (Int.not_le.1 hf);clear hf;go_wp2;go_roundw
     case rel=>exact ⟨i+1,by omega,by go_num,ze ⟨by trivial,fun j z hj hz=>by
      rcases Nat.lt_or_ge j i with q | q
      ·exact HN2.out j z q hz
      ·obtain rfl:j=i:=by omega
       rw [HY.out] at hz;cases hz;exact hf2.out⟩⟩
     case measure=>simp [intOf];omega
structure Xy (w:World) (lk mS nS:Nat) (fS:Lit->Option Value) (C:Nat->Prop) (ra:Option Addr) (R:List zF) (rc:Nat) (b:Int) (G:Nat->Prop):Prop where
 own:w.heap[lk]? = some (.cells #[.slice ra R.length rc,.int .i64 b,.map (some mS)] 192 (0,0))
 map:zeV Tryz.prog 57 w mS nS fS
 rules:zX w (.slice ra R.length rc) G R
 few:(R.length<=400∧∀ r∈R,r.1.size<=400)∨(400 < R.length∧∀ x:ByteArray,fS (.string x.data.toList)=none)
 row:∀ (x:ByteArray) v,fS (.string x.data.toList)=some v->∃ n a L c,v=.agg #[.int .i64 ((n:Nat):Int),.slice a (L:List ByteArray).length c]∧n<=R.length∧(n=R.length∨R.length<=rc)∧zx w (.slice a L.length c) C L∧zdx (R.take n) b x L∧∀ y∈L,y.size<=16
 typ:∀ k,C k->∃ cs,w.heap[k]? = some (.cells cs 57 (0,0))
 gb:∀ k,G k->k < w.heap.size∧k≠mS∧k≠lk
theorem Xy.chg {S:Nat->Prop} {w w':World} {lk mS nS:Nat} {fS:Lit->Option Value} {C:Nat->Prop} {ra:Option Addr} {R:List zF} {rc:Nat} {b:Int} {G:Nat->Prop} (h:Xy w lk mS nS fS C ra R rc b G) (hc:Chg S w w') (h1:¬ S lk) (h2:¬ S mS) (h3:∀ k,C k->¬ S k) (h4:∀ k,G k->¬ S k):Xy w' lk mS nS fS C ra R rc b G:=
 ⟨hc.obj h1 h.own,h.map.chg hc h2,h.rules.chg hc h4,h.few,fun x v hv=>by
  obtain ⟨n,a,L,c,e,q1,q2,q3,q4⟩:=h.row x v hv;exact ⟨n,a,L,c,e,q1,q2,q3.chg hc h3,q4⟩,fun k hk=>by
  obtain ⟨cs,q⟩:=h.typ k hk;exact ⟨cs,hc.obj (h3 k hk) q⟩,fun k hk=>⟨zq7 (h.gb k hk).1 hc.size,(h.gb k hk).2⟩⟩
theorem Xy.ne {w:World} {lk mS nS:Nat} {fS:Lit->Option Value} {C:Nat->Prop} {ra:Option Addr} {R:List zF} {rc:Nat} {b:Int} {G:Nat->Prop} (h:Xy w lk mS nS fS C ra R rc b G):lk≠mS∧(∀ k,C k->k≠mS)∧(∀ k,C k->k < w.heap.size)∧lk < w.heap.size∧mS < w.heap.size:=
 ⟨h.map.ne_cells h.own,fun k hk=>by
  obtain ⟨cs,q⟩:=h.typ k hk;exact h.map.ne_cells q,fun k hk=>by
  obtain ⟨cs,q⟩:=h.typ k hk;exact zr q,zr h.own,h.map.lt⟩
theorem Xy.ask {w w1:World} {lk mS nS:Nat} {fS:Lit->Option Value} {C:Nat->Prop} {ra:Option Addr} {R:List zF} {rc:Nat} {b:Int} {G:Nat->Prop} (h:Xy w lk mS nS fS C ra R rc b G) {x:ByteArray} (hx:x.size<=maxLen) (k:Chg (fun _=>False) w w1):zbA w1 (.slice ra R.length rc) R x:=
 ⟨by
  have:=h.rules.chg k (fun _ _ e=>e);obtain ⟨la,cap,e1,e2,e3⟩:=this
  exact ⟨la,cap,e1,e2,fun j r hj=>by
   obtain ⟨lb,lo,q1,q2,q3⟩:=e3 j r hj;exact ⟨lb,lo,q1,zq7 (h.gb lb q2).1 k.size,q3⟩⟩,h.few.imp (fun q=>q) (fun q=>q.1),hx⟩
theorem znr (R:List zF):R.take R.length=R:=zrk
theorem Xy.more {w w':World} {lk mS nS nS':Nat} {fS:Lit->Option Value} {C C':Nat->Prop} {ra:Option Addr} {R:List zF} {rc:Nat} {b:Int} {G:Nat->Prop} (h:Xy w lk mS nS fS C ra R rc b G) (hc:Chg (·=mS) w w') {x:ByteArray} {a:Option Addr} {L:List ByteArray} {c:Nat}
  (hm:zeV Tryz.prog 57 w' mS nS' (zoE fS (.string x.data.toList) (some (.agg #[.int .i64 (R.length:Int),.slice a L.length c])))) (hC:∀ k,C k->C' k) (hW:zx w' (.slice a L.length c) C' L) (hR:zdx R b x L) (h16:∀ y∈L,y.size<=16) (ht:∀ k,C' k->∃ cs,w'.heap[k]? = some (.cells cs 57 (0,0))):
  Xy w' lk mS nS' (zoE fS (.string x.data.toList) (some (.agg #[.int .i64 (R.length:Int),.slice a L.length c]))) C' ra R rc b G:=by
 obtain ⟨n1,n2,n3,n4,n5⟩:=h.ne;refine ⟨hc.obj n1 h.own,hm,h.rules.chg hc (fun k hk=>(h.gb k hk).2.1),?_,fun y v hv=>?_,ht,fun k hk=>⟨zq7 (h.gb k hk).1 hc.size,(h.gb k hk).2⟩⟩
 ·refine .inl ?_
  have:=(ZE (Zb hR.err).1).2.2.2;rcases h.few with q | q
  ·exact q
  ·omega
 ·by_cases e:y=x
  ·subst e
   rw [zec] at hv;cases hv;exact ⟨R.length,a,L,c,rfl,zrj _,.inl rfl,hW,by rw [znr];exact hR,h16⟩
  ·rw [zcP _ (fun q=>e (zal (by injection q)))] at hv
   obtain ⟨n,a,L,c,e,q1,q2,q3,q4⟩:=h.row y v hv;exact ⟨n,a,L,c,e,q1,q2,(q3.chg hc n2).up hC,q4⟩
theorem zjd {w:World} {base:Nat} {va:Value} {r:List Ent} (h:w.ownsRow base 57 1 va r.length (yX r)) (hs:∀ u∈zv r,(bar u).size<=maxLen):xf w va (fun k=>va.ownBlock=some k) ((zv r).map bar):=by
 rw [zje,show r.length=((zv r).map bar).length by rw [zq4,Zm]] at h
 exact zcb h (fun x hx=>by
  obtain ⟨u,hu,rfl⟩:=List.mem_map.1 hx;exact hs u hu)
def XQ (w:World) (lk mS:Nat) (ra:Option Addr) (R:List zF) (rc:Nat) (b:Int) (G:Nat->Prop) (N:Nat) (B:Nat->Prop):Prop:=
 ∃ fS nS C,Xy w lk mS nS fS C ra R rc b G∧nS<=N∧(∀ k,C k->B k)∧B lk∧B mS∧∀ k,B k->k < w.heap.size
theorem XQ.chg {S:Nat->Prop} {w w':World} {lk mS:Nat} {ra:Option Addr} {R:List zF} {rc:Nat} {b:Int} {G:Nat->Prop} {N:Nat} {B:Nat->Prop} (h:XQ w lk mS ra R rc b G N B) (hc:Chg S w w') (h1:∀ k,B k->¬ S k) (h2:∀ k,G k->¬ S k):XQ w' lk mS ra R rc b G N B:=by
 obtain ⟨fS,nS,C,q1,q2,q3,q4,q5,q6⟩:=h;exact ⟨fS,nS,C,q1.chg hc (h1 _ q4) (h1 _ q5) (fun k hk=>h1 k (q3 k hk)) h2,q2,q3,q4,q5,fun k hk=>zq7 (q6 k hk) hc.size⟩
theorem XQ.le {w:World} {lk mS:Nat} {ra:Option Addr} {R:List zF} {rc:Nat} {b:Int} {G:Nat->Prop} {N N':Nat} {B:Nat->Prop} (h:XQ w lk mS ra R rc b G N B) (hN:N<=N'):XQ w lk mS ra R rc b G N' B:=by
 obtain ⟨fS,nS,C,q1,q2,q⟩:=h;exact ⟨fS,nS,C,q1,Nat.le_trans q2 hN,q⟩
def zhM (w:World) (lk mS:Nat) (ra:Option Addr) (R:List zF) (rc:Nat) (b:Int) (G:Nat->Prop) (N:Nat) (B:Nat->Prop) (x:ByteArray) (e:Ending) (w':World):Prop:=
 ∃ B',XQ w' lk mS ra R rc b G (N+1) B'∧Chg (·=mS) w w'∧(∀ k,B' k->B k∨w.heap.size<=k) ∧
  ((∃ a L c,e=.returned (.tuple #[.slice a (L:List ByteArray).length c,.int .i64 0])∧zx w' (.slice a L.length c) (fun _=>True) L∧zdx R b x L)∨(zH R x b≠0∧e=.returned (.tuple #[.slice none 0 0,.int .i64 (zH R x b)])))
theorem Tryz.zeroLook (w:World):(zeroValue 229).run Tryz.prog w=.ok (.agg #[.int .i64 0,.slice none 0 0]) w:=by kernel_rfl
set_option maxHeartbeats 8000000 in
set_option maxRecDepth 100000 in
theorem zkD (w:World) (lk mS:Nat) (ra:Option Addr) (R:List zF) (rc:Nat) (b:Int) (G:Nat->Prop) (N:Nat) (B:Nat->Prop) (x:ByteArray) (h:XQ w lk mS ra R rc b G N B) (hx:x.size<=maxLen) (hN:N<=1000000):
  Calls Tryz.prog 134 #[.pointer (some ⟨lk,0,none⟩),.string x] w (zhM w lk mS ra R rc b G N B x):=by
 obtain ⟨fS,nS,C,h1,hn,hCB,hBl,hBm,hBs⟩:=h;have hRl:R.length<=maxLen:=by obtain ⟨_,_,e,q,_⟩:=h1.rules;exact q
 unfold maxLen at hRl;have KEY:=ze (zhX x hx);have ZL:=ze (Tryz.zeroLook);have c2:=zf (o:=2) h1.own rfl;have BS:=ze (show (∀ k,C k->B k)∧B lk∧B mS∧(∀ k,B k->k < w.heap.size)∧nS<=N∧N<=1000000∧x.size<=maxLen from ⟨hCB,hBl,hBm,hBs,hn,hN,hx⟩);have NE:=ze h1.ne;have H1:=ze h1;clear h1 hn hCB hBl hBm hBs hN hx;go_enter Tryz.func134,Tryz.ntmps134;cases hf:fS (.string x.data.toList) with
 | none=>
  go_wp2_with (at_lookup;refine YL rfl (.tmp 14) (.tmp 15) 190 rfl 57 229 Tryz.wordKeyed Tryz.underlying190 _ (ZL.out _) mS nS fS rfl H1.out.map _ _ rfl KEY.out (.agg #[.int .i64 0,.slice none 0 0]) false (by rw [hf];rfl) (by rw [hf];rfl) ?_);clear hf;have ka:=zi (fun _=>False) w (.cells #[.int .i64 0,.slice none 0 0] 229);have O1:=ze (zh w (.cells #[.int .i64 0,.slice none 0 0] 229));have hsz:w.heap.size < (w.alloc (.cells #[.int .i64 0,.slice none 0 0] 229)).heap.size:=by rw [zq8];omega
  have H2:=ze (H1.out.chg ka (fun e=>e) (fun e=>e) (fun _ _ e=>e) (fun _ _ e=>e));have K1:=ze ka;have e0:=zf (o:=0) H2.out.own rfl;have e1:=zf (o:=1) H2.out.own rfl;clear ka c2;go_wp2_with fail;generalize w.alloc (.cells #[.int .i64 0,.slice none 0 0] 229)=w1 at *;have u0:w1.drew.cell? ⟨lk,0,none⟩=some (.slice ra R.length rc):=e0;have u1:w1.drew.cell? ⟨lk,1,none⟩=some (.int .i64 b):=e1;refine zu (N:=58) [.rd [0,1,2,3,4,5,6,7,8],.ef 9,.rd [10,11,12,13,14]] (fun w'=>w'.cell? ⟨lk,0,none⟩=some (.slice ra R.length rc)∧w'.cell? ⟨lk,1,none⟩=some (.int .i64 b)) (by kernel_rfl) (by kernel_rfl) (by kernel_rfl) (by kernel_rfl) (Nat.le_of_ble_eq_true rfl) ⟨e0,e1⟩ ?_;refine zB (A:=?PAx) ?phax ?phbx
  case phax=>
   rintro w' ⟨q0,q1⟩ K hK;simp only [zM,zqT,zqU,zqV,zqW,zqX]
   repeat still_step
   refine wpStill_nil ?_;exact hK
  clear u0 u1 e0 e1;have kd:=zw (fun _=>False) w1;have H3:=ze (H2.out.chg kd (fun e=>e) (fun e=>e) (fun _ _ e=>e) (fun _ _ e=>e));have K3:=ze (K1.out.trans kd);have O3:=ze (kd.obj (fun e=>e) O1.out);have hsz3:=zq7 hsz kd.size;have AS:=ze (H3.out.ask BS.out.2.2.2.2.2.2 (Chg.refl _ _));clear kd H2 K1 O1 hsz;generalize w1.drew=w3 at *;by_cases hr:zH R x b=0
  rotate_left
  ·have g:(zH R x b != 0)=true:=by rw [zre];exact hr
   have AL:=ze (ziV AS.out rfl hr);have HR:=ze hr;clear hr AS;refine zI rfl ?_;go_wp2_with fail;(with_reducible refine AL.out.mono ?_);rintro e w4 ⟨rfl,k4⟩;have H4:=ze (H3.out.chg k4 (fun e=>e) (fun e=>e) (fun _ _ e=>e) (fun _ _ e=>e));have K4:=ze ((K3.out.trans k4).mono (T:=(·=mS)) (fun _ _ e=>e.elim));clear k4 H3 K3 O3 hsz3 AL;go_wp2_with fail;refine ⟨⟨zf (o:=0) H4.out.own rfl,zf (o:=1) H4.out.own rfl⟩,?_⟩;refine zB (A:=?PBx) ?phcx ?phdx
   case phcx=>
    intro w' hS K hK;clear hS;simp only [zM,zqT,zqU,zqV,zqW,zqX]
    repeat still_step
    refine wpStill_nil ?_;exact hK
   refine zR ?_;go_wp2;go_ret2;exact ⟨B,⟨fS,nS,C,H4.out,Nat.le_succ_of_le BS.out.2.2.2.2.1,BS.out.1,BS.out.2.1,BS.out.2.2.1,fun k hk=>zq7 (BS.out.2.2.2.1 k hk) K4.out.size⟩,K4.out,fun k hk=>.inl hk,.inr ⟨HR.out,rfl⟩⟩
  obtain ⟨_,rr,hrr⟩:=Zb hr;have AL:=ze (zm2 AS.out hr hrr);have RS:=ze (zcf hr hrr)
  have RT:=ze (show zdx R b x ((zv rr).map bar) by
   have:=zcM hr;unfold Xz zeT at this;rw [if_pos hr,hrr] at this;exact this)
  clear hr hrr AS;refine zI rfl ?_;go_wp2_with fail;(with_reducible refine AL.out.mono ?_);rintro e w4 ⟨va,rfl,ho,k4⟩;have HT0:=ze (fun k hk=>zC ho (k:=k) hk);have HG0:=ze (fun k (hk:va.ownBlock=some k)=>(ho.lt k hk).1);have HW0:=ze (zjd ho (fun u hu=>Nat.le_trans (RS.out.1 u hu).2 (by decide)));clear ho;obtain ⟨L,HL⟩:∃ L,Hid (L=(zv rr).map bar):=⟨_,ze rfl⟩
  have H16:=ze (show ∀ y∈L,y.size<=16 from fun y hy=>by
   rw [HL.out] at hy;obtain ⟨u,hu,rfl⟩:=List.mem_map.1 hy;exact (RS.out.1 u hu).2)
  rw [<- HL.out] at HW0 RT;obtain ⟨a,c,hva⟩:=HW0.out.shape;subst hva;have HW4:=ze (HW0.out.at_.up (G':=fun k=>C k∨(Value.slice a L.length c).ownBlock=some k) (fun k hk=>.inr hk));have RW:=RT;have H4:=ze (H3.out.chg k4 (fun e=>e) (fun e=>e) (fun _ _ e=>e) (fun _ _ e=>e));have O4:=ze (k4.obj (fun e=>e) O3.out)
  have HT:=ze (show ∀ k,(C k∨(Value.slice a L.length c).ownBlock=some k)->∃ cs,w4.heap[k]? = some (.cells cs 57 (0,0)) from fun k hk=>by
   rcases hk with q | q
   ·exact H4.out.typ k q
   ·exact HT0.out k q)
  have HCC:=ze (show ∀ k,C k->(C k∨(Value.slice a L.length c).ownBlock=some k) from fun k hk=>.inl hk)
  have BN:=ze (show ∀ k,(C k∨(Value.slice a L.length c).ownBlock=some k)->B k∨w.heap.size<=k from fun k hk=>by
   rcases hk with q | q
   ·exact .inl (BS.out.1 k q)
   ·exact .inr (Nat.le_trans (Nat.le_of_lt hsz3) (HG0.out k q)))
  have hsz4:=zq7 hsz3 k4.size;have K4:=ze (K3.out.trans k4);have hll:L.length<=maxLen:=by obtain ⟨_,_,_,q,_⟩:=HW4.out;exact q
  unfold maxLen at hll;have HG1:=ze (fun k (hk:(Value.slice a L.length c).ownBlock=some k)=>zq7 hsz3 (HG0.out k hk));clear k4 H3 K3 O3 hsz3 AL HW0 HT0 HG0 RS RT;go_wp2_with fail;refine ⟨⟨zf (o:=0) H4.out.own rfl,zf (o:=1) H4.out.own rfl⟩,?_⟩;refine zB (A:=?PCx) ?phex ?phfx
  case phex=>
   intro w' hS K hK;clear hS;simp only [zM,zqT,zqU,zqV,zqW,zqX]
   repeat still_step
   refine wpStill_nil ?_;exact hK
  refine zR ?_;have t0:=zf (o:=0) O4.out rfl;have t1:=zf (o:=1) O4.out rfl;have f0:=zm (o:=0) O4.out;have f1:=zm (o:=1) O4.out;have e0:=zf (o:=0) H4.out.own rfl;have e2:=zf (o:=2) H4.out.own rfl;have hne:¬ lk=w.heap.size:=fun e=>by have:=NE.out.2.2.2.1;omega
  have hne2:¬ mS=w.heap.size:=fun e=>by have:=NE.out.2.2.2.2;omega
  have NCC:=ze (show ∀ k,(fun k=>C k∨(Value.slice a L.length c).ownBlock=some k) k->¬ k=w.heap.size from fun k hk e=>by
   rcases hk with q | q
   ·have:=NE.out.2.2.1 k q;omega
   ·have:=HG1.out k q;omega)
  have kc:Chg (·=w.heap.size) w4 ((w4.setCell ⟨w.heap.size,1,none⟩ (.slice a L.length c)).setCell ⟨w.heap.size,0,none⟩ (.int .i64 (R.length:Int))):=((zG w4 w.heap.size 1 (.slice a L.length c)).trans (zG _ w.heap.size 0 (.int .i64 (R.length:Int))))
  have OB:((w4.setCell ⟨w.heap.size,1,none⟩ (.slice a L.length c)).setCell ⟨w.heap.size,0,none⟩ (.int .i64 (R.length:Int))).heap[w.heap.size]? = some (.cells #[.int .i64 (R.length:Int),.slice a L.length c] 229 (0,0)):=by
   have:=zt (o:=0) (zt (o:=1) O4.out (.slice a L.length c)) (.int .i64 (R.length:Int))
   simpa using this
  have H5:=ze (H4.out.chg kc hne hne2 (fun k hk=>fun e=>by have:=NE.out.2.2.1 k hk;omega) (fun k hk e=>by have:=(H1.out.gb k hk).1;omega));have HW5:=ze (HW4.out.chg kc NCC.out)
  have HT5:=ze (show ∀ k,(fun k=>C k∨(Value.slice a L.length c).ownBlock=some k) k->∃ cs,(((w4.setCell ⟨w.heap.size,1,none⟩ (.slice a L.length c)).setCell ⟨w.heap.size,0,none⟩ (.int .i64 (R.length:Int)))).heap[k]? = some (.cells cs 57 (0,0)) from fun k hk=>by
   obtain ⟨cs,q⟩:=HT.out k hk;exact ⟨cs,kc.obj (NCC.out k hk) q⟩)
  have O5:=ze OB;have K5:=ze (K4.out.next kc (fun k hk e=>by omega));have hsz5:=zq7 hsz4 kc.size;have hgm:=ze hne2;clear kc OB hne2;go_wp2_with fail;clear t0 t1 f0 f1 e0 e2 H4 HW4 O4 K4 HT hsz4 hne;generalize ((w4.setCell ⟨w.heap.size,1,none⟩ (.slice a L.length c)).setCell ⟨w.heap.size,0,none⟩ (.int .i64 (R.length:Int)))=w5 at *;have kd:=zw (fun _=>False) w5;have H6:=ze (H5.out.chg kd (fun e=>e) (fun e=>e) (fun _ _ e=>e) (fun _ _ e=>e));have HW6:=ze (HW5.out.chg kd (fun _ _ e=>e));have HT6:=ze (show ∀ k,(fun k=>C k∨(Value.slice a L.length c).ownBlock=some k) k->∃ cs,w5.drew.heap[k]? = some (.cells cs 57 (0,0)) from fun k hk=>HT5.out k hk);have O6:=ze (kd.obj (fun e=>e) O5.out);have K6:=ze (K5.out.trans kd);clear kd H5 HW5 HT5 O5 K5;have e0:w5.drew.cell? ⟨lk,2,none⟩=some (.map (some mS)):=zf (o:=2) H6.out.own rfl;have b0:w5.drew.cell? ⟨w.heap.size,0,none⟩=some (.int .i64 (R.length:Int)):=zf (o:=0) O6.out rfl;have b1:w5.drew.cell? ⟨w.heap.size,1,none⟩=some (.slice a L.length c):=zf (o:=1) O6.out rfl;refine ZK 6 (by kernel_rfl) (by kernel_rfl) ?_;simp only [List.take_succ_cons,List.take_zero,List.drop_succ_cons,List.drop_zero]
  repeat still_step
  refine wpStill_nil ?_;clear e0 b0 b1;generalize w5.drew=w6 at *;refine zan rfl (.tmp 53) (.tmp 54) (.tmp 55) 190 rfl 57 229 Tryz.wordKeyed Tryz.underlying190 mS nS fS rfl H6.out.map ?pa1 (.string x) (.agg #[.int .i64 (R.length:Int),.slice a L.length c]) (.string x.data.toList) rfl rfl KEY.out ?pb1
  case pa1=>
   have:=BS.out.2.2.2.2.1;have:=BS.out.2.2.2.2.2.1;unfold maxLen;omega
  intro w7 n7 hm7 _ _ hn7 k7
  have MNC:=ze (show ∀ k,(fun k=>C k∨(Value.slice a L.length c).ownBlock=some k) k->k≠mS from fun k hk=>by
   obtain ⟨cs,q⟩:=HT6.out k hk;exact H6.out.map.ne_cells q)
  have HW7:=ze (HW6.out.chg k7 MNC.out)
  have HT7:=ze (show ∀ k,(fun k=>C k∨(Value.slice a L.length c).ownBlock=some k) k->∃ cs,w7.heap[k]? = some (.cells cs 57 (0,0)) from fun k hk=>by
   obtain ⟨cs,q⟩:=HT6.out k hk;exact ⟨cs,k7.obj (MNC.out k hk) q⟩)
  have H7:=ze (H6.out.more k7 hm7 HCC.out HW7.out RW.out H16.out HT7.out);have K7:=ze ((K6.out.mono (T:=(·=mS)) (fun _ _ e=>e.elim)).trans k7);have l1:=zf (o:=1) (k7.obj (fun e=>hgm.out e.symm) O6.out) rfl;have hnn:n7<=N+1:=by have:=BS.out.2.2.2.2.1;omega
  clear hm7 hn7 k7 H6 HW6 HT6 O6 K6;go_wp2;go_ret2;refine ⟨fun k=>B k∨(fun k=>C k∨(Value.slice a L.length c).ownBlock=some k) k,⟨_,n7,_,H7.out,hnn,fun k hk=>.inr hk,.inl BS.out.2.1,.inl BS.out.2.2.1,fun k hk=>?_⟩,K7.out,fun k hk=>?_,.inl ⟨a,L,c,rfl,HW7.out.up (fun _ _=>trivial),RW.out⟩⟩
  ·rcases hk with q | q
   ·exact zq7 (BS.out.2.2.2.1 k q) K7.out.size
   ·obtain ⟨cs,z⟩:=HT7.out k q
    exact zr z
  ·rcases hk with q | q
   ·exact .inl q
   ·exact BN.out k q
 | some v=>
  obtain ⟨n,a,L,c,rfl,hn,hcap,hW,hrow,h16⟩:=H1.out.row x v hf;have hll:L.length<=maxLen:=by obtain ⟨_,_,_,q,_⟩:=hW;exact q
  unfold maxLen at hll
  have few:R.length<=400∧∀ r∈R,r.1.size<=400:=by
   rcases H1.out.few with q | q
   ·exact q
   ·rw [q.2 x] at hf;cases hf
  go_wp2_with (at_lookup;refine YL rfl (.tmp 14) (.tmp 15) 190 rfl 57 229 Tryz.wordKeyed Tryz.underlying190 _ (ZL.out _) mS nS fS rfl H1.out.map _ _ rfl KEY.out (.agg #[.int .i64 (n:Int),.slice a L.length c]) true (by rw [hf];rfl) (by rw [hf];rfl) ?_);clear hf;have ka:=zi (fun _=>False) w (.cells #[.int .i64 (n:Int),.slice a L.length c] 229);have O1:=ze (zh w (.cells #[.int .i64 (n:Int),.slice a L.length c] 229));have hsz:w.heap.size < (w.alloc (.cells #[.int .i64 (n:Int),.slice a L.length c] 229)).heap.size:=by rw [zq8];omega
  have H2:=ze (H1.out.chg ka (fun e=>e) (fun e=>e) (fun _ _ e=>e) (fun _ _ e=>e));have K1:=ze ka;have HW2:=ze (hW.chg ka (fun _ _ e=>e));have HN:=ze hn;have ST:=ze (zlz (w.alloc (.cells #[.int .i64 (n:Int),.slice a L.length c] 229)) lk mS b ra R rc n G C a L c H2.out.own H2.out.rules HW2.out h16 hn hcap few.2);have ROW:=ze (show zbE R n L=false->zdx R b x L from fun q=>hrow.keep few.1 q);have H16:=ze h16;clear ka c2 hn hcap hW hrow h16 few;go_wp2_with fail;generalize w.alloc (.cells #[.int .i64 (n:Int),.slice a L.length c] 229)=w0 at *;unfold zgt at ST;generalize zbE R n L=sb at *;(with_reducible refine ST.out.mono ?_);rintro e w1 ⟨rfl,ks⟩;have H3:=ze (H2.out.chg ks (fun e=>e) (fun e=>e) (fun _ _ e=>e) (fun _ _ e=>e));have O2:=ze (ks.obj (fun e=>e) O1.out);have K2:=ze (K1.out.trans ks);have HW3:=ze (HW2.out.chg ks (fun _ _ e=>e));have hsz2:=zq7 hsz ks.size;clear ks ST O1 K1 HW2 H2 hsz;have O1:=O2;have H2:=H3;have K1:=K2;have hsz:=hsz2;clear O2 H3 K2 hsz2;cases sb with
  | true=>
   clear ROW HN HW3 H16;have e0:=zf (o:=0) H2.out.own rfl;have e1:=zf (o:=1) H2.out.own rfl;go_wp2_with fail;have u0:w1.drew.cell? ⟨lk,0,none⟩=some (.slice ra R.length rc):=e0;have u1:w1.drew.cell? ⟨lk,1,none⟩=some (.int .i64 b):=e1;refine zu (N:=58) [.rd [0,1,2,3,4,5,6,7,8],.ef 9,.rd [10,11,12,13,14]] (fun w'=>w'.cell? ⟨lk,0,none⟩=some (.slice ra R.length rc)∧w'.cell? ⟨lk,1,none⟩=some (.int .i64 b)) (by kernel_rfl) (by kernel_rfl) (by kernel_rfl) (by kernel_rfl) (Nat.le_of_ble_eq_true rfl) ⟨e0,e1⟩ ?_;refine zB (A:=?PAy) ?phay ?phby
   case phay=>
    rintro w' ⟨q0,q1⟩ K hK;simp only [zM,zqT,zqU,zqV,zqW,zqX]
    repeat still_step
    refine wpStill_nil ?_;exact hK
   clear u0 u1 e0 e1;have kd:=zw (fun _=>False) w1;have H3:=ze (H2.out.chg kd (fun e=>e) (fun e=>e) (fun _ _ e=>e) (fun _ _ e=>e));have K3:=ze (K1.out.trans kd);have O3:=ze (kd.obj (fun e=>e) O1.out);have hsz3:=zq7 hsz kd.size;have AS:=ze (H3.out.ask BS.out.2.2.2.2.2.2 (Chg.refl _ _));clear kd H2 K1 O1 hsz;generalize w1.drew=w3 at *;by_cases hr:zH R x b=0
   rotate_left
   ·have g:(zH R x b != 0)=true:=by rw [zre];exact hr
    have AL:=ze (ziV AS.out rfl hr);have HR:=ze hr;clear hr AS;refine zI rfl ?_;go_wp2_with fail;(with_reducible refine AL.out.mono ?_);rintro e w4 ⟨rfl,k4⟩;have H4:=ze (H3.out.chg k4 (fun e=>e) (fun e=>e) (fun _ _ e=>e) (fun _ _ e=>e));have K4:=ze ((K3.out.trans k4).mono (T:=(·=mS)) (fun _ _ e=>e.elim));clear k4 H3 K3 O3 hsz3 AL;go_wp2_with fail;refine ⟨⟨zf (o:=0) H4.out.own rfl,zf (o:=1) H4.out.own rfl⟩,?_⟩;refine zB (A:=?PBy) ?phcy ?phdy
    case phcy=>
     intro w' hS K hK;clear hS;simp only [zM,zqT,zqU,zqV,zqW,zqX]
     repeat still_step
     refine wpStill_nil ?_;exact hK
    refine zR ?_;go_wp2;go_ret2;exact ⟨B,⟨fS,nS,C,H4.out,Nat.le_succ_of_le BS.out.2.2.2.2.1,BS.out.1,BS.out.2.1,BS.out.2.2.1,fun k hk=>zq7 (BS.out.2.2.2.1 k hk) K4.out.size⟩,K4.out,fun k hk=>.inl hk,.inr ⟨HR.out,rfl⟩⟩
   obtain ⟨_,rr,hrr⟩:=Zb hr;have AL:=ze (zm2 AS.out hr hrr);have RS:=ze (zcf hr hrr)
   have RT:=ze (show zdx R b x ((zv rr).map bar) by
    have:=zcM hr;unfold Xz zeT at this;rw [if_pos hr,hrr] at this;exact this)
   clear hr hrr AS;refine zI rfl ?_;go_wp2_with fail;(with_reducible refine AL.out.mono ?_);rintro e w4 ⟨va,rfl,ho,k4⟩;have HT0:=ze (fun k hk=>zC ho (k:=k) hk);have HG0:=ze (fun k (hk:va.ownBlock=some k)=>(ho.lt k hk).1);have HW0:=ze (zjd ho (fun u hu=>Nat.le_trans (RS.out.1 u hu).2 (by decide)));clear ho;obtain ⟨L,HL⟩:∃ L,Hid (L=(zv rr).map bar):=⟨_,ze rfl⟩
   have H16:=ze (show ∀ y∈L,y.size<=16 from fun y hy=>by
    rw [HL.out] at hy;obtain ⟨u,hu,rfl⟩:=List.mem_map.1 hy;exact (RS.out.1 u hu).2)
   rw [<- HL.out] at HW0 RT;obtain ⟨a,c,hva⟩:=HW0.out.shape;subst hva;have HW4:=ze (HW0.out.at_.up (G':=fun k=>C k∨(Value.slice a L.length c).ownBlock=some k) (fun k hk=>.inr hk));have RW:=RT;have H4:=ze (H3.out.chg k4 (fun e=>e) (fun e=>e) (fun _ _ e=>e) (fun _ _ e=>e));have O4:=ze (k4.obj (fun e=>e) O3.out)
   have HT:=ze (show ∀ k,(C k∨(Value.slice a L.length c).ownBlock=some k)->∃ cs,w4.heap[k]? = some (.cells cs 57 (0,0)) from fun k hk=>by
    rcases hk with q | q
    ·exact H4.out.typ k q
    ·exact HT0.out k q)
   have HCC:=ze (show ∀ k,C k->(C k∨(Value.slice a L.length c).ownBlock=some k) from fun k hk=>.inl hk)
   have BN:=ze (show ∀ k,(C k∨(Value.slice a L.length c).ownBlock=some k)->B k∨w.heap.size<=k from fun k hk=>by
    rcases hk with q | q
    ·exact .inl (BS.out.1 k q)
    ·exact .inr (Nat.le_trans (Nat.le_of_lt hsz3) (HG0.out k q)))
   have hsz4:=zq7 hsz3 k4.size;have K4:=ze (K3.out.trans k4);have hll:L.length<=maxLen:=by obtain ⟨_,_,_,q,_⟩:=HW4.out;exact q
   unfold maxLen at hll;have HG1:=ze (fun k (hk:(Value.slice a L.length c).ownBlock=some k)=>zq7 hsz3 (HG0.out k hk));clear k4 H3 K3 O3 hsz3 AL HW0 HT0 HG0 RS RT;go_wp2_with fail;refine ⟨⟨zf (o:=0) H4.out.own rfl,zf (o:=1) H4.out.own rfl⟩,?_⟩;refine zB (A:=?PCy) ?phey ?phfy
   case phey=>
    intro w' hS K hK;clear hS;simp only [zM,zqT,zqU,zqV,zqW,zqX]
    repeat still_step
    refine wpStill_nil ?_;exact hK
   refine zR ?_;have t0:=zf (o:=0) O4.out rfl;have t1:=zf (o:=1) O4.out rfl;have f0:=zm (o:=0) O4.out;have f1:=zm (o:=1) O4.out;have e0:=zf (o:=0) H4.out.own rfl;have e2:=zf (o:=2) H4.out.own rfl;have hne:¬ lk=w.heap.size:=fun e=>by have:=NE.out.2.2.2.1;omega
   have hne2:¬ mS=w.heap.size:=fun e=>by have:=NE.out.2.2.2.2;omega
   have NCC:=ze (show ∀ k,(fun k=>C k∨(Value.slice a L.length c).ownBlock=some k) k->¬ k=w.heap.size from fun k hk e=>by
    rcases hk with q | q
    ·have:=NE.out.2.2.1 k q;omega
    ·have:=HG1.out k q;omega)
   have kc:Chg (·=w.heap.size) w4 ((w4.setCell ⟨w.heap.size,1,none⟩ (.slice a L.length c)).setCell ⟨w.heap.size,0,none⟩ (.int .i64 (R.length:Int))):=((zG w4 w.heap.size 1 (.slice a L.length c)).trans (zG _ w.heap.size 0 (.int .i64 (R.length:Int))))
   have OB:((w4.setCell ⟨w.heap.size,1,none⟩ (.slice a L.length c)).setCell ⟨w.heap.size,0,none⟩ (.int .i64 (R.length:Int))).heap[w.heap.size]? = some (.cells #[.int .i64 (R.length:Int),.slice a L.length c] 229 (0,0)):=by
    have:=zt (o:=0) (zt (o:=1) O4.out (.slice a L.length c)) (.int .i64 (R.length:Int))
    simpa using this
   have H5:=ze (H4.out.chg kc hne hne2 (fun k hk=>fun e=>by have:=NE.out.2.2.1 k hk;omega) (fun k hk e=>by have:=(H1.out.gb k hk).1;omega));have HW5:=ze (HW4.out.chg kc NCC.out)
   have HT5:=ze (show ∀ k,(fun k=>C k∨(Value.slice a L.length c).ownBlock=some k) k->∃ cs,(((w4.setCell ⟨w.heap.size,1,none⟩ (.slice a L.length c)).setCell ⟨w.heap.size,0,none⟩ (.int .i64 (R.length:Int)))).heap[k]? = some (.cells cs 57 (0,0)) from fun k hk=>by
    obtain ⟨cs,q⟩:=HT.out k hk;exact ⟨cs,kc.obj (NCC.out k hk) q⟩)
   have O5:=ze OB;have K5:=ze (K4.out.next kc (fun k hk e=>by omega));have hsz5:=zq7 hsz4 kc.size;have hgm:=ze hne2;clear kc OB hne2;go_wp2_with fail;clear t0 t1 f0 f1 e0 e2 H4 HW4 O4 K4 HT hsz4 hne;generalize ((w4.setCell ⟨w.heap.size,1,none⟩ (.slice a L.length c)).setCell ⟨w.heap.size,0,none⟩ (.int .i64 (R.length:Int)))=w5 at *;have kd:=zw (fun _=>False) w5;have H6:=ze (H5.out.chg kd (fun e=>e) (fun e=>e) (fun _ _ e=>e) (fun _ _ e=>e));have HW6:=ze (HW5.out.chg kd (fun _ _ e=>e));have HT6:=ze (show ∀ k,(fun k=>C k∨(Value.slice a L.length c).ownBlock=some k) k->∃ cs,w5.drew.heap[k]? = some (.cells cs 57 (0,0)) from fun k hk=>HT5.out k hk);have O6:=ze (kd.obj (fun e=>e) O5.out);have K6:=ze (K5.out.trans kd);clear kd H5 HW5 HT5 O5 K5;have e0:w5.drew.cell? ⟨lk,2,none⟩=some (.map (some mS)):=zf (o:=2) H6.out.own rfl;have b0:w5.drew.cell? ⟨w.heap.size,0,none⟩=some (.int .i64 (R.length:Int)):=zf (o:=0) O6.out rfl;have b1:w5.drew.cell? ⟨w.heap.size,1,none⟩=some (.slice a L.length c):=zf (o:=1) O6.out rfl;refine ZK 6 (by kernel_rfl) (by kernel_rfl) ?_;simp only [List.take_succ_cons,List.take_zero,List.drop_succ_cons,List.drop_zero]
   repeat still_step
   refine wpStill_nil ?_;clear e0 b0 b1;generalize w5.drew=w6 at *;refine zan rfl (.tmp 53) (.tmp 54) (.tmp 55) 190 rfl 57 229 Tryz.wordKeyed Tryz.underlying190 mS nS fS rfl H6.out.map ?pa2 (.string x) (.agg #[.int .i64 (R.length:Int),.slice a L.length c]) (.string x.data.toList) rfl rfl KEY.out ?pb2
   case pa2=>
    have:=BS.out.2.2.2.2.1;have:=BS.out.2.2.2.2.2.1;unfold maxLen;omega
   intro w7 n7 hm7 _ _ hn7 k7
   have MNC:=ze (show ∀ k,(fun k=>C k∨(Value.slice a L.length c).ownBlock=some k) k->k≠mS from fun k hk=>by
    obtain ⟨cs,q⟩:=HT6.out k hk;exact H6.out.map.ne_cells q)
   have HW7:=ze (HW6.out.chg k7 MNC.out)
   have HT7:=ze (show ∀ k,(fun k=>C k∨(Value.slice a L.length c).ownBlock=some k) k->∃ cs,w7.heap[k]? = some (.cells cs 57 (0,0)) from fun k hk=>by
    obtain ⟨cs,q⟩:=HT6.out k hk;exact ⟨cs,k7.obj (MNC.out k hk) q⟩)
   have H7:=ze (H6.out.more k7 hm7 HCC.out HW7.out RW.out H16.out HT7.out);have K7:=ze ((K6.out.mono (T:=(·=mS)) (fun _ _ e=>e.elim)).trans k7);have l1:=zf (o:=1) (k7.obj (fun e=>hgm.out e.symm) O6.out) rfl;have hnn:n7<=N+1:=by have:=BS.out.2.2.2.2.1;omega
   clear hm7 hn7 k7 H6 HW6 HT6 O6 K6;go_wp2;go_ret2;refine ⟨fun k=>B k∨(fun k=>C k∨(Value.slice a L.length c).ownBlock=some k) k,⟨_,n7,_,H7.out,hnn,fun k hk=>.inr hk,.inl BS.out.2.1,.inl BS.out.2.2.1,fun k hk=>?_⟩,K7.out,fun k hk=>?_,.inl ⟨a,L,c,rfl,HW7.out.up (fun _ _=>trivial),RW.out⟩⟩
   ·rcases hk with q | q
    ·exact zq7 (BS.out.2.2.2.1 k q) K7.out.size
    ·obtain ⟨cs,z⟩:=HT7.out k q
     exact zr z
   ·rcases hk with q | q
    ·exact .inl q
    ·exact BN.out k q
  | false=>
   have RW:=ze (ROW.out rfl);have HT:=ze (H2.out.typ);have HCC:=ze (show ∀ k,C k->C k from fun k hk=>hk);clear ROW HN;have H4:=H2;have HW4:=HW3;have K4:=K1;have O4:=O1;have hsz4:=hsz;have BN:=ze (show ∀ k,C k->B k∨w.heap.size<=k from fun k hk=>.inl (BS.out.1 k hk));clear H2 HW3 K1 O1 hsz;generalize hw4:w1=w4 at *;clear hw4;have t0:=zf (o:=0) O4.out rfl;have t1:=zf (o:=1) O4.out rfl;have f0:=zm (o:=0) O4.out;have f1:=zm (o:=1) O4.out;have e0:=zf (o:=0) H4.out.own rfl;have e2:=zf (o:=2) H4.out.own rfl;have hne:¬ lk=w.heap.size:=fun e=>by have:=NE.out.2.2.2.1;omega
   have hne2:¬ mS=w.heap.size:=fun e=>by have:=NE.out.2.2.2.2;omega
   have NCC:=ze (show ∀ k,(C) k->¬ k=w.heap.size from fun k hk e=>by have:=NE.out.2.2.1 k hk;omega);have kc:Chg (·=w.heap.size) w4 (w4.setCell ⟨w.heap.size,0,none⟩ (.int .i64 (R.length:Int))):=(zG w4 w.heap.size 0 (.int .i64 (R.length:Int)))
   have OB:(w4.setCell ⟨w.heap.size,0,none⟩ (.int .i64 (R.length:Int))).heap[w.heap.size]? = some (.cells #[.int .i64 (R.length:Int),.slice a L.length c] 229 (0,0)):=by
    have:=zt (o:=0) O4.out (.int .i64 (R.length:Int))
    simpa using this
   have H5:=ze (H4.out.chg kc hne hne2 (fun k hk=>fun e=>by have:=NE.out.2.2.1 k hk;omega) (fun k hk e=>by have:=(H1.out.gb k hk).1;omega));have HW5:=ze (HW4.out.chg kc NCC.out)
   have HT5:=ze (show ∀ k,(C) k->∃ cs,((w4.setCell ⟨w.heap.size,0,none⟩ (.int .i64 (R.length:Int)))).heap[k]? = some (.cells cs 57 (0,0)) from fun k hk=>by
    obtain ⟨cs,q⟩:=HT.out k hk;exact ⟨cs,kc.obj (NCC.out k hk) q⟩)
   have O5:=ze OB;have K5:=ze (K4.out.next kc (fun k hk e=>by omega));have hsz5:=zq7 hsz4 kc.size;have hgm:=ze hne2;clear kc OB hne2;go_wp2_with fail;clear t0 t1 f0 f1 e0 e2 H4 HW4 O4 K4 HT hsz4 hne;generalize (w4.setCell ⟨w.heap.size,0,none⟩ (.int .i64 (R.length:Int)))=w5 at *;have kd:=zw (fun _=>False) w5;have H6:=ze (H5.out.chg kd (fun e=>e) (fun e=>e) (fun _ _ e=>e) (fun _ _ e=>e));have HW6:=ze (HW5.out.chg kd (fun _ _ e=>e));have HT6:=ze (show ∀ k,(C) k->∃ cs,w5.drew.heap[k]? = some (.cells cs 57 (0,0)) from fun k hk=>HT5.out k hk);have O6:=ze (kd.obj (fun e=>e) O5.out);have K6:=ze (K5.out.trans kd);clear kd H5 HW5 HT5 O5 K5;have e0:w5.drew.cell? ⟨lk,2,none⟩=some (.map (some mS)):=zf (o:=2) H6.out.own rfl;have b0:w5.drew.cell? ⟨w.heap.size,0,none⟩=some (.int .i64 (R.length:Int)):=zf (o:=0) O6.out rfl;have b1:w5.drew.cell? ⟨w.heap.size,1,none⟩=some (.slice a L.length c):=zf (o:=1) O6.out rfl;refine ZK 6 (by kernel_rfl) (by kernel_rfl) ?_;simp only [List.take_succ_cons,List.take_zero,List.drop_succ_cons,List.drop_zero]
   repeat still_step
   refine wpStill_nil ?_;clear e0 b0 b1;generalize w5.drew=w6 at *;refine zan rfl (.tmp 53) (.tmp 54) (.tmp 55) 190 rfl 57 229 Tryz.wordKeyed Tryz.underlying190 mS nS fS rfl H6.out.map ?pa3 (.string x) (.agg #[.int .i64 (R.length:Int),.slice a L.length c]) (.string x.data.toList) rfl rfl KEY.out ?pb3
   case pa3=>
    have:=BS.out.2.2.2.2.1;have:=BS.out.2.2.2.2.2.1;unfold maxLen;omega
   intro w7 n7 hm7 _ _ hn7 k7
   have MNC:=ze (show ∀ k,(C) k->k≠mS from fun k hk=>by
    obtain ⟨cs,q⟩:=HT6.out k hk;exact H6.out.map.ne_cells q)
   have HW7:=ze (HW6.out.chg k7 MNC.out)
   have HT7:=ze (show ∀ k,(C) k->∃ cs,w7.heap[k]? = some (.cells cs 57 (0,0)) from fun k hk=>by
    obtain ⟨cs,q⟩:=HT6.out k hk;exact ⟨cs,k7.obj (MNC.out k hk) q⟩)
   have H7:=ze (H6.out.more k7 hm7 HCC.out HW7.out RW.out H16.out HT7.out);have K7:=ze ((K6.out.mono (T:=(·=mS)) (fun _ _ e=>e.elim)).trans k7);have l1:=zf (o:=1) (k7.obj (fun e=>hgm.out e.symm) O6.out) rfl;have hnn:n7<=N+1:=by have:=BS.out.2.2.2.2.1;omega
   clear hm7 hn7 k7 H6 HW6 HT6 O6 K6;go_wp2;go_ret2;refine ⟨fun k=>B k∨(C) k,⟨_,n7,_,H7.out,hnn,fun k hk=>.inr hk,.inl BS.out.2.1,.inl BS.out.2.2.1,fun k hk=>?_⟩,K7.out,fun k hk=>?_,.inl ⟨a,L,c,rfl,HW7.out.up (fun _ _=>trivial),RW.out⟩⟩
   ·rcases hk with q | q
    ·exact zq7 (BS.out.2.2.2.1 k q) K7.out.size
    ·obtain ⟨cs,z⟩:=HT7.out k q
     exact zr z
   ·rcases hk with q | q
    ·exact .inl q
    ·exact BN.out k q
theorem zhz {R:List zF} {b:Int} {t:ByteArray} {l:List ByteArray} {k:Nat} {x:ByteArray} (h:l[k]? = some x):
  xM R b t (l.drop k)=if zH R x b=0 then (if Xk R x t b=true then xM R b t (l.drop (k+1)) else (false,0)) else (false,zH R x b):=by
 have:l.drop k=x :: l.drop (k+1):=by
  obtain ⟨hk,e⟩:=zq1.1 h;rw [List.drop_eq_getElem_cons hk,e]
 rw [this];rfl
def zgx (w:World) (lk mS:Nat) (ra:Option Addr) (R:List zF) (rc:Nat) (b:Int) (G:Nat->Prop) (N:Nat) (B:Nat->Prop) (c:zq) (e:Ending) (w':World):Prop:=
 ∃ B',XQ w' lk mS ra R rc b G (N+c.fr.length) B'∧Chg (·=mS) w w'∧(∀ k,B' k->B k∨w.heap.size<=k)∧e=.returned (.tuple #[.bool (xJ R b c).1,.int .i64 (xJ R b c).2])
set_option maxHeartbeats 8000000 in
set_option maxRecDepth 100000 in
theorem ziy (w:World) (lk mS:Nat) (ra:Option Addr) (R:List zF) (rc:Nat) (b:Int) (G:Nat->Prop) (N:Nat) (B:Nat->Prop) (c:zq) (sa:Option Addr) (sc:Nat) (Gc:Nat->Prop)
  (h:XQ w lk mS ra R rc b G N B) (hc:YI w (.slice sa c.fr.length sc) Gc c) (hg:∀ k,Gc k->k≠mS) (hN:N+c.fr.length<=1000000):
  Calls Tryz.prog 118 #[.pointer (some ⟨lk,0,none⟩),xI c (.slice sa c.fr.length sc)] w (zgx w lk mS ra R rc b G N B c):=by
 have hms:mS < w.heap.size∧lk < w.heap.size:=by
  obtain ⟨_,_,_,q,_⟩:=h;exact ⟨q.ne.2.2.2.2,q.ne.2.2.2.1⟩
 unfold zgx xJ;obtain ⟨kind,sg,sp,fr,f,t,n⟩:=c;unfold xI;simp only at hc hN ⊢;have hfl:fr.length<=maxLen:=by obtain ⟨_,_,_,q,_⟩:=hc.set.at_;exact q
 unfold maxLen at hfl;have hsg:=hc.sg;simp only at hsg;have ka:=zi (fun _=>False) w (.cells #[.int .i64 kind,.int .u16 (sg:Int),.string sp,.slice sa fr.length sc,.int .i64 f,.int .i64 t,.int .i64 n] 64);have oa:=zh w (.cells #[.int .i64 kind,.int .u16 (sg:Int),.string sp,.slice sa fr.length sc,.int .i64 f,.int .i64 t,.int .i64 n] 64);have kb:=zi (fun _=>False) (w.alloc (.cells #[.int .i64 kind,.int .u16 (sg:Int),.string sp,.slice sa fr.length sc,.int .i64 f,.int .i64 t,.int .i64 n] 64)) (.cells #[.int .u16 (sg:Int)] 62);have ob:=zh (w.alloc (.cells #[.int .i64 kind,.int .u16 (sg:Int),.string sp,.slice sa fr.length sc,.int .i64 f,.int .i64 t,.int .i64 n] 64)) (.cells #[.int .u16 (sg:Int)] 62);have WO:=ze (zb4 ((w.alloc (.cells #[.int .i64 kind,.int .u16 (sg:Int),.string sp,.slice sa fr.length sc,.int .i64 f,.int .i64 t,.int .i64 n] 64)).alloc (.cells #[.int .u16 (sg:Int)] 62)) (w.heap.size+1) 0 1 sg hsg (by have:=zf (o:=0) ob rfl;rwa [zq8] at this));have KA:=ze (ka.trans kb);have OA:=ze (kb.obj (fun e=>e) oa);have H:=ze h;have HC:=ze hc.set.at_;have HG:=ze hg;clear ka oa kb ob h hc hg hsg;generalize ZW sg=tw at *;go_enter Tryz.func118,Tryz.ntmps118;go_wp2_with fail;generalize (w.alloc (.cells #[.int .i64 kind,.int .u16 (sg:Int),.string sp,.slice sa fr.length sc,.int .i64 f,.int .i64 t,.int .i64 n] 64)).alloc (.cells #[.int .u16 (sg:Int)] 62)=w1 at *;(with_reducible refine WO.out.mono ?_);rintro e w2 ⟨rfl,k2⟩;have K2:=ze (KA.out.trans k2);have O2:=ze (k2.obj (fun e=>e) OA.out);have c3:=zf (o:=3) O2.out rfl;have H2:=ze (H.out.chg K2.out (fun _ _ e=>e) (fun _ _ e=>e));have HC2:=ze (HC.out.chg K2.out (fun _ _ e=>e));clear WO k2 KA OA H HC;go_wp2_with fail;clear c3;go_loopw [18] (fun iv wr=>∃ (k:Nat) (B':Nat->Prop),k<=fr.length∧iv=.int .i64 k∧Hid (XQ wr lk mS ra R rc b G (N+k) B'∧Chg (·=mS) w2 wr∧(∀ j,B' j->B j∨w.heap.size<=j)∧xM R b tw fr=xM R b tw (fr.drop k))) (fun iv _=>fr.length - (intOf iv).toNat)
 case atStart=>exact ⟨0,B,by omega,rfl,ze ⟨H2.out,Chg.refl _ _,fun j hj=>.inl hj,by rw [List.drop_zero]⟩⟩
 case round=>
  obtain ⟨k,B',hk,rfl,HI⟩:=hrel;obtain ⟨hl,hkc,hbb,hbe⟩:=HI.out;have HL:=ze hl;have KC:=ze hkc;have BB:=ze hbb;have BE:=ze hbe;have KF:=ze ((K2.out.mono (T:=(·=mS)) (fun _ _ e=>e.elim)).trans hkc);clear HI hl hkc hbb hbe;by_cases hlt:k < fr.length
  rotate_left
  ·obtain rfl:k=fr.length:=by omega
   have R0:=ze (show xM R b tw fr=(true,0) by rw [BE.out,List.drop_length];rfl);go_wp2;go_ret2;exact ⟨B',HL.out,KF.out,BB.out,by rw [R0.out];rfl⟩
  obtain ⟨x,hx⟩:∃ x,fr[k]? = some x:=⟨_,zq0 hlt⟩;obtain ⟨_,_,e1,_,hcl⟩:=HC2.out.chg KC.out HG.out;cases e1;obtain ⟨lb,lo,rfl,_,c0,hxs⟩:=hcl k x hx;have BD:=ze (zhz (R:=R) (b:=b) (t:=tw) hx);have WD:=zkD wr lk mS ra R rc b G (N+k) B' x HL.out hxs (by omega);unfold zhM at WD;have WD:=ze WD;clear hcl hx;go_wp2_with fail;(with_reducible refine WD.out.mono ?_);rintro e w3 ⟨B3,hl3,k3,hb3,⟨a,L,lc,rfl,hw3,hr3⟩ | ⟨hr3,rfl⟩⟩
  ·have CO:=zcu w3 (.slice a L.length lc) _ L tw hw3
   rw [hr3.tell] at CO;have HE:=ze hr3.err;have CO:=ze CO;have HL3:=ze hl3;have K3:=ze (KF.out.trans k3);have KC3:=ze (KC.out.trans k3)
   have B3B:=ze (show ∀ j,B3 j->B j∨w.heap.size<=j from fun j hj=>by
    rcases hb3 j hj with q | q
    ·exact BB.out j q
    ·have:=KF.out.size
     exact .inr (by omega))
   clear WD hl3 k3 hb3 hw3 hr3 c0 HL KC;cases ht:Xk R x tw b with
   | true=>
    rw [ht] at CO;have BE2:=ze (show xM R b tw fr=xM R b tw (fr.drop (k+1)) by rw [BE.out,BD.out,if_pos HE.out,if_pos ht]);clear ht BE BD HE;go_wp2_with fail;(with_reducible refine CO.out.mono ?_);rintro e w4 ⟨rfl,rfl⟩;go_wp2;go_roundw
    case rel=>exact ⟨k+1,B3,by omega,by go_num,ze ⟨HL3.out,KC3.out,B3B.out,BE2.out⟩⟩
    case measure=>simp [intOf];omega
   | false=>
    rw [ht] at CO;have R0:=ze (show xM R b tw fr=(false,0) by rw [BE.out,BD.out,if_pos HE.out,if_neg (by rw [ht];decide)]);clear ht BE BD HE;go_wp2_with fail;(with_reducible refine CO.out.mono ?_);rintro e w4 ⟨rfl,rfl⟩;go_wp2;go_ret2;exact ⟨B3,HL3.out.le (by omega),K3.out,B3B.out,by rw [R0.out];rfl⟩
  ·have g:(zH R x b != 0)=true:=by rw [zre];exact hr3
   have R0:=ze (show xM R b tw fr=(false,zH R x b) by rw [BE.out,BD.out,if_neg hr3]);have HL3:=ze hl3;have K3:=ze (KF.out.trans k3)
   have B3B:=ze (show ∀ j,B3 j->B j∨w.heap.size<=j from fun j hj=>by
    rcases hb3 j hj with q | q
    ·exact BB.out j q
    ·have:=KF.out.size
     exact .inr (by omega))
   clear WD hl3 k3 hb3 hr3 c0 HL KC BE BD;go_wp2;go_ret2;exact ⟨B3,HL3.out.le (by omega),K3.out,B3B.out,by rw [R0.out];rfl⟩
theorem zkE {w:World} {ra:Option Addr} {R:List zF} {rc:Nat} {b:Int} {G:Nat->Prop} (hR:zX w (.slice ra R.length rc) G R) (hG:∀ k,G k->k < w.heap.size) (hf:(R.length<=400∧∀ r∈R,r.1.size<=400)∨400 < R.length):
  XQ ((w.alloc (.map #[] 0)).alloc (.cells #[.slice ra R.length rc,.int .i64 b,.map (some w.heap.size)] 192)) (w.heap.size+1) w.heap.size ra R rc b G 0 (fun k=>k=w.heap.size∨k=w.heap.size+1):=by
 have k1:=zi (fun _=>False) w (.map #[] 0);have k2:=zi (fun _=>False) (w.alloc (.map #[] 0)) (.cells #[.slice ra R.length rc,.int .i64 b,.map (some w.heap.size)] 192);have s1:(w.alloc (.map #[] 0)).heap.size=w.heap.size+1:=by rw [zq8]
 have s2:((w.alloc (.map #[] 0)).alloc (.cells #[.slice ra R.length rc,.int .i64 b,.map (some w.heap.size)] 192)).heap.size=w.heap.size+2:=by rw [zq8,s1]
 refine ⟨fun _=>none,0,fun _=>False,⟨?_,(zeV.made _ _ w).chg k2 (fun e=>e),(hR.chg (k1.trans k2) (fun _ _ e=>e)),?_,(fun x v hv=>by cases hv),(fun k hk=>hk.elim),fun k hk=>?_⟩,zrj _,fun k hk=>hk.elim,.inr rfl,.inl rfl,fun k hk=>?_⟩
 ·have:=zh (w.alloc (.map #[] 0)) (.cells #[.slice ra R.length rc,.int .i64 b,.map (some w.heap.size)] 192)
  rw [s1] at this;exact this
 ·exact hf.imp (fun q=>q) (fun q=>⟨q,fun _=>rfl⟩)
 ·have:=hG k hk
  rw [s2];omega
 ·rw [s2]
  omega
def zeG (R:List zF) (b:Int) (c:zq):Bool × Int:=if ZD c=true then xJ R b c else (false,2)
def zeS (w:World) (r:Bool × Int) (e:Ending) (w':World):Prop:=e=.returned (.tuple #[.bool r.1,.int .i64 r.2])∧Chg (fun _=>False) w w'
end Go.Proofs.YthdfplafihmejaaGreat
