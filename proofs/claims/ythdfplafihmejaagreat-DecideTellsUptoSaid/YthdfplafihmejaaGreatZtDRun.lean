/-
  UPlain: what else. URun: what else. The reference's Rules, Has and Backed. The reference's Backed. The reference's Run.
-/
import Derived.Test.YthdfplafihmejaaGreatZtUPlain
import Derived.Test.YthdfplafihmejaaGreatZtBaseZ
import Derived.Test.YthdfplafihmejaaGreatZtRRefAZ
import Derived.Test.YthdfplafihmejaaGreatZtVShort
import Derived.Test.YthdfplafihmejaaGreatZtURun
import Derived.Test.YthdfplafihmejaaGreatZtDCheckZ
import Derived.Test.YthdfplafihmejaaGreatZtAEnt
import Derived.Test.YthdfplafihmejaaGreatZtCLike
namespace Go.Proofs.YthdfplafihmejaaGreat
open Go.RowKit Go.Maps
theorem zkG {w:World} {base:Nat} {v:Value} {l:List Nat} (h:w.ownsRow base 3 1 v l.length (Yj l)):Yr w v (fun k=>v.ownBlock=some k) (zgd l):=by
 obtain ⟨a,cap,rfl,hl,hc⟩:=zch h;refine ⟨a,cap,by unfold zgd;rw [zq4],by unfold zgd;rw [zq4];exact hl,fun j x hj=>?_⟩;unfold zgd at hj;rw [zrb] at hj;cases hq:l[j]? with
 | none=>rw [hq] at hj;cases hj
 | some y=>
  rw [hq] at hj;cases hj;obtain ⟨g,rfl,q⟩:=hc j y hq;exact ⟨g,0,rfl,rfl,by rw [Nat.zero_add];exact q.2⟩
theorem znP (l:List Nat) (i:Nat):decide ((i:Int)∈zgd l)=decide (i∈l):=by
 rw [Bool.eq_iff_iff,zra,zra];unfold zgd;rw [List.mem_map];exact ⟨fun ⟨x,hx,e⟩=>by rwa [show i=x by omega],fun h=>⟨i,h,rfl⟩⟩
set_option maxHeartbeats 2000000 in
set_option maxRecDepth 100000 in
theorem zkb (w:World) (c:zq) (sa:Option Addr) (sc:Nat) (G:Nat->Prop) (h:YI w (.slice sa c.fr.length sc) G c) (hl:c.fr.length<=1000):
  Calls Tryz.prog 47 #[xI c (.slice sa c.fr.length sc)] w fun e w'=>∃ v,e=.returned v∧w'.ownsRow w.heap.size 66 2 v (yr c).length (zD (yr c))∧Chg (fun _=>False) w w':=by
 have HS:=ze h.set.at_;have SU:=ze (fun k x=>@zct c k x);have LE:=ze (fun k=>@zbb c k);have FIN:=ze (show yr c=yL c c.fr.length by unfold yr yL;rw [zrk]);have Z:=ze (show yL c 0=[] by unfold yL;simp);rw [FIN.out];generalize yL c=T at *;obtain ⟨kind,sg,sp,fr,f,t,num⟩:=c;unfold xI;simp only at HS SU LE hl ⊢;clear h FIN;have OA:=ze (zh w (.cells #[.int .i64 kind,.int .u16 (sg:Int),.string sp,.slice sa fr.length sc,.int .i64 f,.int .i64 t,.int .i64 num] 64));have KA:=ze (zi (fun _=>False) w (.cells #[.int .i64 kind,.int .u16 (sg:Int),.string sp,.slice sa fr.length sc,.int .i64 f,.int .i64 t,.int .i64 num] 64));have hs1:(w.alloc (.cells #[.int .i64 kind,.int .u16 (sg:Int),.string sp,.slice sa fr.length sc,.int .i64 f,.int .i64 t,.int .i64 num] 64)).heap.size=w.heap.size+1:=zq8 ..;go_enter Tryz.func47,Tryz.ntmps47;go_wp2;generalize hw1:w.alloc (.cells #[.int .i64 kind,.int .u16 (sg:Int),.string sp,.slice sa fr.length sc,.int .i64 f,.int .i64 t,.int .i64 num] 64)=w1 at *;clear hw1;rw [<- hs1];have HS1:=ze hs1;clear hs1;have KE:=ze (zi (fun _=>False) w1 (.cells #[] 66));go_loopw [3,4] (fun v iv wr=>∃ k:Nat,k<=fr.length∧iv=.int .i64 k∧Hid (wr.ownsRow w1.heap.size 66 2 v (T k).length (zD (T k))∧Chg (fun _=>False) w1 wr)) (fun _ iv _=>fr.length - (intOf iv).toNat)
 case atStart=>exact ⟨0,by omega,rfl,ze ⟨by rw [Z.out];exact ZH _ _ _ _ (zrj _),KE.out⟩⟩
 case round=>
  obtain ⟨k,hk,rfl,HI⟩:=hrel;obtain ⟨ab,cb,eb⟩:=zl HI.out.1;subst eb;have HO:=ze HI.out.1;have KC:=ze HI.out.2;have tl:(T k).length<=1000:=by rw [LE.out k hk];omega
  have d2:=zf (o:=2) (KC.out.obj (fun e=>e) OA.out) rfl;have d3:=zf (o:=3) (KC.out.obj (fun e=>e) OA.out) rfl;clear HI;by_cases hlt:k < fr.length
  ·obtain ⟨x,hx⟩:∃ x,fr[k]? = some x:=⟨_,zq0 hlt⟩
   obtain ⟨_,_,e1,_,hcl⟩:=HS.out.chg KA.out (fun _ _ e=>e);cases e1;obtain ⟨lb,lo,rfl,_,x00,hxs⟩:=hcl k x hx;have x0:=zj KC.out (fun e=>e) x00;have NX:=ze (SU.out k x hx);have hb4:w1.heap.size<=wr.heap.size:=KC.out.size;have DD:=ze (fun wd (q:Chg (fun _=>False) w1 wd)=>And.intro (zj q (fun e=>e) x00) (And.intro (zj q (fun e=>e) (zf (o:=2) OA.out rfl)) (zj q (fun e=>e) (zf (o:=3) OA.out rfl))));clear hcl hx x00;go_wp2_with fail;refine zu (N:=25) [.rd [0,1,2,3,4,5,6,7,8],.ef 9,.ef 10,.rd [11]] (fun W=>W.cell? ⟨lb,lo+k,none⟩=some (.string x)∧W.cell? ⟨w.heap.size,2,none⟩=some (.string sp)∧W.cell? ⟨w.heap.size,3,none⟩=some (.slice (some ⟨lb,lo,none⟩) fr.length sc)) (by kernel_rfl) (by kernel_rfl) (by kernel_rfl) (by kernel_rfl) (Nat.le_of_ble_eq_true rfl) ⟨x0,d2,d3⟩ ?_;refine zB (A:=?A1) ?h1 ?h2
   case h1=>
    rintro w' ⟨z0,z2,z3⟩ K hK;simp only [zM,zqT,zqU,zqV,zqW,zqX]
    repeat still_step
    refine wpStill_nil ?_;exact hK
   have KD:=ze KC.out.drew;have OD:=ze (zn HO.out (zw (fun _=>False) wr) (fun _ _ e=>e));have hbd:w1.heap.size<=wr.drew.heap.size:=KD.out.size;clear KC HO x0 d2 d3 hb4;generalize wr.drew=wd at *;have DDA:=ze (DD.out _ (KD.out.alloc (.cells #[.string x,.string sp] 66)));refine zI rfl ?_;go_wp2_with fail;refine ⟨DDA.out,?_⟩;refine zI rfl ?_;refine Zd rfl (.tmp 13) (.tmp 22) 22 rfl 66 2 32 Tryz.underlying22 Tryz.elemRule w1.heap.size _ _ _ rfl (OD.out.alloc _) _ [.string x,.string sp] 66 (0,0) rfl (zh _ _) rfl ?a1 ?a2 ?a3 ?a4 ?a5
   case a1=>intro u hu;simp at hu;rcases hu with rfl | rfl <;> rfl
   case a2=>omega
   case a3=>unfold maxLen;omega
   case a4=>rw [zq8];omega
   intro v5 w5 o5 g5;obtain ⟨a5,c5,rfl⟩:=zl o5;have kk:=(zi (fun j=>(Value.slice ab (T k).length cb).ownBlock=some j) wd (.cells #[.string x,.string sp] 66)).grown g5 (fun j hj _=>hj)
   have O5:=ze (show w5.ownsRow w1.heap.size 66 2 (.slice a5 ((T k).length+1) c5) (T (k+1)).length (zD (T (k+1))) from by
    rw [NX.out,zq3,yQ];exact o5)
   have K5:=ze (show Chg (fun _=>False) w1 w5 from KD.out.next kk (fun j hj e=>by have:=(OD.out.lt j e).1;omega));have Z5:=DD.out w5 K5.out;clear kk o5 g5 OD KD;go_wp2_with fail;refine ⟨Z5,?_⟩;refine zB (A:=?A2) ?h3 ?h4
   case h3=>
    rintro w' ⟨z0,z2,z3⟩ K hK;simp only [zM,zqT,zqU,zqV,zqW,zqX]
    repeat still_step
    refine wpStill_nil ?_;exact hK
   refine zR ?_;go_wp2;go_roundw
   case rel=>
    exact ⟨k+1,by omega,by go_num,ze ⟨O5.out,K5.out⟩⟩
   case measure=>simp [intOf];omega
  ·obtain rfl:k=fr.length:=by omega
   go_wp2;go_ret;exact ⟨_,rfl,ZP HO.out (by have:=HS1.out;omega),KA.out.trans KC.out⟩
set_option maxRecDepth 100000 in
theorem zkk (w:World) (oa va:Option Addr) (oc vn vc:Nat) (G:Nat->Prop) (l:List Int) (i:Int) (hv:Yr w (.slice oa l.length oc) G l):
  Calls Tryz.prog 45 #[.agg #[.slice oa l.length oc,.slice va vn vc],.int .i64 i] w fun e w'=>e=.returned (.bool (decide (i∈l)))∧Chg (fun _=>False) w w':=by
 have KA:=ze (zi (fun _=>False) w (.cells #[.slice oa l.length oc,.slice va vn vc] 52));have OA:=ze (zh w (.cells #[.slice oa l.length oc,.slice va vn vc] 52));have c0:=zf (o:=0) OA.out rfl;have HV:=ze (hv.chg KA.out (fun _ _ e=>e));obtain ⟨_,_,e1,hl0,_⟩:=hv;cases e1;unfold maxLen at hl0;have YES:=ze (fun (j:Nat) x (hx:l[j]? = some x) (e:x=i)=>show decide (i∈l)=true from zqY (e ▸ zq2 hx))
 have NOT:=ze (fun (q:∀ (j:Nat) x,l[j]? = some x->x≠i)=>show decide (i∈l)=false from zqZ (fun h=>by
  obtain ⟨j,hj⟩:=List.mem_iff_getElem?.1 h;exact q j i hj rfl))
 generalize decide (i∈l)=r at *;go_enter Tryz.func45,Tryz.ntmps45;go_wp2;generalize w.alloc (.cells #[.slice oa l.length oc,.slice va vn vc] 52)=w1 at *;go_loopw [5] (fun iv wr=>∃ k:Nat,k<=l.length∧iv=.int .i64 k∧Hid ((∀ (j:Nat) x,j < k->l[j]? = some x->x≠i)∧w1=wr)) (fun iv _=>l.length - (intOf iv).toNat)
 case atStart=>exact ⟨0,by omega,rfl,ze ⟨fun j x hj=>by omega,rfl⟩⟩
 case round=>
  obtain ⟨k,hk,rfl,HI⟩:=hrel;obtain ⟨hno,rfl⟩:=HI.out;have NO:=ze hno;clear HI hno;by_cases hlt:k < l.length
  ·obtain ⟨x,hx⟩:∃ x,l[k]? = some x:=⟨_,zq0 hlt⟩
   obtain ⟨_,_,e1,_,hcl⟩:=HV.out;cases e1;obtain ⟨g,o,rfl,_,x0⟩:=hcl k x hx;clear hcl;by_cases hxi:x=i
   ·have g1:(x == i)=true:=beq_iff_eq.2 hxi
    have R:=ze (YES.out k x hx hxi);clear hxi hx YES NOT;go_wp2;go_ret;exact ⟨by rw [R.out];rfl,KA.out⟩
   ·have g1:(x == i)=false:=zq9.2 hxi
    have N2:=ze (show ∀ (j:Nat) y,j < k+1->l[j]? = some y->y≠i from fun j y hj hy=>by
     rcases Nat.lt_or_ge j k with q | q
     ·exact NO.out j y q hy
     ·obtain rfl:j=k:=by omega
      rw [hx] at hy;cases hy;exact hxi)
    clear hxi hx;go_wp2;go_roundw
    case rel=>exact ⟨k+1,by omega,by go_num,ze ⟨N2.out,by first | trivial | rfl⟩⟩
    case measure=>simp [intOf];omega
  ·obtain rfl:k=l.length:=by omega
   have R:=ze (NOT.out (fun j x hj=>NO.out j x (zq1.1 hj).1 hj));clear YES NOT;go_wp2;go_ret;exact ⟨by rw [R.out];rfl,KA.out⟩
theorem zoH (w:World) (k:Nat) (hk:k < 65536):Calls Tryz.prog 30 #[.slice (some ⟨w.heap.size,0,none⟩) 1 1] (w.alloc (.cells #[.int .u16 (k:Int)] 62)) fun e w'=>e=.returned (.string (ZW k))∧Chg (fun _=>False) w w':=
 zl8 w k k rfl (ZW k) hk rfl
set_option maxHeartbeats 8000000 in
set_option maxRecDepth 100000 in
theorem zin (w:World) (ra:Option Addr) (R:List zF) (rc:Nat) (b:Int) (c:zq) (sa:Option Addr) (sc:Nat) (Gc:Nat->Prop)
  (hR:zX w (.slice ra R.length rc) (· < w.heap.size) R) (hf:(R.length<=400∧∀ r∈R,r.1.size<=400)∨400 < R.length) (h47:xt R) (hc:YI w (.slice sa c.fr.length sc) Gc c) (hsz:c.sp.size<=140737488355328) (hfs:zaa c.fr):
  Calls Tryz.prog 46 #[.slice ra R.length rc,xI c (.slice sa c.fr.length sc),.int .i64 b] w (zeS w (zeG R b c)):=by
 have hsg:=hc.sg;have OFW:=ze (fun w=>zoH w c.sg hsg);have ASK:=ze (fun w1 (q:Chg (fun _=>False) w w1) x (hx:x.size<=140737488355328)=>zfl (w:=w1) (v:=.slice ra R.length rc) (R:=R) (s:=x) (b:=b) ⟨zat hR q,hf,by unfold maxLen;omega⟩ h47 hx (ZW c.sg));have CH:=ze (fun w1 (q:Chg (fun _=>False) w w1)=>zcO w1 c sa sc Gc (hc.chg q (fun _ _ e=>e)) hsz hfs);have HS:=ze hc.set.at_;have SZ:=ze hfs;obtain ⟨_,_,e0,hl0,_⟩:=hc.set.at_;cases e0;obtain ⟨_,_,e0,hr0,_⟩:=hR;cases e0;have BY:=ze (show ZD c=true->zeG R b c=xM R b (ZW c.sg) c.fr from fun q=>if_pos q);have BN:=ze (show ZD c=false->zeG R b c=(false,2) from fun q=>if_neg (by rw [q];decide));unfold zeS;unfold xZ at CH;generalize zeG R b c=res at *;generalize ZD c=cb at *;generalize ZW c.sg=tw at *;obtain ⟨kind,sg,sp,fr,f,t,num⟩:=c;unfold xI at CH ⊢;simp only at CH HS SZ OFW BY hsz hl0 hsg ⊢;unfold maxLen at hl0 hr0;have KA:=ze (zi (fun _=>False) w (.cells #[.int .i64 kind,.int .u16 (sg:Int),.string sp,.slice sa fr.length sc,.int .i64 f,.int .i64 t,.int .i64 num] 64));have OA:=ze (zh w (.cells #[.int .i64 kind,.int .u16 (sg:Int),.string sp,.slice sa fr.length sc,.int .i64 f,.int .i64 t,.int .i64 num] 64));have CH1:=ze (CH.out _ KA.out);have p0:=zf (o:=0) OA.out rfl;have p1:=zf (o:=1) OA.out rfl;have p2:=zf (o:=2) OA.out rfl;have p3:=zf (o:=3) OA.out rfl;have p4:=zf (o:=4) OA.out rfl;have p5:=zf (o:=5) OA.out rfl;have p6:=zf (o:=6) OA.out rfl;clear hc hsz hfs hf h47 CH;go_enter Tryz.func46,Tryz.ntmps46;go_wp2_with fail;generalize hw1:w.alloc (.cells #[.int .i64 kind,.int .u16 (sg:Int),.string sp,.slice sa fr.length sc,.int .i64 f,.int .i64 t,.int .i64 num] 64)=w1 at *;clear hw1 p0 p1 p2 p3 p4 p5 p6;(with_reducible refine CH1.out.mono ?_);rintro e w2 ⟨⟨k,rfl,hk⟩,k2⟩;have K2:=ze (KA.out.trans k2);have O2:=ze (k2.obj (fun e=>e) OA.out);clear k2 KA OA CH1;cases cb with
 | false=>
  have g0:(k != 0)=true:=by rw [zre];exact fun q=>by have:=hk.1 q;cases this
  have RF:=ze (BN.out rfl);clear hk BY BN;go_wp2;go_ret2;exact ⟨by rw [RF.out];rfl,K2.out⟩
 | true=>
 obtain rfl:k=0:=hk.2 rfl;have BE:=ze (BY.out rfl);clear hk BY BN;go_wp2;go_loopw [8] (fun iv wr=>∃ k:Nat,k<=fr.length∧iv=.int .i64 k∧Hid (xM R b tw fr=xM R b tw (fr.drop k)∧Chg (fun _=>False) w2 wr)) (fun iv _=>fr.length - (intOf iv).toNat)
 case atStart=>exact ⟨0,by omega,rfl,ze ⟨by rw [List.drop_zero],Chg.refl _ _⟩⟩
 case round=>
  obtain ⟨k,hk,rfl,HI⟩:=hrel;have OR:=ze (HI.out.2.obj (fun e=>e) O2.out);have KR:=ze (K2.out.trans HI.out.2);have KC:=ze HI.out.2;have BI:=ze HI.out.1;have q1:=zf (o:=1) OR.out rfl;have q3:=zf (o:=3) OR.out rfl;clear HI;by_cases hlt:k < fr.length
  rotate_left
  ·obtain rfl:k=fr.length:=by omega
   have RT:=ze (show res=(true,0) by rw [BE.out,BI.out,List.drop_length];rfl);go_wp2;go_ret2;exact ⟨by rw [RT.out];rfl,KR.out⟩
  obtain ⟨x,hx⟩:∃ x,fr[k]? = some x:=⟨_,zq0 hlt⟩;have BD:=ze (zhz (R:=R) (b:=b) (t:=tw) hx);have hxs:=SZ.out x (zq2 hx);obtain ⟨_,_,e1,_,hcl⟩:=HS.out;cases e1;obtain ⟨lb,lo,rfl,_,x00,_⟩:=hcl k x hx;have x0:=zj KR.out (fun e=>e) x00;have DD:=ze (fun wd (q:Chg (fun _=>False) wr wd)=>And.intro (zj q (fun e=>e) x0) (And.intro (zj q (fun e=>e) q1) (zj q (fun e=>e) q3)));clear hcl hx x00;go_wp2_with fail;refine zu (N:=41) [.rd [0,1,2,3,4,5,6,7,10],.ef 8,.ef 9,.ef 11,.rd [12,13,14,15,16]] (fun W=>W.cell? ⟨lb,lo+k,none⟩=some (.string x)∧W.cell? ⟨w.heap.size,1,none⟩=some (.int .u16 (sg:Int))∧W.cell? ⟨w.heap.size,3,none⟩=some (.slice (some ⟨lb,lo,none⟩) fr.length sc)) (by kernel_rfl) (by kernel_rfl) (by kernel_rfl) (by kernel_rfl) (Nat.le_of_ble_eq_true rfl) ⟨x0,q1,q3⟩ ?_;refine zB (A:=?A1) ?h1 ?h2
  case h1=>
   rintro w' ⟨z0,z1,z3⟩ K hK;simp only [zM,zqT,zqU,zqV,zqW,zqX]
   repeat still_step
   refine wpStill_nil ?_;exact hK
  have KD:=ze KC.out.drew;have KRD:=ze KR.out.drew;have DW:=ze (zw (fun _=>False) wr);clear x0 q1 q3 KC KR OR;generalize wr.drew=wd at *;have DDA:=ze (DD.out _ (DW.out.alloc (.cells #[.int .u16 (sg:Int)] 62)));have OF:=ze (OFW.out wd);clear OFW;refine zI rfl ?_;go_wp2_with fail;refine ⟨DDA.out,?_⟩;refine zI rfl ?_;go_wp2_with fail;(with_reducible refine OF.out.mono ?_);rintro e w5 ⟨rfl,k5⟩;have K5:=ze (KD.out.trans k5);have KR5:=ze (KRD.out.trans k5);have DW5:=ze (DW.out.trans k5);have Z5:=ze (DD.out _ DW5.out);have LD:=ze (ASK.out _ KR5.out x hxs);clear ASK k5 KD KRD DW OF DDA;generalize Xk R x tw b=tb at *;generalize zH R x b=re at *;go_wp2_with fail;refine ⟨Z5.out,?_⟩;refine zI rfl ?_;go_wp2_with fail;(with_reducible refine LD.out.mono ?_);rintro e w6 ⟨rfl,k6⟩;have K6:=ze (K5.out.trans k6);have KR6:=ze (KR5.out.trans k6);have Z6:=ze (DD.out _ (DW5.out.trans k6));clear k6 K5 KR5 DW5 Z5 LD DD;go_wp2_with fail;refine ⟨Z6.out,?_⟩;refine zB (A:=?A2) ?h3 ?h4
  case h3=>
   rintro w' ⟨z0,z1,z3⟩ K hK;simp only [zM,zqT,zqU,zqV,zqW,zqX]
   repeat still_step
   refine wpStill_nil ?_;exact hK
  refine zR ?_;clear Z6;by_cases hre:re=0
  rotate_left
  ·have g0:(re != 0)=true:=by rw [zre];exact hre
   have RE:=ze (show res=(false,re) by rw [BE.out,BI.out,BD.out,if_neg hre]);clear hre BD BI BE;go_wp2;go_ret2;exact ⟨by rw [RE.out];rfl,KR6.out⟩
  subst hre;rw [if_pos rfl] at BD;cases tb with
  | false=>
   have RE:=ze (show res=(false,0) by rw [BE.out,BI.out,BD.out];rfl);clear BD BI BE;go_wp2;go_ret2;exact ⟨by rw [RE.out];rfl,KR6.out⟩
  | true=>
   have BN:=ze (show xM R b tw fr=xM R b tw (fr.drop (k+1)) by rw [BI.out,BD.out];rfl);clear BD BI;go_wp2;go_roundw
   case rel=>exact ⟨k+1,by omega,by go_num,ze ⟨BN.out,K6.out⟩⟩
   case measure=>simp [intOf];omega
structure zbz (w:World) (base rb ro:Nat) (Rl:List zF) (Ol:List Nat) (oa ra:Option Addr) (oc rc:Nat):Prop where
 obj:w.heap[rb]? = some (.cells #[.slice oa Ol.length oc,.slice ra Rl.length rc] 52 (0,0))
 res:w.heap[ro]? = some (.cells #[.slice none 0 0,.slice none 0 0] 52 (0,0))
 ord:w.ownsRow base 3 1 (.slice oa Ol.length oc) Ol.length (Yj Ol)
 rul:w.ownsRow base 66 2 (.slice ra Rl.length rc) Rl.length (zD Rl)
 lo:base<=rb∧base<=ro∧rb≠ro
section
variable {w w':World} {base rb ro:Nat} {Rl:List zF} {Ol:List Nat} {oa ra:Option Addr} {oc rc:Nat}
theorem zbz.chg0 (h:zbz w base rb ro Rl Ol oa ra oc rc) (hc:Chg (fun _=>False) w w'):zbz w' base rb ro Rl Ol oa ra oc rc:=
 ⟨hc.obj (fun e=>e) h.obj,hc.obj (fun e=>e) h.res,zn h.ord hc (fun _ _ e=>e),zn h.rul hc (fun _ _ e=>e),h.lo⟩
theorem zbz.push {S:Nat->Prop} (h:zbz w base rb ro Rl Ol oa ra oc rc) {i:Nat} {a5:Option Addr} {c5:Nat} (o5:w'.ownsRow base 3 1 (.slice a5 (Ol++[i]).length c5) (Ol++[i]).length (Yj (Ol++[i]))) (hc:Chg S w w') (hS:∀ k,S k->(Value.slice oa Ol.length oc).ownBlock=some k):
  zbz (w'.setCell ⟨rb,0,none⟩ (.slice a5 (Ol++[i]).length c5)) base rb ro Rl (Ol++[i]) a5 ra c5 rc:=by
 have key:∀ {k cs t fz},w.heap[k]? = some (.cells cs t fz)->t≠3->¬ S k:=fun hk ne q=>Yo h.ord hk ne (hS _ q);have ob:=hc.obj (key h.obj (by decide)) h.obj;have kc:=zG w' rb 0 (.slice a5 (Ol++[i]).length c5)
 have hr:w'.ownsRow base 66 2 (.slice ra Rl.length rc) Rl.length (zD Rl):=zn h.rul hc (fun k hk=>by
  obtain ⟨cs,z⟩:=zC h.rul hk;exact key z (by decide))
 exact ⟨zt (o:=0) ob _,kc.obj (fun e=>h.lo.2.2 e.symm) (hc.obj (key h.res (by decide)) h.res),zn o5 kc (fun k hk e=>Yo o5 ob (by decide) (e ▸ hk)),zn hr kc (fun k hk e=>Yo hr ob (by decide) (e ▸ hk)),h.lo⟩
theorem zbz.grow {S:Nat->Prop} (h:zbz w base rb ro Rl Ol oa ra oc rc) {M:List zF} {a5:Option Addr} {c5:Nat} (o5:w'.ownsRow base 66 2 (.slice a5 (Rl++M).length c5) (Rl++M).length (zD (Rl++M))) (hc:Chg S w w') (hS:∀ k,S k->(Value.slice ra Rl.length rc).ownBlock=some k):
  zbz (w'.setCell ⟨rb,1,none⟩ (.slice a5 (Rl++M).length c5)) base rb ro (Rl++M) Ol oa a5 oc c5:=by
 have key:∀ {k cs t fz},w.heap[k]? = some (.cells cs t fz)->t≠66->¬ S k:=fun hk ne q=>Yo h.rul hk ne (hS _ q);have ob:=hc.obj (key h.obj (by decide)) h.obj;have kc:=zG w' rb 1 (.slice a5 (Rl++M).length c5)
 have hr:w'.ownsRow base 3 1 (.slice oa Ol.length oc) Ol.length (Yj Ol):=zn h.ord hc (fun k hk=>by
  obtain ⟨cs,z⟩:=zC h.ord hk;exact key z (by decide))
 exact ⟨zt (o:=1) ob _,kc.obj (fun e=>h.lo.2.2 e.symm) (hc.obj (key h.res (by decide)) h.res),zn hr kc (fun k hk e=>Yo hr ob (by decide) (e ▸ hk)),zn o5 kc (fun k hk e=>Yo o5 ob (by decide) (e ▸ hk)),h.lo⟩
end
theorem zab.fit47 {R:List zF} {C:List zq} {b:Int} {s:ASt} (h:zab R C b s) (hR:xt R) (hC:∀ c∈C,c.sp.size<=140737488355328∧zaa c.fr):xt s.rules:=fun r hr=>by
 rw [h.rules] at hr;rcases zrc.1 hr with q | q
 ·exact hR r q
 ·unfold zY at q
  obtain ⟨i,_,hq⟩:=List.mem_flatMap.1 q;cases hc:C[i]? with
  | none=>rw [hc] at hq;cases hq
  | some c=>
   rw [hc] at hq;obtain ⟨x,hx,rfl⟩:=List.mem_map.1 hq;obtain ⟨h1,h2⟩:=hC c (zq2 hc);exact ⟨h2 x hx,h1⟩
theorem zmo {w:World} {base:Nat} {oa va:Option Addr} {oc vn vc:Nat} {l:List Nat} (h:w.ownsRow base 3 1 (.slice oa l.length oc) l.length (Yj l)) (i:Nat) (z:Int) (hz:z=i):
  Calls Tryz.prog 45 #[.agg #[.slice oa l.length oc,.slice va vn vc],.int .i64 z] w fun e w'=>e=.returned (.bool (decide (i∈l)))∧Chg (fun _=>False) w w':=by
 subst hz;have e:(zgd l).length=l.length:=by unfold zgd;rw [zq4]
 have:=zkk w oa va oc vn vc _ (zgd l) (i:Int) (by rw [e];exact zkG h);rw [znP,e] at this;exact this
def zni (R:List zF) (C:List zq) (b:Int) (s:ASt):Prop:=∃ f,Zc R C b=zia C b f s∧C.length < f+s.order.length
section
variable {R:List zF} {C:List zq} {b:Int} {s u:ASt}
theorem zni.get (h:zni R C b s) (hi:zab R C b s):∃ f,Zc R C b=zia C b (f+1) s∧C.length < f+1+s.order.length:=by
 obtain ⟨f,e,hf⟩:=h;cases f with
 | zero=>have:=yS hi.nd hi.lt;omega
 | succ f=>exact ⟨f,e,hf⟩
theorem zni.stop (h:zni R C b s) (hi:zab R C b s) (hp:YJ C b s C.length=.ok u) (he:u.order.length=s.order.length):Zc R C b=.ok u:=by
 obtain ⟨f,e,hf⟩:=h.get hi;unfold zia at e;rw [hp] at e;simp only at e;rwa [if_pos he] at e
theorem zni.go (h:zni R C b s) (hi:zab R C b s) (hp:YJ C b s C.length=.ok u) (he:u.order.length≠s.order.length):zni R C b u:=by
 obtain ⟨f,e,hf⟩:=h.get hi;have hl:=(hi.pass _ hp).2.1.length_le;unfold zia at e;rw [hp] at e;simp only at e;rw [if_neg he] at e;exact ⟨f,e,by omega⟩
theorem zni.err {k:Int} (h:zni R C b s) (hi:zab R C b s) (hp:YJ C b s C.length=.error k):Zc R C b=.error k:=by
 obtain ⟨f,e,hf⟩:=h.get hi;unfold zia at e;rwa [hp] at e
end
def ordLen (w:World) (rb:Nat):Nat:=match w.cell? ⟨rb,0,none⟩ with
 | some (.slice _ n _)=>n
 | _=>0
theorem zbz.ordLen {w:World} {base rb ro:Nat} {Rl:List zF} {Ol:List Nat} {oa ra:Option Addr} {oc rc:Nat} (h:zbz w base rb ro Rl Ol oa ra oc rc):ordLen w rb=Ol.length:=by
 unfold Go.Proofs.YthdfplafihmejaaGreat.ordLen;rw [zf (o:=0) h.obj rfl];rfl
set_option maxHeartbeats 16000000 in
set_option maxRecDepth 100000 in
theorem zcL (w:World) (ra:Option Addr) (R:List zF) (rc:Nat) (v:Value) (P:List (zq × Value)) (b:Int) (G:Nat->Prop) (hR:zX w (.slice ra R.length rc) G R) (hnil:ra=none->R.length=0∧rc=0) (hRl:R.length<=140737488355328) (hf:R.length<=400->∀ r∈R,r.1.size<=400) (hv:ym w v G P) (hP:P.length<=1000) (h47:xt R) (hcs:∀ c∈zk P,c.sp.size<=140737488355328∧zaa c.fr):
  Calls Tryz.prog 21 #[.slice ra R.length rc,v,.int .i64 b] w (zjI w R (zk P) b):=by
 have HV:=ze hv;obtain ⟨la,cap,rfl,_,_⟩:=hv;have k0:=zi (fun _=>False) w (.cells #[.slice none 0 0,.slice none 0 0] 52);have o0:=zh w (.cells #[.slice none 0 0,.slice none 0 0] 52);have CG:=ze (fun k p (h:P[k]? = some p)=>Zy h);have CL:=ze (zQ P);have RBAD:=ze (fun k c=>@zjk (zk P) R.length k b c);have RGOOD:=ze (@zg2 (zk P) R.length b);have BAD:=ze (@zfM R (zk P) b);have GO:=ze (@zhH R (zk P) b);have ROK:=ze (@zoD R.length (zk P) b);have HR:=ze hR;have HNIL:=ze hnil;have HF:=ze hf;have H47:=ze h47;have CS:=ze hcs;unfold zjI;generalize hrf:zeU R.length (zk P) b=rf at *;clear hrf;generalize zk P=C at *;generalize hrl:R.length=rl at *;have K0:=ze k0;have O0:=ze o0;have RL:=ze hrl;have hs0:=zq8 w (.cells #[.slice none 0 0,.slice none 0 0] 52);clear k0 o0 hR hnil hf h47 hcs hrl;go_enter Tryz.func21,Tryz.ntmps21;go_wp2;generalize w.alloc (.cells #[.slice none 0 0,.slice none 0 0] 52)=w0 at *;have HS0:=ze (show w.heap.size < w0.heap.size by omega);clear hs0;go_loopw [8,9] (fun nv iv wr=>∃ k n:Nat,k<=P.length∧n<=rl+16*k∧nv=.int .i64 n∧iv=.int .i64 k∧Hid (n=rl+ZB (C.take k)∧(∀ (j:Nat) c,j < k->C[j]? = some c->ZD c=true)∧Chg (fun _=>False) w0 wr)) (fun _ iv _=>P.length - (intOf iv).toNat)
 case atStart=>exact ⟨0,rl,by omega,by omega,rfl,rfl,ze ⟨by simp [ZB],fun j c hj=>by omega,Chg.refl _ _⟩⟩
 case round=>
  obtain ⟨k,n,hk,hn,rfl,rfl,HI⟩:=hrel;obtain ⟨hne,hall,hkc⟩:=HI.out;have NE:=ze hne;have ALL:=ze hall;have KC:=ze hkc;have KW:=ze (K0.out.trans hkc);have OW:=ze (hkc.obj (fun e=>e) O0.out);have r0:=zf (o:=0) OW.out rfl;have r1:=zf (o:=1) OW.out rfl;have rf0:=zm (o:=0) OW.out;have rf1:=zm (o:=1) OW.out;clear HI hne hall hkc;by_cases hlt:k < P.length
  ·obtain ⟨⟨c,sv⟩,hp⟩:∃ p,P[k]? = some p:=⟨_,zq0 hlt⟩
   obtain ⟨_,_,e1,_,hcl⟩:=HV.out.chg KW.out (fun _ _ e=>e);cases e1;obtain ⟨g,o,sa,sc,rfl,hgg,hsv,c0,c1,c2,c3,c4,c5,c6,hca⟩:=hcl k _ hp;simp only at hsv;subst hsv;have HP:=ze (CG.out _ _ hp);clear hcl hp hgg;simp only at c0 c1 c2 c3 c4 c5 c6 hca HP;have hcz:=CS.out c (zq2 HP.out);have CH:=zcO wr c sa sc G hca hcz.1 hcz.2;have HB:=ze (@Xx c)
   have CB:=ze (fun (j:Nat) d (hj:j < k+1) (hd:C[j]? = some d) (q:ZD c=true)=>(show ZD d=true by
    rcases Nat.lt_or_ge j k with h | h
    ·exact ALL.out j d h hd
    ·obtain rfl:j=k:=by omega
     rw [HP.out] at hd;cases hd;exact q))
   have BD:=ze (RBAD.out k c HP.out);have NS:=ze (za2 HP.out);unfold xZ at CH;generalize ZD c=cb at *;obtain ⟨kind,sg,sp,fr,f,t,num⟩:=c;unfold xI at CH;simp only at c0 c1 c2 c3 c4 c5 c6 CH NS HB;have C3:=ze (fun w2 (q:Chg (fun _=>False) wr w2)=>zj q (fun e=>e) c3);have CH:=ze CH;clear hca HP hcz;go_wp2_with fail;(with_reducible refine CH.out.mono ?_);rintro e w2 ⟨⟨x,rfl,hx⟩,k2⟩;have K2:=ze (KC.out.trans k2);have O2:=ze (k2.obj (fun e=>e) OW.out);have KW2:=ze (KW.out.trans k2);have d3:=C3.out _ k2;have s0:=zf (o:=0) O2.out rfl;have s1:=zf (o:=1) O2.out rfl;have sf0:=zm (o:=0) O2.out;have sf1:=zm (o:=1) O2.out;clear CH k2 c0 c1 c2 c3 c4 c5 c6 C3 r0 r1 rf0 rf1 KC KW OW;cases cb with
   | false=>
    have g1:(x != 0)=true:=by rw [zre];intro e;exact absurd (hx.1 e) (by decide)
    have RV:=ze (BD.out rfl);have AE:=ze (show Zc R C b=.error 2 by rw [BAD.out (by rw [RV.out];decide),RV.out]);clear hx;go_wp2;obtain ⟨W,hW⟩:∃ W,W=((w2.setCell ⟨w.heap.size,0,none⟩ (.slice none 0 0)).setCell ⟨w.heap.size,1,none⟩ (.slice none 0 0)):=⟨_,rfl⟩;obtain ⟨ob,k4⟩:=zd6 O2.out (.slice none 0 0) (.slice none 0 0) W hW;rw [<- hW];clear hW;have z0:W.cell? ⟨w.heap.size,0,none⟩=some (.slice none 0 0):=zf ob rfl;have z1:W.cell? ⟨w.heap.size,1,none⟩=some (.slice none 0 0):=zf ob rfl;refine bodyPost_ret (v:=.tuple #[.agg #[.slice none 0 0,.slice none 0 0],.int .i64 2]) (by simp [results,Tryz.results21,go_sem,z0,z1]) rfl ?_;exact ⟨KW2.out.next k4 (fun k hk e=>by omega),.inl ⟨2,by decide,AE.out,rfl⟩⟩
   | true=>
    have g1:(x != 0)=false:=by rw [hx.2 rfl];rfl
    have hfl:=(HB.out rfl).2;have w1':IntKind.i64.wrap ((n:Int)+(fr.length:Int))=((n+fr.length:Nat):Int):=by rw [IntKind.wrap_i64];omega
    clear hx;go_wp2;go_roundw
    case rel=>exact ⟨k+1,n+fr.length,by omega,by omega,by first | trivial | rfl | go_num,by first | trivial | go_num,ze ⟨by rw [NS.out,NE.out];omega,fun j d hj hd=>CB.out j d hj hd (by trivial),K2.out⟩⟩
    case measure=>simp [intOf];omega
  obtain rfl:k=P.length:=by omega
  have R0:=RGOOD.out (fun j c hj=>ALL.out j c (by rw [<- CL.out];exact hj));rw [show rl+ZB C=n by rw [NE.out,List.take_of_length_le (by rw [CL.out];exact zrj _)]] at R0;have RR:=ze R0;clear R0;by_cases h4:400 < n
  ·have g4:decide (400 < (n:Int))=true:=zqY (by omega)
   have RV:=ze (show rf=3 by rw [RR.out,if_pos h4]);have AE:=ze (show Zc R C b=.error 3 by rw [BAD.out (by rw [RV.out];decide),RV.out]);go_wp2;obtain ⟨W,hW⟩:∃ W,W=((wr.setCell ⟨w.heap.size,0,none⟩ (.slice none 0 0)).setCell ⟨w.heap.size,1,none⟩ (.slice none 0 0)):=⟨_,rfl⟩;obtain ⟨ob,k4⟩:=zd6 OW.out (.slice none 0 0) (.slice none 0 0) W hW;rw [<- hW];clear hW;have z0:W.cell? ⟨w.heap.size,0,none⟩=some (.slice none 0 0):=zf ob rfl;have z1:W.cell? ⟨w.heap.size,1,none⟩=some (.slice none 0 0):=zf ob rfl;refine bodyPost_ret (v:=.tuple #[.agg #[.slice none 0 0,.slice none 0 0],.int .i64 3]) (by simp [results,Tryz.results21,go_sem,z0,z1]) rfl ?_;exact ⟨KW.out.next k4 (fun k hk e=>by omega),.inl ⟨3,by decide,AE.out,rfl⟩⟩
  have g4:decide (400 < (n:Int))=false:=zqZ (by omega);by_cases h5:b < 1
  ·have g5:decide (b < 1)=true:=zqY h5
   have RV:=ze (show rf=1 by rw [RR.out,if_neg h4,if_pos (.inl h5)]);have AE:=ze (show Zc R C b=.error 1 by rw [BAD.out (by rw [RV.out];decide),RV.out]);clear RR h4 h5;go_wp2;obtain ⟨W,hW⟩:∃ W,W=((wr.setCell ⟨w.heap.size,0,none⟩ (.slice none 0 0)).setCell ⟨w.heap.size,1,none⟩ (.slice none 0 0)):=⟨_,rfl⟩;obtain ⟨ob,k4⟩:=zd6 OW.out (.slice none 0 0) (.slice none 0 0) W hW;rw [<- hW];clear hW;have z0:W.cell? ⟨w.heap.size,0,none⟩=some (.slice none 0 0):=zf ob rfl;have z1:W.cell? ⟨w.heap.size,1,none⟩=some (.slice none 0 0):=zf ob rfl;refine bodyPost_ret (v:=.tuple #[.agg #[.slice none 0 0,.slice none 0 0],.int .i64 1]) (by simp [results,Tryz.results21,go_sem,z0,z1]) rfl ?_;exact ⟨KW.out.next k4 (fun k hk e=>by omega),.inl ⟨1,by decide,AE.out,rfl⟩⟩
  have g5:decide (b < 1)=false:=zqZ h5;by_cases h6:5000 < b
  ·have g6:decide (5000 < b)=true:=zqY h6
   have RV:=ze (show rf=1 by rw [RR.out,if_neg h4,if_pos (.inr h6)]);have AE:=ze (show Zc R C b=.error 1 by rw [BAD.out (by rw [RV.out];decide),RV.out]);clear RR h4 h5 h6;go_wp2;obtain ⟨W,hW⟩:∃ W,W=((wr.setCell ⟨w.heap.size,0,none⟩ (.slice none 0 0)).setCell ⟨w.heap.size,1,none⟩ (.slice none 0 0)):=⟨_,rfl⟩;obtain ⟨ob,k4⟩:=zd6 OW.out (.slice none 0 0) (.slice none 0 0) W hW;rw [<- hW];clear hW;have z0:W.cell? ⟨w.heap.size,0,none⟩=some (.slice none 0 0):=zf ob rfl;have z1:W.cell? ⟨w.heap.size,1,none⟩=some (.slice none 0 0):=zf ob rfl;refine bodyPost_ret (v:=.tuple #[.agg #[.slice none 0 0,.slice none 0 0],.int .i64 1]) (by simp [results,Tryz.results21,go_sem,z0,z1]) rfl ?_;exact ⟨KW.out.next k4 (fun k hk e=>by omega),.inl ⟨1,by decide,AE.out,rfl⟩⟩
  have g6:decide (5000 < b)=false:=zqZ h6;have RV:=ze (show rf=0 by rw [RR.out,if_neg h4,if_neg (by omega)]);have AGO:=ze (GO.out RV.out);obtain ⟨hall,hneed⟩:=ROK.out RV.out;have CW:=ze (zbX hall);have CBY:=ze (fun c (hc:c∈C)=>show ZD c=true from zrh.1 hall c hc);have CBL:=ze (fun c hc=>Xx (zrh.1 hall c hc))
  have RFEW:=ze (show R.length<=400∧∀ r∈R,r.1.size<=400∧r.2.size<=maxLen from ⟨by have:=RL.out;omega,fun r hr=>⟨HF.out (by omega) r hr,by
   obtain ⟨_,_,_,_,q⟩:=HR.out;obtain ⟨j,hj⟩:=List.mem_iff_getElem?.1 hr;obtain ⟨_,_,_,_,_,_,_,q2⟩:=q j r hj;exact q2⟩⟩)
  have FEW:=ze (fun s (h:zab R C b s)=>h.few (by have:=RL.out;omega) RFEW.out.2 CW.out);have F47:=ze (fun s (h:zab R C b s)=>h.fit47 H47.out CS.out);have NEED:=ze (show ZB C<=400 by omega);have RW:=HR.out.chg KW.out (fun _ _ e=>e);have RLE:=RL.out;have hrl4:rl<=400:=by omega
  rw [<- RLE] at RW;have SRC:=ze (zaV RW);have hww:w.heap.size<=wr.heap.size:=KW.out.size;clear RR h4 h5 h6 hall hneed RW ROK GO BAD RGOOD RBAD ALL NE HF;go_wp2_with (at_builtin;refine zV rfl (.tmp 48) (.tmp 49) 22 rfl 66 2 32 Tryz.underlying22 Tryz.elemRule wr.heap.size _ 0 [] rfl (ZH _ _ _ _ (zrj _)) ra rl rc (zD R) rfl ?a1 ?a2 ?a3 ?a4 ?a5 ?a6 ?a7 ?nx1)
  case a1=>rw [<- RL.out];exact yt R
  case a2=>
   intro j u hj;obtain ⟨g',o',e,c1⟩:=SRC.out j u hj;exact ⟨g',o',e,zj (zi (fun _=>False) wr _) (fun e=>e) c1⟩
  case a3=>exact HNIL.out
  case a4=>exact YO R
  case a5=>omega
  case a6=>unfold maxLen;omega
  case a7=>simp
  intro v8 w8 o8 g8;obtain ⟨a8,c8,rfl⟩:=zl o8
  have k8:Chg (fun _=>False) wr w8:=(zi (fun _=>False) wr (.cells #[] 66)).next (Chg.of_grown g8) (fun x hx e=>by
   have e2:wr.heap.size=x:=by simpa [Value.ownBlock] using e
   omega)
  have K8:=ze (KW.out.trans k8);have RES8:=ze (k8.obj (fun e=>e) OW.out);have hs8:=k8.size;have OWN8:=ze (ZP o8 hww);have ka:=zi (fun _=>False) w8 (.cells #[.slice none 0 0,.slice a8 rl c8] 52)
  have START:=ze (show zbz (w8.alloc (.cells #[.slice none 0 0,.slice a8 rl c8] 52)) w.heap.size w8.heap.size w.heap.size R [] none a8 0 c8 from
   ⟨by rw [RL.out];exact zh _ _,ka.obj (fun e=>e) RES8.out,World.ownsRow_nil _ _ _ _,by rw [RL.out];exact zn OWN8.out ka (fun _ _ e=>e),by omega,zrj _,by have:=HS0.out;have:=zr RES8.out;omega⟩)
  have KS:=ze (K8.out.trans ka);clear r0 r1 rf0 rf1;go_wp2;clear ka o8 g8 k8 K8 RES8 OWN8 hs8 SRC;generalize w8.alloc (.cells #[.slice none 0 0,.slice a8 rl c8] 52)=w9 at *;generalize w8.heap.size=rb at *;clear OW KW KC;go_loopw [] (fun wq=>∃ (s:ASt) (oa ra':Option Addr) (oc rc':Nat),Hid (zbz wq w.heap.size rb w.heap.size s.rules s.order oa ra' oc rc'∧Chg (fun _=>False) w wq∧zab R C b s∧zni R C b s)) (fun wq=>P.length+1 - ordLen wq rb)
  case atStart=>exact ⟨⟨[],R⟩,none,a8,0,c8,ze ⟨START.out,KS.out,zab.start R C b,⟨C.length+1,AGO.out,by simp⟩⟩⟩
  case round=>
   obtain ⟨s,oa1,ra1,oc1,rc1,HI⟩:=hrel;obtain ⟨hra,hkc,hinv,hway⟩:=HI.out;have SR:=ze hra;have KC:=ze hkc;have INV:=ze hinv;have WAY:=ze hway;have OL:=ze hra.ordLen;have hsl:s.order.length<=P.length:=by have:=yS hinv.nd hinv.lt;rw [CL.out] at this;exact this
   have b0:=zf (o:=0) hra.obj rfl;clear HI hra hkc hinv hway;obtain ⟨wo,hwo⟩:∃ wo:World,wo=wr:=⟨_,rfl⟩;rw [<- hwo] at SR KC OL b0;rw [<- hwo];clear hwo;go_wp2_with fail;clear b0;go_loopw [12] (fun iv wq=>∃ (k:Nat) (u:ASt) (oa ra':Option Addr) (oc rc':Nat),k<=P.length∧iv=.int .i64 k∧Hid (zbz wq w.heap.size rb w.heap.size u.rules u.order oa ra' oc rc'∧Chg (fun _=>False) w wq∧zab R C b u∧YJ C b s k=.ok u)) (fun iv _=>P.length - (intOf iv).toNat)
   case atStart=>exact ⟨0,s,oa1,ra1,oc1,rc1,by omega,rfl,ze ⟨SR.out,KC.out,INV.out,rfl⟩⟩
   case round=>
    obtain ⟨k,u,oa2,ra2,oc2,rc2,hk,rfl,HJ⟩:=hrel;obtain ⟨hru,hkq,hui,hpa⟩:=HJ.out;have SU:=ze hru;have KQ:=ze hkq;have UI:=ze hui;have PA:=ze hpa;have b0:=zf (o:=0) hru.obj rfl;have b1:=zf (o:=1) hru.obj rfl;clear HJ hru hkq hui hpa SR KC;by_cases hlt:k < P.length
    rotate_left
    ·obtain rfl:k=P.length:=by omega
     have PAL:=ze (show YJ C b s C.length=.ok u by rw [CL.out];exact PA.out);have hle:=(INV.out.pass _ PAL.out).2.1.length_le;have hul:u.order.length<=P.length:=by have:=yS UI.out.nd UI.out.lt;rw [CL.out] at this;exact this
     by_cases he:u.order.length=s.order.length
     ·have g0:((u.order.length:Int) == (s.order.length:Int))=true:=beq_iff_eq.2 (by omega)
      have AE:=ze (WAY.out.stop INV.out PAL.out he);have c0:=zf (o:=0) SU.out.res rfl;have c1:=zf (o:=1) SU.out.res rfl;have f0:=zm (o:=0) SU.out.res;have f1:=zm (o:=1) SU.out.res;clear WAY he hle PAL PA;go_wp2;obtain ⟨W,hW⟩:∃ W,W=((wr.setCell ⟨w.heap.size,0,none⟩ (.slice oa2 u.order.length oc2)).setCell ⟨w.heap.size,1,none⟩ (.slice ra2 u.rules.length rc2)):=⟨_,rfl⟩;obtain ⟨ob,k4⟩:=zd6 SU.out.res (.slice oa2 u.order.length oc2) (.slice ra2 u.rules.length rc2) W hW;rw [<- hW];clear hW;have z0:W.cell? ⟨w.heap.size,0,none⟩=some (.slice oa2 u.order.length oc2):=zf ob rfl;have z1:W.cell? ⟨w.heap.size,1,none⟩=some (.slice ra2 u.rules.length rc2):=zf ob rfl;refine bodyPost_ret (v:=.tuple #[.agg #[.slice oa2 u.order.length oc2,.slice ra2 u.rules.length rc2],.int .i64 0]) (by simp [results,Tryz.results21,go_sem,z0,z1]) rfl ?_;exact ⟨KQ.out.next k4 (fun k hk e=>by omega),.inr ⟨u,oa2,ra2,oc2,rc2,AE.out,rfl,zn SU.out.ord k4 (fun k hk e=>Yo SU.out.ord SU.out.res (by decide) (e ▸ hk)),zn SU.out.rul k4 (fun k hk e=>Yo SU.out.rul SU.out.res (by decide) (e ▸ hk))⟩⟩
     ·have g0:((u.order.length:Int) == (s.order.length:Int))=false:=zq9.2 (by omega)
      have WN:=ze (WAY.out.go INV.out PAL.out he);have OU:=ze SU.out.ordLen;clear WAY PAL PA;go_wp2;go_roundw
      case rel=>exact ⟨u,oa2,ra2,oc2,rc2,ze ⟨SU.out,KQ.out,UI.out,WN.out⟩⟩
      case measure=>rw [OU.out,OL.out];omega
    obtain ⟨⟨c,sv⟩,hp⟩:∃ p,P[k]? = some p:=⟨_,zq0 hlt⟩;obtain ⟨_,_,e1,_,hcl⟩:=HV.out;cases e1;obtain ⟨g,o,sa,sc,rfl,hgg,hsv,c0,c1,c2,c3,c4,c5,c6,hca⟩:=hcl k _ hp;simp only at hsv;subst hsv;have HP:=ze (CG.out _ _ hp);clear hcl hp;simp only at c0 c1 c2 c3 c4 c5 c6 hca HP;have CELLS:=fun w5 (q:Chg (fun _=>False) w w5)=>And.intro (zj q (fun e=>e) c0) (And.intro (zj q (fun e=>e) c1) (And.intro (zj q (fun e=>e) c2) (And.intro (zj q (fun e=>e) c3) (And.intro (zj q (fun e=>e) c4) (And.intro (zj q (fun e=>e) c5) (zj q (fun e=>e) c6))))));clear c0 c1 c2 c3 c4 c5 c6;have PE:=ze (fun x (h:zbw C b u k=.error x)=>zf9 PA.out h C.length (by rw [CL.out];exact hlt));have PS:=ze (zg9 PA.out);have HAS:=ze (zmo (va:=ra2) (vn:=u.rules.length) (vc:=rc2) SU.out.ord k k rfl);by_cases hin:k∈u.order
    ·have e0:decide (k∈u.order)=true:=zqY hin
     rw [e0] at HAS;have PN:=ze (show YJ C b s (k+1)=.ok u by rw [PS.out,zlw hin]);clear e0 hin CELLS hca;go_wp2_with fail;(with_reducible refine HAS.out.mono ?_);rintro e w3 ⟨rfl,k3⟩;have S3:=ze (SU.out.chg0 k3);have K3:=ze (KQ.out.trans k3);clear k3 HAS;go_wp2;go_roundw
     case rel=>exact ⟨k+1,u,oa2,ra2,oc2,rc2,by omega,by go_num,ze ⟨S3.out,K3.out,UI.out,PN.out⟩⟩
     case measure=>simp [intOf];omega
    have e0:decide (k∈u.order)=false:=zqZ hin;rw [e0] at HAS;have SERR:=ze (zja (b:=b) hin HP.out);have SNO:=ze (zlv (b:=b) hin HP.out);have SYES:=ze (zi9 (b:=b) hin HP.out);have hcz:=CS.out c (zq2 HP.out);have hcf:=(CBL.out c (zq2 HP.out)).2;have FU:=ze (FEW.out _ UI.out);have BK:=ze (fun w5 (q:Chg (fun _=>False) w w5) (hw:w5.ownsRow w.heap.size 66 2 (.slice ra2 u.rules.length rc2) u.rules.length (zD u.rules))=>zin w5 ra2 u.rules rc2 b c sa sc G (ZT hw (fun r hr=>by have:=FU.out.2 r hr;unfold maxLen at *;omega)) (.inl ⟨FU.out.1,fun r hr=>(FU.out.2 r hr).1⟩) (F47.out _ UI.out) (hca.chg q (fun _ _ e=>e)) hcz.1 hcz.2);have CR:=ze (fun w5 (q:Chg (fun _=>False) w w5)=>zkb w5 c sa sc G (hca.chg q (fun _ _ e=>e)) (by omega));have CRS:=ze (show (yr c).length=c.fr.length from zaE c);have BKE:=ze (show zeG u.rules b c=xJ u.rules b c from if_pos (CBY.out c (zq2 HP.out)));rw [BKE.out] at BK;unfold zeS at BK;generalize xJ u.rules b c=res at *;generalize hcr:yr c=M at *;obtain ⟨r1,r2⟩:=res;obtain ⟨kind,sg,sp,fr,f,t,num⟩:=c;unfold xI at BK CR;simp only at CELLS BK CR SERR SNO SYES hcf CRS;have CELLS:=ze CELLS;clear e0 hin hca hcz HP hcr BKE;go_wp2_with fail;(with_reducible refine HAS.out.mono ?_);rintro e w3 ⟨rfl,k3⟩;have S3:=ze (SU.out.chg0 k3);have K3:=ze (KQ.out.trans k3);clear k3 HAS SU KQ b0 b1;obtain ⟨c0,c1,c2,c3,c4,c5,c6⟩:=CELLS.out w3 K3.out;have b1:=zf (o:=1) S3.out.obj rfl;go_wp2_with fail;refine zu (N:=101) [.rd [0,1,2,3,4,5,6],.ef 7,.rd [8,9,10,11,12]] (fun w'=>w'.cell? ⟨rb,1,none⟩=some (.slice ra2 u.rules.length rc2)∧w'.cell? ⟨g,o+k*7,none⟩=some (.int .i64 kind)∧w'.cell? ⟨g,o+k*7+1,none⟩=some (.int .u16 (sg:Int))∧w'.cell? ⟨g,o+k*7+2,none⟩=some (.string sp)∧w'.cell? ⟨g,o+k*7+3,none⟩=some (.slice sa fr.length sc)∧w'.cell? ⟨g,o+k*7+4,none⟩=some (.int .i64 f)∧w'.cell? ⟨g,o+k*7+5,none⟩=some (.int .i64 t)∧w'.cell? ⟨g,o+k*7+6,none⟩=some (.int .i64 num)) (by kernel_rfl) (by kernel_rfl) (by kernel_rfl) (by kernel_rfl) (Nat.le_of_ble_eq_true rfl) ⟨b1,c0,c1,c2,c3,c4,c5,c6⟩ ?_;refine zB (A:=?A1) ?h1 ?h2
    case h1=>
     rintro w' ⟨y0,z0,z1,z2,z3,z4,z5,z6⟩ K hK;simp only [zM,zqT,zqU,zqV,zqW,zqX]
     repeat still_step
     refine wpStill_nil ?_;exact hK
    clear b1 c0 c1 c2 c3 c4 c5 c6;have S4:=ze (S3.out.chg0 (zw (fun _=>False) w3));have K4:=ze (K3.out.drew);clear S3 K3;generalize w3.drew=w4 at *;have BK4:=ze (BK.out w4 K4.out S4.out.rul);clear BK;refine zI rfl ?_;go_wp2_with fail;(with_reducible refine BK4.out.mono ?_);rintro e w5 ⟨rfl,k5⟩;have S5:=ze (S4.out.chg0 k5);have K5:=ze (K4.out.trans k5);clear k5 S4 K4 BK4;obtain ⟨c0,c1,c2,c3,c4,c5,c6⟩:=CELLS.out w5 K5.out;have b1:=zf (o:=1) S5.out.obj rfl;go_wp2_with fail;refine ⟨⟨b1,c0,c1,c2,c3,c4,c5,c6⟩,?_⟩;refine zB (A:=?A2) ?h3 ?h4
    case h3=>
     rintro w' ⟨y0,z0,z1,z2,z3,z4,z5,z6⟩ K hK;simp only [zM,zqT,zqU,zqV,zqW,zqX]
     repeat still_step
     refine wpStill_nil ?_;exact hK
    refine zR ?_;clear b1 c0 c1 c2 c3 c4 c5 c6;by_cases he:r2=0
    rotate_left
    ·have g1:(r2 != 0)=true:=by rw [zre];exact he
     have AE:=ze (show r2≠0∧Zc R C b=.error r2 from ⟨he,WAY.out.err INV.out (PE.out _ (SERR.out he))⟩);have c0:=zf (o:=0) S5.out.res rfl;have c1:=zf (o:=1) S5.out.res rfl;have f0:=zm (o:=0) S5.out.res;have f1:=zm (o:=1) S5.out.res;clear he SERR SNO SYES PE PS CELLS CR;go_wp2;obtain ⟨W,hW⟩:∃ W,W=((w5.setCell ⟨w.heap.size,0,none⟩ (.slice none 0 0)).setCell ⟨w.heap.size,1,none⟩ (.slice none 0 0)):=⟨_,rfl⟩;obtain ⟨ob,k4⟩:=zd6 S5.out.res (.slice none 0 0) (.slice none 0 0) W hW;rw [<- hW];clear hW;have z0:W.cell? ⟨w.heap.size,0,none⟩=some (.slice none 0 0):=zf ob rfl;have z1:W.cell? ⟨w.heap.size,1,none⟩=some (.slice none 0 0):=zf ob rfl;refine bodyPost_ret (v:=.tuple #[.agg #[.slice none 0 0,.slice none 0 0],.int .i64 r2]) (by simp [results,Tryz.results21,go_sem,z0,z1]) rfl ?_;exact ⟨K5.out.next k4 (fun k hk e=>by omega),.inl ⟨r2,AE.out.1,AE.out.2,rfl⟩⟩
    subst he;have hul:u.order.length<=P.length:=by have:=yS UI.out.nd UI.out.lt;rw [CL.out] at this;exact this
    cases r1 with
    | false=>
     have PN:=ze (show YJ C b s (k+1)=.ok u by rw [PS.out,SNO.out rfl rfl]);clear SERR SNO SYES PE PS CELLS CR;go_wp2;go_roundw
     case rel=>exact ⟨k+1,u,oa2,ra2,oc2,rc2,by omega,by go_num,ze ⟨S5.out,K5.out,UI.out,PN.out⟩⟩
     case measure=>simp [intOf];omega
    | true=>
     have PN:=ze (show YJ C b s (k+1)=.ok ⟨u.order++[k],u.rules++M⟩ by rw [PS.out,SYES.out rfl rfl]);have UN:=ze (UI.out.step (SYES.out rfl rfl)).1;have MF:=ze (FEW.out _ UN.out);have hmf:u.rules.length+M.length<=400:=by have:=MF.out.1;simpa using this
     have b0:=zf (o:=0) S5.out.obj rfl;clear SERR SNO SYES PE PS;have hb5:=K5.out.size;go_wp2_with (at_builtin;refine Zd rfl (.tmp 81) (.tmp 83) 36 rfl 3 1 8 Tryz.underlying36 Tryz.elemInt' w.heap.size _ _ _ rfl (S5.out.ord.alloc _) _ [.int .i64 (k:Int)] 3 (0,0) rfl (zh _ _) rfl ?a1 ?a2 ?a3 ?a4 ?a5)
     case a1=>rfl
     case a2=>omega
     case a3=>unfold maxLen;omega
     case a4=>omega
     intro v6 w6 o6 g6;obtain ⟨a6,c6,rfl⟩:=zl o6;have k6:=(zi (fun j=>(Value.slice oa2 u.order.length oc2).ownBlock=some j) w5 (.cells #[.int .i64 (k:Int)] 3)).grown g6 (fun j hj _=>hj);have ob6:=k6.obj (fun e=>Yo S5.out.ord S5.out.obj (by decide) e) S5.out.obj;have d0:=zf (o:=0) ob6 rfl;have f0:=zm (o:=0) ob6;have s7:=S5.out.push (i:=k) (by rw [zhk,zq3];exact o6) k6 (fun j hj=>hj);rw [zq3] at s7;have S7:=ze s7;have K7:=ze ((K5.out.next k6 (fun j hj e=>by have:=(S5.out.ord.lt j e).1;omega)).next (zG w6 rb 0 (.slice a6 (u.order.length+1) c6)) (fun j hj e=>by have:=S5.out.lo.1;omega));clear ob6 o6 g6 k6 s7 S5 K5 b0;go_wp2_with fail;clear d0 f0;generalize w6.setCell ⟨rb,0,none⟩ (.slice a6 (u.order.length+1) c6)=w7 at *;obtain ⟨d0,d1,d2,d3,d4,d5,d6⟩:=CELLS.out _ K7.out;have x0:=zf (o:=1) S7.out.obj rfl;refine Zk (N:=101) [.rd [0,1,2,3,4,5],.ef 6,.ef 7,.ef 8,.ef 9] 9 (fun w'=>w'.cell? ⟨rb,1,none⟩=some (.slice ra2 u.rules.length rc2)∧w'.cell? ⟨g,o+k*7,none⟩=some (.int .i64 kind)∧w'.cell? ⟨g,o+k*7+1,none⟩=some (.int .u16 (sg:Int))∧w'.cell? ⟨g,o+k*7+2,none⟩=some (.string sp)∧w'.cell? ⟨g,o+k*7+3,none⟩=some (.slice sa fr.length sc)∧w'.cell? ⟨g,o+k*7+4,none⟩=some (.int .i64 f)∧w'.cell? ⟨g,o+k*7+5,none⟩=some (.int .i64 t)∧w'.cell? ⟨g,o+k*7+6,none⟩=some (.int .i64 num)) (by kernel_rfl) (by kernel_rfl) (by kernel_rfl) (by kernel_rfl) (by kernel_rfl) (Nat.le_of_ble_eq_true rfl) ⟨x0,d0,d1,d2,d3,d4,d5,d6⟩ ?_;refine xu (A:=?A3) ?h5 ?h6
     case h5=>
      rintro w' ⟨y0,z0,z1,z2,z3,z4,z5,z6⟩ K hK;simp only [zM,zqT,zqU,zqV,zqW,zqX]
      repeat still_step
      refine wpStill_nil ?_;exact hK
     clear x0 d0 d1 d2 d3 d4 d5 d6;have S8:=ze (S7.out.chg0 (zw (fun _=>False) w7));have K8:=ze (K7.out.drew);clear S7 K7;generalize w7.drew=w8 at *;have CR8:=ze (CR.out w8 K8.out);refine zJ rfl ?_;go_wp2_with fail;(with_reducible refine CR8.out.mono ?_);rintro e w9 ⟨v9,rfl,o9,k9⟩;obtain ⟨a9,c9,rfl⟩:=zl o9;have S9:=ze (S8.out.chg0 k9);have K9:=ze (K8.out.trans k9);have O9:=ze o9;obtain ⟨d0,d1,d2,d3,d4,d5,d6⟩:=CELLS.out _ K9.out;have x0:=zf (o:=1) S9.out.obj rfl;have hs9:=K9.out.size;clear o9 k9 S8 K8 CR8 CR;go_wp2_with fail;refine ⟨.inr ⟨x0,d0,d1,d2,d3,d4,d5,d6⟩,?_⟩;clear x0 d0 d1 d2 d3 d4 d5 d6;refine zJ rfl ?_;refine zV rfl (.tmp 87) (.tmp 92) 22 rfl 66 2 32 Tryz.underlying22 Tryz.elemRule w.heap.size _ u.rules.length (zD u.rules) rfl S9.out.rul a9 M.length c9 (zD M) rfl ?e1 ?e2 ?e3 ?e4 ?e5 ?e6 ?e7 ?enx
     case e1=>exact yt M
     case e2=>exact zaV (Xm O9.out (fun r hr=>by have:=MF.out.2 r (List.mem_append_right _ hr);unfold maxLen at *;omega))
     case e3=>intro e;subst e;exact zir O9.out
     case e4=>exact YO M
     case e5=>omega
     case e6=>unfold maxLen;omega
     case e7=>exact hs9
     intro v10 w10 o10 g10;obtain ⟨a10,c10,rfl⟩:=zl o10;have k10:Chg (fun j=>(Value.slice ra2 u.rules.length rc2).ownBlock=some j) w9 w10:=Chg.of_grown g10;have K10:=ze (K9.out.next k10 (fun j hj e=>by have:=(S9.out.rul.lt j e).1;omega));have s11:=S9.out.grow (M:=M) (by rw [zq3,yQ];exact o10) k10 (fun j hj=>hj);rw [zq3] at s11;have S11:=ze s11;have K11:=ze (K10.out.next (zG w10 rb 1 (.slice a10 (u.rules.length+M.length) c10)) (fun j hj e=>by have:=S9.out.lo.1;omega));have ob10:=k10.obj (fun q=>Yo S9.out.rul S9.out.obj (by decide) q) S9.out.obj;obtain ⟨d0,d1,d2,d3,d4,d5,d6⟩:=CELLS.out _ K10.out;have x0:=zf (o:=1) ob10 rfl;have y0:=zm (o:=1) ob10;clear o10 g10 k10 s11 ob10 S9 K9 K10 O9 CELLS;go_wp2_with fail;refine ⟨.inr ⟨x0,d0,d1,d2,d3,d4,d5,d6⟩,?_⟩;refine zJ rfl ?_;go_wp2_with fail;refine ⟨.inr ⟨x0,d0,d1,d2,d3,d4,d5,d6⟩,?_⟩;clear d0 d1 d2 d3 d4 d5 d6;refine zJ rfl ?_;refine ZR rfl 22 (.tmp 94) (.tmp 93) rfl rb 1 rfl (.slice a10 (u.rules.length+M.length) c10) rfl rfl rfl Tryz.sizeRulesS _ x0 y0 ?_;intro w11 hw11;rw [<- hw11] at S11 K11;clear hw11 x0 y0;refine ⟨.inl rfl,yA ?_⟩;go_wp2;go_roundw
     case rel=>exact ⟨k+1,⟨u.order++[k],u.rules++M⟩,a6,a10,c6,c10,by omega,by go_num,ze ⟨by
      show zbz w11 w.heap.size rb w.heap.size (u.rules++M) (u.order++[k]) a6 a10 c6 c10;have:=S11.out
      simpa [zbz] using this,K11.out,UN.out,PN.out⟩⟩
     case measure=>simp [intOf];omega
end Go.Proofs.YthdfplafihmejaaGreat
