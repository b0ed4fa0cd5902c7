/-
  Package word: within, Find, Swap (where they are asked right). Package reach: Counts, machine. Package reach: machine. Layer 11: single steps (plain).
-/
import Derived.Test.YthdfplafihmejaaGreatZtMMach1
import Derived.Test.YthdfplafihmejaaGreatZtRPlain
import Derived.Test.YthdfplafihmejaaGreatZtKit2
import Derived.WalkLawsBesides
import Derived.WalkSpells
import Derived.Test.YthdfplafihmejaaGreatZtCMap
import Derived.Laws.NewBlocks
import Derived.Laws.OwnMore
import Derived.Laws.MakeOwn
namespace Go.Proofs.YthdfplafihmejaaGreat
open Go.RowKit
theorem zjV (w:World) (s:ByteArray) (a n:Nat) (hs:s.size<=maxLen) (h:a+n<=zz s.data.toList):
  Calls Tryz.prog 148 #[.string s,.int .i64 a,.int .i64 n] w fun e w'=>e=.returned (.bool true)∧w=w':=by
 have LEN:=ze (fun w=>ZO w s hs);have hl:zz s.data.toList<=4611686018427387904:=by unfold maxLen at hs;unfold zz;rw [zA];omega
 generalize zz s.data.toList=N at *;have g1:decide ((0:Int)<=(a:Int))=true:=by rw [decide_eq_true_eq];omega
 have g2:decide ((0:Int)<=(n:Int))=true:=by rw [decide_eq_true_eq];omega
 have g3:decide (a<=N)=true:=by rw [decide_eq_true_eq];omega
 have g4:decide ((n:Int)<=(N:Int) - (a:Int))=true:=by rw [decide_eq_true_eq];omega
 clear hs;go_enter Tryz.func148,Tryz.ntmps148;go_wp2_with fail;refine (LEN.out _).mono ?_;rintro e w' ⟨rfl,rfl⟩;go_wp2_with fail;refine (LEN.out _).mono ?_;rintro e w' ⟨rfl,rfl⟩;go_wp2;go_ret;exact ⟨rfl,rfl⟩
theorem zqg {a b:ByteArray} (h:a.data.toList=b.data.toList):a=b:=by
 cases a;cases b;simp at h;rw [h]
theorem zo4 (s v:ByteArray) (a n:Nat):s.extract 0 (2*a)++v++s.extract (2*(a+n)) s.size=⟨(yi s.data.toList a n v.data.toList).toArray⟩:=by
 apply zqg;unfold yi;simp only [ByteArray.data_append,ByteArray.data_extract,Array.toList_append,Array.toList_extract,List.extract_eq_take_drop,List.drop_zero,Nat.sub_zero];rw [List.take_of_length_le (l:=s.data.toList.drop (2*(a+n))) (by rw [List.length_drop,zA];omega)]
set_option maxRecDepth 100000 in
theorem zh4 (w:World) (s v:ByteArray) (a n:Nat) (hs:s.size<=1000000) (hv:v.size<=1000000) (hs2:s.size % 2=0) (hv2:v.size % 2=0) (h:a+n<=zz s.data.toList) (h8:zz s.data.toList - n+zz v.data.toList<=8):
  Calls Tryz.prog 130 #[.string s,.int .i64 a,.int .i64 n,.string v] w fun e w'=>e=.returned (.tuple #[.string ⟨(yi s.data.toList a n v.data.toList).toArray⟩,.int .i64 0])∧ZJ w w':=by
 have O1:=ze (zfR w s (by unfold maxLen;omega) hs2);have O2:=ze (zfR w v (by unfold maxLen;omega) hv2);have WI:=ze (zjV w s a n (by unfold maxLen;omega) h);have L1:=ze (ZO w s (by unfold maxLen;omega));have L2:=ze (ZO w v (by unfold maxLen;omega));have hN:s.size=2*zz s.data.toList:=by unfold zz;rw [zA];omega
 have hM:v.size=2*zz v.data.toList:=by unfold zz;rw [zA];omega
 have EQ:=ze (zo4 s v a n);generalize zz s.data.toList=N at *;generalize zz v.data.toList=M at *;have g1:decide ((8:Int) < (N:Int) - (n:Int)+(M:Int))=false:=by rw [decide_eq_false_iff_not];omega
 go_enter Tryz.func130,Tryz.ntmps130;go_wp2_with fail;refine (O1.out).mono ?_;rintro e w' ⟨rfl,rfl⟩;go_wp2_with fail;refine (O2.out).mono ?_;rintro e w' ⟨rfl,rfl⟩;go_wp2_with fail;refine (WI.out).mono ?_;rintro e w' ⟨rfl,rfl⟩;go_wp2_with fail;refine (L1.out).mono ?_;rintro e w' ⟨rfl,rfl⟩;go_wp2_with fail;refine (L2.out).mono ?_;rintro e w' ⟨rfl,rfl⟩;go_wp2;have m1:IntKind.i64.wrap (2*(a:Int))=2*(a:Int):=by rw [IntKind.wrap_i64];omega
 have m2:IntKind.i64.wrap ((a:Int)+(n:Int))=(a:Int)+(n:Int):=by rw [IntKind.wrap_i64];omega
 have m3:IntKind.i64.wrap (2*((a:Int)+(n:Int)))=2*((a:Int)+(n:Int)):=by rw [IntKind.wrap_i64];omega
 have t1:(2*(a:Int)).toNat=2*a:=by omega
 have t2:(2*((a:Int)+(n:Int))).toNat=2*(a+n):=by omega
 have b1:0<=2*(a:Int):=by omega
 have b2:2*(a:Int)<=(s.size:Int):=by omega
 have b3:0<=2*((a:Int)+(n:Int)):=by omega
 have b4:2*((a:Int)+(n:Int))<=(s.size:Int):=by omega
 have z1:(s.extract 0 (2*a)).size<=1000000:=by rw [ByteArray.size_extract];omega
 have z2:(s.extract (2*(a+n)) s.size).size<=1000000:=by rw [ByteArray.size_extract];omega
 have z3:(s.extract 0 (2*a)++v).size<=2000000:=by rw [ByteArray.size_append];omega
 have y1:(s.extract 0 (2*a)).size+v.size<=9223372036854775807:=by omega
 have y2:(s.extract 0 (2*a)++v).size+(s.extract (2*(a+n)) s.size).size<=9223372036854775807:=by omega
 have y3:min (2*a) s.size+v.size<=9223372036854775807:=by omega
 have y4:min (2*a) s.size+v.size+(s.size - 2*(a+n))<=9223372036854775807:=by omega
 clear hN hM h h8 g1 hs hv hs2 hv2;go_quiet (fail);rename_i nq;go_wp2;go_ret2;exact ⟨congrArg (fun x=>Ending.returned (.tuple #[.string x,.int .i64 0])) EQ.out,nq,rfl⟩
def zco (w v:Wd) (i:Nat):Nat->Int
 | 0=>-1
 | f+1=>if (w.drop (2*i)).take v.length=v then i else zco w v (i+1) f
def xH (w v:Wd) (i:Nat):Int:=zco w v i (zz w+1 - zz v - i)
theorem zjB {w v:Wd} {i:Nat} (h:zz w < i+zz v):xH w v i=-1:=by
 unfold xH;rw [show zz w+1 - zz v - i=0 by omega];rfl
theorem zhs {w v:Wd} {i:Nat} (h:i+zz v<=zz w) (e:(w.drop (2*i)).take v.length=v):xH w v i=i:=by
 unfold xH;rw [show zz w+1 - zz v - i=(zz w - zz v - i)+1 by omega,zco,if_pos e]
theorem zfD {w v:Wd} {i:Nat} (h:i+zz v<=zz w) (e:¬ (w.drop (2*i)).take v.length=v):xH w v i=xH w v (i+1):=by
 unfold xH;rw [show zz w+1 - zz v - i=(zz w+1 - zz v - (i+1))+1 by omega,zco,if_neg e]
theorem zeB (w v:Wd):∀ (f i:Nat),zco w v i f=-1∨(i:Int)<=zco w v i f
 | 0,i=>.inl rfl
 | f+1,i=>by
  unfold zco;split
  ·exact .inr (Int.le_refl _)
  ·rcases zeB w v f (i+1) with h | h
   ·exact .inl h
   ·exact .inr (by omega)
theorem zmA {w v:Wd} {i:Nat}:xH w v i=i↔i+zz v<=zz w∧(w.drop (2*i)).take v.length=v:=by
 constructor
 ·intro h
  by_cases h1:i+zz v<=zz w
  ·refine ⟨h1,?_⟩
   by_cases h2:(w.drop (2*i)).take v.length=v
   ·exact h2
   ·rw [zfD h1 h2] at h
    have:=zeB w v (zz w+1 - zz v - (i+1)) (i+1);unfold xH at h;omega
  ·rw [zjB (by omega)] at h
   omega
 ·rintro ⟨h1,h2⟩
  exact zhs h1 h2
theorem zom (s v:ByteArray) (i:Nat):((s.extract (2*i) (2*i+v.size)).toList == v.toList)=decide ((s.data.toList.drop (2*i)).take v.data.toList.length=v.data.toList):=by
 rw [zqf,Bool.eq_iff_iff,beq_iff_eq,decide_eq_true_eq]
open Go.Maps
abbrev zF:=ByteArray × ByteArray
def Zw (r:zF):Rul:=(r.1.data.toList,r.2.data.toList)
def zgU (r:zF):Value:=.agg #[.string r.1,.string r.2]
def zX (w:World) (v:Value) (G:Nat->Prop) (R:List zF):Prop:=
 ∃ la cap,v=.slice la R.length cap∧R.length<=maxLen∧∀ (j:Nat) r,R[j]? = some r->∃ lb lo,la=some ⟨lb,lo,none⟩∧G lb∧w.cell? ⟨lb,lo+j*2,none⟩=some (.string r.1)∧w.cell? ⟨lb,lo+j*2+1,none⟩=some (.string r.2)∧r.1.size<=maxLen∧r.2.size<=maxLen
theorem zX.chg {S:Nat->Prop} {w w':World} {v:Value} {G:Nat->Prop} {R:List zF} (h:zX w v G R) (hc:Chg S w w') (hs:∀ k,G k->¬ S k):zX w' v G R:=by
 obtain ⟨la,cap,h1,h2,h3⟩:=h;exact ⟨la,cap,h1,h2,fun j r hj=>by obtain ⟨lb,lo,q1,q2,q3,q4,q5⟩:=h3 j r hj;exact ⟨lb,lo,q1,q2,zj hc (hs lb q2) q3,zj hc (hs lb q2) q4,q5⟩⟩
set_option maxRecDepth 100000 in
theorem zc2 (w:World) (r:zF) (h1:r.1.size<=maxLen) (h2:r.2.size<=maxLen):
  Calls Tryz.prog 128 #[zgU r] w fun e w'=>e=.returned (.bool (Zx (Zw r)))∧Chg (fun _=>False) w w':=by
 obtain ⟨a,b⟩:=r;simp only at h1 h2;have MA:=ze (fun w=>zi0 w a h1);have MB:=ze (fun w=>zi0 w b h2);have LA:=ze (fun w=>ZO w a h1);have LB:=ze (fun w=>ZO w b h2);have CB:=ze (show Zx (Zw (a,b))=(Zp a.data.toList && Zp b.data.toList && decide (zz b.data.toList<=zz a.data.toList)) from rfl);clear h1 h2;unfold zgU;simp only;generalize zz a.data.toList=N at *;generalize zz b.data.toList=M at *;cases ha:Zp a.data.toList with
 | false=>
  rw [ha] at MA CB;clear ha;go_enter Tryz.func128,Tryz.ntmps128;go_wp2_with fail;go_quiet ((go_at_call 49;exact yK (fun n=>MA.out _)));rename_i nq;go_wp2;go_ret;exact ⟨by rw [CB.out];rfl,(zi _ w _).drewN nq⟩
 | true=>
  rw [ha] at MA CB;clear ha;cases hb:Zp b.data.toList with
  | false=>
   rw [hb] at MB CB;clear hb;go_enter Tryz.func128,Tryz.ntmps128;go_wp2_with fail;go_quiet ((go_at_call 49;(first | with_reducible exact yK (fun n=>MA.out _) | with_reducible exact yK (fun n=>MB.out _))));rename_i nq;go_wp2;go_ret;exact ⟨by rw [CB.out];rfl,(zi _ w _).drewN nq⟩
  | true=>
   rw [hb] at MB CB;clear hb;cases hl:decide (M<=N) with
   | false=>
    rw [hl] at CB;go_enter Tryz.func128,Tryz.ntmps128;go_wp2_with fail;go_quiet ((first | (go_at_call 49;(first | with_reducible exact yK (fun n=>MA.out _) | with_reducible exact yK (fun n=>MB.out _))) | (go_at_call 80;(first | with_reducible exact YP (fun n=>LA.out _) | with_reducible exact YP (fun n=>LB.out _)))));rename_i nq;go_wp2;go_ret;exact ⟨by rw [CB.out];rfl,(zi _ w _).drewN nq⟩
   | true=>
    rw [hl] at CB;go_enter Tryz.func128,Tryz.ntmps128;go_wp2_with fail;go_quiet ((first | (go_at_call 49;(first | with_reducible exact yK (fun n=>MA.out _) | with_reducible exact yK (fun n=>MB.out _))) | (go_at_call 80;(first | with_reducible exact YP (fun n=>LA.out _) | with_reducible exact YP (fun n=>LB.out _)))));rename_i nq;go_wp2;go_ret;exact ⟨by rw [CB.out];rfl,(zi _ w _).drewN nq⟩
def zba:ByteArray:=⟨#[]⟩
def XJ (R:List zF):List ByteArray:=R.map fun r=>if Zx (Zw r) then r.1 else zba
theorem zho (R:List zF):ZC (XJ R)=yW (R.map Zw):=by
 unfold ZC XJ yW;rw [List.map_map,List.map_map];apply List.map_congr_left;intro r _;simp only [Function.comp];split <;> simp [Zw,zba, *]
theorem xX (R:List zF):(XJ R).length=R.length:=by simp [XJ]
theorem zgg (z:Value) (n:Nat):madeCells #[z] n=(zoC n z).toArray:=by
 unfold madeCells zoC;apply Array.ext
 ·simp
 ·intro i h1 h2;simp [Nat.mod_one]
theorem Tryz.makeWords (w:World) (n:Nat) (hn:n<=1000):(Instr.makeSlice 25 (.int .i64 n) (.int .i64 n)).run Tryz.prog w=.ok (.slice (some ⟨w.heap.size,0,none⟩) n n) (w.alloc (.cells (zoC n (.string zba)).toArray 57)):=by
 obtain ⟨i,hi,hz0,hz1,hz2⟩:=info_parts (show (Tryz.prog.info? 57).map (fun i=>(i.zero,i.size,i.bytes))=some (some (.string zba),1,16) by kernel_rfl);have:=run_make (P:=Tryz.prog) w 25 57 i _ Tryz.underlying25 hi hz0 .i64 .i64 n n (by omega) (by omega) (by rw [hz2];omega) (by omega);rw [this,hz1];simp only [Int.toNat_natCast,Value.cells,Nat.mul_one];rw [zgg]
def xn (R:List zF) (k:Nat):List ByteArray:=(XJ R).take k++List.replicate (R.length - k) zba
theorem ziD (R:List zF):xn R R.length=XJ R:=by
 unfold xn;rw [List.take_of_length_le (by rw [xX];omega),Nat.sub_self];simp
theorem zdk (R:List zF) (k:Nat) (hk:k < R.length):xn R (k+1)=(xn R k).set k (if Zx (Zw R[k]) then R[k].1 else zba):=by
 have hl:((XJ R).take k).length=k:=by rw [zq5,xX];omega
 have hg:(XJ R)[k]? = some (if Zx (Zw R[k]) then R[k].1 else zba):=by
  unfold XJ;rw [zrb,zq0 hk];rfl
 unfold xn;rw [List.set_append_right _ _ (by omega),hl,Nat.sub_self,show R.length - k=(R.length - (k+1))+1 by omega,List.replicate_succ,List.set_cons_zero,zri,hg,List.append_assoc];rfl
theorem zhp (R:List zF) (k:Nat) (hk:k < R.length) (h:Zx (Zw R[k])=false):xn R (k+1)=xn R k:=by
 rw [zdk R k hk,h];have hl:((XJ R).take k).length=k:=by rw [zq5,xX];omega
 unfold xn;rw [List.set_append_right _ _ (by omega),hl,Nat.sub_self,show R.length - k=(R.length - (k+1))+1 by omega,List.replicate_succ,List.set_cons_zero];rfl
theorem zjY (l:List ByteArray) (k:Nat) (x:ByteArray):(zK l).set k (.string x)=zK (l.set k x):=by unfold zK;rw [List.map_set]
theorem Yw.base {w:World} {base base' L:Nat} {mv:Value} {f:Nat->Option Nat} (h:Yw w base L mv f) (hb:base'<=base):Yw w base' L mv f:=by
 rcases h with h | ⟨bm,n,D,rfl,h1,r⟩
 ·exact .inl h
 ·exact .inr ⟨bm,n,D,rfl,by omega,r⟩
theorem zmf {w:World} {base base':Nat} {B:MB} {cs:List (Value × Value)} {ps:List (List Nat)} {wh:List Nat->List Nat} (h:Zf w base B cs ps wh) (hb:base'<=base):Zf w base' B cs ps wh:=
 ⟨h.hb,ZP h.hg hb,h.len,fun k p c hp hc=>(h.em k p c hp hc).base hb,fun k p c hp hc=>ZP (h.ew k p c hp hc) hb,h.ap,h.ag,h.bg,Nat.le_trans hb h.bb⟩
set_option maxHeartbeats 1600000 in
set_option maxRecDepth 100000 in
theorem ziw (w:World) (v:Value) (R:List zF) (hv:zX w v (· < w.heap.size) R) (hR:R.length<=400) (hs:∀ r∈R,r.1.size<=400):
  Calls Tryz.prog 157 #[v] w fun e w'=>∃ B cs,e=.returned (.pointer (some ⟨B.b,0,none⟩))∧Zf w' w.heap.size B cs (Zl (yW (R.map Zw)) (yW (R.map Zw)).length) (Zi (yW (R.map Zw)) (yW (R.map Zw)).length)∧Chg (fun _=>False) w w':=by
 obtain ⟨la,cap,rfl,_,hl3⟩:=hv;have HL3:=ze hl3;have HS:=ze hs;clear hl3 hs;have hmk:=Tryz.makeWords w R.length (by omega)
 have O1:=ze (show (w.alloc (.cells (zoC R.length (.string zba)).toArray 57)).ownsRow w.heap.size 57 1 (.slice (some ⟨w.heap.size,0,none⟩) R.length R.length) R.length (zK (xn R 0)) by
  have:=World.ownsRow_lit (base:=w.heap.size) (e:=57) (size:=1) w (zoC R.length (.string zba)).toArray R.length (zrj _) (by unfold maxLen;omega) (by simp [zij])
  have e:(zoC R.length (.string zba)).toArray.toList=zK (xn R 0):=by
   unfold xn zK zoC;simp
  rw [e] at this;exact this)
 have FL:=ze (show ∀ k,k < R.length->∃ a b lb lo,R[k]? = some (a,b)∧la=some ⟨lb,lo,none⟩∧lb < w.heap.size∧w.cell? ⟨lb,lo+k*2,none⟩=some (.string a)∧w.cell? ⟨lb,lo+k*2+1,none⟩=some (.string b)∧a.size<=maxLen∧b.size<=maxLen from fun k hk=>by
  obtain ⟨lb,lo,q⟩:=HL3.out k _ (zq0 hk);exact ⟨_,_,lb,lo,zq0 hk,q⟩)
 clear HL3;go_enter Tryz.func157,Tryz.ntmps157;go_wp2;clear hmk;go_loopw [11] (fun iv wr=>∃ k:Nat,k<=R.length∧iv=.int .i64 k∧Hid (Chg (fun _=>False) w wr∧wr.ownsRow w.heap.size 57 1 (.slice (some ⟨w.heap.size,0,none⟩) R.length R.length) R.length (zK (xn R k)))) (fun iv _=>R.length - (intOf iv).toNat)
 case atStart=>exact ⟨0,by omega,rfl,ze ⟨zi _ _ _,O1.out⟩⟩
 case round=>
  obtain ⟨k,hk,rfl,HR⟩:=hrel;by_cases hlt:k < R.length
  ·obtain ⟨hc,ho⟩:=HR.out
   obtain ⟨a,b,lb,lo,hg,rfl,hlb,ca,cb,ha,hb⟩:=FL.out k hlt;have c0:=zj hc (fun e=>e) ca;have c1:=zj hc (fun e=>e) cb;have CO:=ze (zc2 (wr.alloc (.cells #[.string a,.string b] 66)) (a,b) ha hb);have hgk:R[k]=(a,b):=by rw [zq0 hlt] at hg;exact Option.some.inj hg
   have HC:=ze (hc.alloc (.cells #[.string a,.string b] 66));have HO:=ze (ho.alloc (.cells #[.string a,.string b] 66));have SU:=ze (zdk R k hlt);have SA:=ze (zhp R k hlt);rw [hgk] at SU SA;have hwr:w.heap.size<=wr.heap.size:=hc.size;have e0:(wr.alloc (.cells #[.string a,.string b] 66)).heap[wr.heap.size]? = some (.cells #[.string a,.string b] 66 (0,0)):=zh _ _;have E0:=ze e0;clear HR hc ho hg hgk ca cb ha hb e0;unfold zgU at CO;simp only at CO;cases hcb:Zx (Zw (a,b)) with
   | false=>
    rw [hcb] at CO;have SA2:=ze (SA.out hcb);clear hcb SU SA;go_wp2_with fail;(with_reducible refine CO.out.mono ?_);rintro e w2 ⟨rfl,k2⟩;have K2:=ze (HC.out.trans k2);have O2:=ze (zn HO.out k2 (fun _ _ e=>e));clear k2;go_wp2;go_roundw
    case rel=>exact ⟨k+1,by omega,by go_num,ze ⟨K2.out,by rw [SA2.out];exact O2.out⟩⟩
    case measure=>simp [intOf];omega
   | true=>
    rw [hcb] at CO SU;clear hcb SA;go_wp2_with fail;(with_reducible refine CO.out.mono ?_);rintro e w2 ⟨rfl,k2⟩;have K2:=ze (HC.out.trans k2);have o2:=zn HO.out k2 (fun _ _ e=>e);have b2:=k2.obj (fun e=>e) E0.out;have d0:w2.cell? ⟨wr.heap.size,0,none⟩=some (.string a):=zf b2 rfl;have d1:=o2.cellAt k (by omega);have hxl:=o2.1;rw [zq0 (by omega)] at d1;generalize (zK (xn R k))[k]=u at d1;have f1:=o2.frozenAt k;have ST:=ze (o2.stored k (.string a));clear k2 o2 b2 hxl;go_wp2;go_roundw
    case rel=>exact ⟨k+1,by omega,by go_num,ze ⟨K2.out.grown ST.out.2 (fun x hx hlt=>by cases hx;omega),by rw [SU.out];simp only [if_true];rw [<- zjY];exact ST.out.1⟩⟩
    case measure=>simp [intOf];omega
  ·obtain rfl:k=R.length:=by omega
   obtain ⟨hc,ho⟩:=HR.out;rw [ziD] at ho;have hfl:(XJ R).length=R.length:=xX R
   have hf4:∀ x∈XJ R,x.size<=400:=fun x hx=>by
    unfold XJ at hx;rw [List.mem_map] at hx;obtain ⟨r,hr,rfl⟩:=hx;split
    ·exact HS.out r hr
    ·unfold zba;decide
   have NEW:=ze (zpp wr (.slice (some ⟨w.heap.size,0,none⟩) R.length R.length) (XJ R) (zhW (by rw [hfl];exact ho) hf4) (by omega) hf4);have FE:=ze (zho R);have FLN:=ze (show (yW (R.map Zw)).length=R.length by rw [yd,zq4]);have FBL:=ze hfl;have HC:=ze hc;clear HR hc ho hfl hf4;go_wp2_with fail;(with_reducible refine NEW.out.mono ?_);rintro e w2 ⟨B,cs,rfl,_,m2,k2⟩;have M2:=ze m2;have K2:=ze k2;clear m2 k2;go_wp2;go_ret;refine ⟨B,cs,rfl,?_,HC.out.trans K2.out⟩;have:=M2.out;rw [FE.out,FBL.out] at this;rw [FLN.out];exact zmf this HC.out.size
def zld (R:List Rul) (w:Wd) (x:Int × Int):Prop:=0<=x.2∧x.2 < R.length∧Zx (yp R x.2.toNat)=true∧0<=x.1∧x.1+zz (yp R x.2.toNat).1<=zz w∧(w.drop (2*x.1.toNat)).take (yp R x.2.toNat).1.length=(yp R x.2.toNat).1
instance (R:List Rul) (w:Wd) (x:Int × Int):Decidable (zld R w x):=by unfold zld;infer_instance
def Ym (R:List Rul) (w:Wd) (x:Int × Int):Option Wd:=if zld R w x then some (zeY R w (x.1.toNat,x.2.toNat)) else none
def Xj (R:List Rul) (w:Wd):List (Int × Int)->Option Wd
 | []=>some w
 | x :: t=>match Ym R w x with
  | none=>none
  | some u=>Xj R u t
theorem zaS {R:List Rul} {w:Wd} {a k:Nat}:zld R w ((a:Int),(k:Int))↔(a,k)∈zhl (yW R) w:=by
 unfold zld zhl;rw [Xd,yd,zcn];simp only [Int.toNat_natCast];constructor
 ·rintro ⟨_,h2,h3,_,h5,h6⟩
  have hm:=((Xf _).1 h3).1;have hp:=xj hm;have hl:(yp R k).1.length=2*zz (yp R k).1:=by unfold zz;omega
  refine ⟨by omega,by omega,?_⟩;rw [h3,if_pos rfl];exact (YB _ _ _).2 ⟨hm,by omega,h6⟩
 ·rintro ⟨h1,h2,h3⟩
  cases hc:Zx (yp R k) with
  | false=>
   rw [hc] at h3;have:=(xj ((YB _ _ _).1 h3).1).1;simp at this
  | true=>
   rw [hc,if_pos rfl] at h3;obtain ⟨q1,q2,q3⟩:=(YB _ _ _).1 h3;have hp:=xj q1;have hl:(yp R k).1.length=2*zz (yp R k).1:=by unfold zz;omega
   exact ⟨by omega,by omega,rfl,by omega,by omega,q3⟩
theorem zdS (R:List Rul):∀ (l:List (Nat × Nat)) (w:Wd),Xj R w (l.map fun h=>((h.1:Int),(h.2:Int)))=zcI R w l
 | [],w=>rfl
 | (a,k) :: t,w=>by
  simp only [List.map_cons,Xj,zcI,Ym];by_cases h:(a,k)∈zhl (yW R) w
  ·rw [if_pos h,if_pos (zaS.2 h)]
   simp only [Int.toNat_natCast];exact zdS R t _
  ·rw [if_neg h,if_neg (fun q=>h (zaS.1 q))]
theorem zd1 {R:List Rul} {w u:Wd} {x:Int × Int} (hw:Zp w=true) (h:Ym R w x=some u):Zp u=true∧u.length<=w.length:=by
 unfold Ym at h;split at h
 ·rename_i hs
  cases h;obtain ⟨h1,h2,h3,h4,h5,h6⟩:=hs;obtain ⟨k1,k2,k3⟩:=(Xf _).1 h3;have p1:=xj k1;have p2:=xj k2;obtain ⟨q1,q2⟩:=zi7 hw k2 (a:=x.1.toNat) (n:=zz (yp R x.2.toNat).1) (by omega) k3;refine ⟨q1,?_⟩;show (yi _ _ _ _).length<=_;rw [q2];unfold zz at k3 h5 ⊢;omega
 ·cases h
theorem zfe (R:List Rul):∀ (l:List (Int × Int)) (w:Wd) (x:Int × Int),Xj R w (l++[x])=(Xj R w l).bind (fun u=>Ym R u x)
 | [],w,x=>by
  simp only [List.nil_append,Xj,Option.bind_some];cases Ym R w x <;> rfl
 | y :: t,w,x=>by
  simp only [List.cons_append,Xj];cases Ym R w y with
  | none=>rfl
  | some u=>exact zfe R t u x
theorem zad (R:List Rul):∀ (l m:List (Int × Int)) (w:Wd),Xj R w l=none->Xj R w (l++m)=none
 | [],m,w,h=>by cases h
 | y :: t,m,w,h=>by
  simp only [List.cons_append,Xj] at h ⊢;cases hs:Ym R w y with
  | none=>rfl
  | some u=>rw [hs] at h;exact zad R t m u h
theorem Yd {R:List Rul} {w:Wd} {x:Int × Int} (h:¬ (0<=x.2∧x.2 < R.length∧Zx (yp R x.2.toNat)=true)):Ym R w x=none:=if_neg (fun q=>h ⟨q.1,q.2.1,q.2.2.1⟩)
theorem zbD {R:List Rul} {w:Wd} {x:Int × Int} (h:¬ (0<=x.1∧x.1+zz (yp R x.2.toNat).1<=zz w∧(w.drop (2*x.1.toNat)).take (yp R x.2.toNat).1.length=(yp R x.2.toNat).1)):Ym R w x=none:=if_neg (fun q=>h q.2.2.2)
end Go.Proofs.YthdfplafihmejaaGreat
