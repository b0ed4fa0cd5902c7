/-
  Package proof: needed and its closure. Package proof: Cut's closure. Package proof: what Cut's walk leans on.
-/
import Derived.Test.YthdfplafihmejaaGreatZtQNum
import Derived.WalkMore
import Derived.StillTailTactics
namespace Go.Proofs.YthdfplafihmejaaGreat
open Go.RowKit Go.Maps
theorem zej {w:World} {base:Nat} {e:TypeId} {size n g:Nat} {xs:List Value} (h:w.ownsRow base e size (.slice (some ⟨g,0,none⟩) n n) n xs):w.heap[g]? = some (.cells xs.toArray e (0,0))∧base<=g∧n<=maxLen:=by
 obtain ⟨h1,⟨q,_⟩ | ⟨g',cap,cur,q,hg,hh,q1,q2,q3,q4⟩⟩:=h
 ·cases q
 ·cases q
  refine ⟨?_,hg,q2⟩;rw [hh];have:cur.toList=xs:=by rw [<- q4,List.take_of_length_le (by rw [Array.length_toList,q3];exact zrj _)]
  rw [<- this,Array.toArray_toList]
structure zaL (w:World) (bn bd gn:Nat) (roots:Int) (ba:Option Addr) (bc base:Nat) (B:List Nat) (need:List Bool):Prop where
 on:w.heap[bn]? = some (.cells #[.int .i64 roots,.slice ba B.length bc] 217 (0,0))
 od:w.heap[bd]? = some (.cells #[.slice (some ⟨gn,0,none⟩) need.length need.length] 145 (0,0))
 nd:w.heap[gn]? = some (.cells (need.map Value.bool).toArray 4 (0,0))
 row:w.ownsRow base 3 1 (.slice ba B.length bc) B.length (Yj B)
theorem zaL.chg {w w':World} {bn bd gn:Nat} {roots:Int} {ba:Option Addr} {bc base:Nat} {B:List Nat} {need:List Bool} (h:zaL w bn bd gn roots ba bc base B need) (k:Chg (fun _=>False) w w'):zaL w' bn bd gn roots ba bc base B need:=
 ⟨k.obj (fun e=>e) h.on,k.obj (fun e=>e) h.od,k.obj (fun e=>e) h.nd,zn h.row k (fun _ _ e=>e)⟩
theorem zaL.set {w:World} {bn bd gn i:Nat} {roots:Int} {ba:Option Addr} {bc base:Nat} {B:List Nat} {need:List Bool} (h:zaL w bn bd gn roots ba bc base B need):zaL (w.setCell ⟨gn,i,none⟩ (.bool true)) bn bd gn roots ba bc base B (need.set i true):=by
 have kc:=zG w gn i (.bool true);refine ⟨kc.obj (fun e=>zZ h.on h.nd (by decide) e) h.on,?_,?_,zn h.row kc (fun k hk e=>?_)⟩
 ·rw [List.length_set]
  exact kc.obj (fun e=>zZ h.od h.nd (by decide) e) h.od
 ·have:=zt (o:=i) h.nd (.bool true)
  rw [this]
  congr 2
  rw [List.map_set,List.setIfInBounds_toArray]
 ·obtain ⟨cs,q⟩:=zC h.row hk
  exact zZ q h.nd (by decide) e
def zm8 (roots:Int) (B:List Nat) (m:Nat) (l:zE):Prop:=∀ s∈l,zcE s.2∧(roots<=s.2->1<=B.countP (fun b=>decide (b<=(s.2 - roots).toNat)))∧∀ i,Xq roots B s.2=some i->i < m
theorem zdB {roots:Int} {C:List zq} {I:List zP} {k:Nat} {l:zE} (hf:xe l) (hs:yP roots (tot C I k) l=true) (hk:k<=I.length):zm8 roots (zN C I) I.length l:=fun s hsl=>by
 have h1:=zrh.1 hs s hsl;refine ⟨(hf s hsl).2,fun hr=>?_,fun i hi=>?_⟩
 ·have e:Xq roots (zN C I) s.2=some ((zN C I).countP (fun b=>decide (b<=(s.2 - roots).toNat)) - 1):=by
   unfold Xq;rw [if_neg (by omega)]
  exact (zjo h1 hk e).2
 ·have:=(zjo h1 hk hi).1
  omega
theorem zcy (C:List zq) (I:List zP):(zN C I).Pairwise (· <= ·):=by
 unfold zN yM;rw [List.pairwise_map];exact List.Pairwise.imp (fun h=>zbg C I (Nat.le_of_lt h)) List.pairwise_lt_range
theorem zkB {roots:Int} {B:List Nat} {need:List Bool} {l:zE} {k:Nat} {s:Int × Int} (h:l[k]? = some s):za3 roots B need (l.take (k+1))=zge roots B (za3 roots B need (l.take k)) s:=by
 unfold za3;rw [zri,h,List.foldl_append];rfl
theorem zkA {roots:Int} {B:List Nat} {need:List Bool} {ps:List zE} {k:Nat} {l:zE} (h:ps[k]? = some l):zds roots B need (ps.take (k+1))=za3 roots B (zds roots B need (ps.take k)) l:=by
 unfold zds;rw [zri,h,List.foldl_append];rfl
set_option maxHeartbeats 4000000 in
set_option maxRecDepth 100000 in
theorem zju (w:World) (bn bd gn:Nat) (roots:Int) (ba:Option Addr) (bc base:Nat) (B:List Nat) (need:List Bool) (sv:Value) (G:Nat->Prop) (l:zE) (h:zaL w bn bd gn roots ba bc base B need) (hl:Yl w sv G l) (hG:∀ k,G k->k≠gn) (ho:zm8 roots B need.length l) (hs:B.Pairwise (· <= ·)) (h0:0<=roots) (hB:0 < B.length) (hB2:B.length<=1000000):
  Calls Tryz.prog 161 #[sv,.pointer (some ⟨bn,0,none⟩),.pointer (some ⟨bd,0,none⟩)] w fun e w'=>e=.returned (.tuple #[])∧zaL w' bn bd gn roots ba bc base B (za3 roots B need l)∧Chg (fun k=>k=gn) w w':=by
 have HL:=ze hl;obtain ⟨la,cap,rfl,hl0,_⟩:=hl;unfold maxLen at hl0;have H0:=ze h;have HG:=ze hG;have HO:=ze ho;have HS:=ze hs;obtain ⟨T,hT⟩:∃ T:Nat->List Bool,T=fun k=>za3 roots B need (l.take k):=⟨_,rfl⟩;have T0:=ze (show T 0=need from by rw [hT];rfl);have TS:=ze (fun k (s:Int × Int) (hk:l[k]? = some s)=>show T (k+1)=zge roots B (T k) s from by rw [hT];exact zkB hk);have TL:=ze (fun k=>show (T k).length=need.length from by rw [hT];exact YD _ _ _ _);have TF:=ze (show za3 roots B need l=T l.length from by rw [hT];simp only [zrk]);rw [TF.out];clear hT h hG ho hs;go_enter Tryz.func161,Tryz.ntmps161;go_wp2;go_loopw [10] (fun iv wr=>∃ k:Nat,k<=l.length∧iv=.int .i64 k∧Hid (zaL wr bn bd gn roots ba bc base B (T k)∧Chg (fun k=>k=gn) w wr)) (fun iv _=>l.length - (intOf iv).toNat)
 case atStart=>exact ⟨0,by omega,rfl,ze ⟨by rw [T0.out];exact H0.out,Chg.refl _ _⟩⟩
 case round=>
  obtain ⟨k,hk,rfl,HI⟩:=hrel;have MA:=ze HI.out.1;have KC:=ze HI.out.2;clear HI;by_cases hlt:k < l.length
  ·obtain ⟨⟨at_,r⟩,hx⟩:∃ s,l[k]? = some s:=⟨_,zq0 hlt⟩
   obtain ⟨_,_,e1,_,hcl⟩:=HL.out.chg KC.out (fun k hk e=>HG.out k hk e);cases e1;obtain ⟨lb,lo,rfl,_,x0,x1⟩:=hcl k _ hx;obtain ⟨hfit,hpos,hlt2⟩:=HO.out _ (zq2 hx);simp only at x0 x1 hfit hpos hlt2;have E:=ze (TS.out k _ hx);have tl:=TL.out k;have LT2:=ze hlt2;have kb:=zi (fun _=>False) wr (.cells #[.int .i64 at_,.int .i64 r] 153);have MB:=ze (MA.out.chg kb);have KB:=ze (KC.out.trans (kb.mono (fun _ _ e=>e.elim)));have s1:=zf (o:=1) (zh wr (.cells #[.int .i64 at_,.int .i64 r] 153)) rfl;have n0:=zf (o:=0) MB.out.on rfl;have n1:=zf (o:=1) MB.out.on rfl;have OW:=zha (wr.alloc (.cells #[.int .i64 at_,.int .i64 r] 153)) roots r B ba bc base MB.out.row HS.out h0 hfit hB hB2 hpos;unfold zm9 at OW;have OW:=ze OW;clear hcl hx kb MA KC hpos hlt2 hfit;go_wp2_with fail;generalize wr.alloc (.cells #[.int .i64 at_,.int .i64 r] 153)=wa at *;(with_reducible refine OW.out.mono ?_);rintro e w5 (⟨i,hi,rfl,k5⟩ | ⟨hi,rfl,k5⟩)
   ·have M5:=ze (MB.out.chg k5)
    have K5:=ze (KB.out.trans (k5.mono (fun _ _ e=>e.elim)));have hin:=LT2.out i hi;have EE:=ze (show T (k+1)=(T k).set i true from by rw [E.out];unfold zge;simp only;rw [hi]);have c0:=zf (o:=0) M5.out.od rfl;have il:i < (T k).length:=by omega
    have c1:w5.cell? ⟨gn,i,none⟩=some (.bool ((T k)[i])):=zf (o:=i) M5.out.nd (by simp [il]);have f1:=zm (o:=i) M5.out.nd;have MN:=ze (M5.out.set (i:=i));have KN:=ze (K5.out.trans (zG w5 gn i (.bool true)));generalize (T k)[i]=old at c1;clear hi OW MB KB n0 n1 s1 M5 K5;go_wp2;go_roundw
    case rel=>exact ⟨k+1,by omega,by go_num,ze ⟨by rw [EE.out];exact MN.out,KN.out⟩⟩
    case measure=>simp [intOf];omega
   ·have M5:=ze (MB.out.chg k5)
    have K5:=ze (KB.out.trans (k5.mono (fun _ _ e=>e.elim)));have EE:=ze (show T (k+1)=T k from by rw [E.out];unfold zge;simp only;rw [hi]);clear hi OW MB KB n0 n1 s1;go_wp2;go_roundw
    case rel=>exact ⟨k+1,by omega,by go_num,ze ⟨by rw [EE.out];exact M5.out,K5.out⟩⟩
    case measure=>simp [intOf];omega
  ·obtain rfl:k=l.length:=by omega
   go_wp2;go_end0;exact ⟨rfl,MA.out,KC.out⟩
theorem zqc (n:Nat):(madeCells #[Value.bool false] n).toList=(List.replicate n false).map Value.bool:=by
 rw [za6];unfold xL;rw [List.map_replicate];apply List.ext_getElem?;intro i;rw [zrb,List.getElem?_replicate];by_cases h:i < n
 ·rw [List.getElem?_range h,if_pos h]
  simp
 ·rw [zrg (by rw [List.length_range];omega),if_neg h];rfl
def znb (w:World) (need:List Bool) (e:Ending) (w':World):Prop:=∃ g,e=.returned (.slice (some ⟨g,0,none⟩) need.length need.length)∧w'.heap[g]? = some (.cells (need.map Value.bool).toArray 4 (0,0))∧w.heap.size<=g∧Chg (fun _=>False) w w'
theorem ziQ {roots:Int} {B:List Nat} {I:List zP} {k:Nat} {x:zP} {nd:List Bool} (hx:I[k]? = some x) (hn:nd[k]? = some true):YG roots B I (k+1) nd=YG roots B I k (zds roots B nd x.paths):=by
 show YG roots B I k (zc5 roots B I nd k)=_
 congr 1
 unfold zc5;rw [hn];simp only;rw [hx]
theorem ziR {roots:Int} {B:List Nat} {I:List zP} {k:Nat} {nd:List Bool} (hn:nd[k]? = some false):YG roots B I (k+1) nd=YG roots B I k nd:=by
 show YG roots B I k (zc5 roots B I nd k)=_
 congr 1
 unfold zc5;rw [hn]
set_option maxHeartbeats 8000000 in
set_option maxRecDepth 100000 in
theorem zkz (w:World) (roots:Int) (ba:Option Addr) (bc base:Nat) (C:List zq) (iv sv:Value) (p:zL) (G:Nat->Prop) (hrow:w.ownsRow base 3 1 (.slice ba (zN C p.items).length bc) (zN C p.items).length (Yj (zN C p.items))) (hp:Zz w iv sv G p) (hG:∀ k,G k->k < w.heap.size) (hf:xz p) (hc:yF roots C p) (hI:p.items.length<=1000):
  Calls Tryz.prog 141 #[.agg #[.int .i64 roots,.slice ba (zN C p.items).length bc],.agg #[iv,sv]] w (znb w (xh roots (zN C p.items) p)):=by
 have HP:=ze hp;obtain ⟨ia,ic,rfl⟩:=hp.items.shape;obtain ⟨sa,sc,rfl⟩:=hp.steps.shape;have HG:=ze hG;have hBl:0 < (zN C p.items).length:=by rw [zaF];omega
 have hBl2:(zN C p.items).length<=1000000:=by rw [zaF];omega
 have OWS:=ze (zdB hf.steps hc.last (zrj _))
 have OWP:=ze (fun (k:Nat) x (hk:p.items[k]? = some x) (l:zE) (hl:l∈x.paths)=>show zm8 roots (zN C p.items) p.items.length l from by
  have h1:=hc.item k x hk;unfold zes at h1;rw [zrl,zrl] at h1;have hkl:=(zq1.1 hk).1;exact zdB ((hf.items x (zq2 hk)).2 l hl) (zrh.1 h1.2.2 l hl) (by omega))
 have SRT:=ze (zcy C p.items);have h0:=hc.root;have NB:=ze (show xh roots (zN C p.items) p=YG roots (zN C p.items) p.items p.items.length (za3 roots (zN C p.items) (List.replicate p.items.length false) p.steps) from rfl);have NL:=ze (zdg roots (zN C p.items) p);have ROW:=ze hrow;obtain ⟨B,hB⟩:∃ B:List Nat,B=zN C p.items:=⟨_,rfl⟩;rw [<- hB] at hBl hBl2 OWS OWP SRT NB NL ROW ⊢;clear hp hG hf hc hrow hB;generalize xh roots B p=res at *;have k1:=zi (fun _=>False) w (.cells #[.int .i64 roots,.slice ba B.length bc] 217);have k2:=zi (fun _=>False) (w.alloc (.cells #[.int .i64 roots,.slice ba B.length bc] 217)) (.cells #[.slice ia p.items.length ic,.slice sa p.steps.length sc] 83);have o2:=zh (w.alloc (.cells #[.int .i64 roots,.slice ba B.length bc] 217)) (.cells #[.slice ia p.items.length ic,.slice sa p.steps.length sc] 83);have z1:(w.alloc (.cells #[.int .i64 roots,.slice ba B.length bc] 217)).heap.size=w.heap.size+1:=zq8 _ _;rw [z1] at o2;have ON:=ze (k2.obj (fun e=>e) (zh w (.cells #[.int .i64 roots,.slice ba B.length bc] 217)));have OP:=ze o2;have K2:=ze (k1.trans k2);have hs2:((w.alloc (.cells #[.int .i64 roots,.slice ba B.length bc] 217)).alloc (.cells #[.slice ia p.items.length ic,.slice sa p.steps.length sc] 83)).heap.size=w.heap.size+2:=by rw [zq8,z1]
 have p0:((w.alloc (.cells #[.int .i64 roots,.slice ba B.length bc] 217)).alloc (.cells #[.slice ia p.items.length ic,.slice sa p.steps.length sc] 83)).cell? ⟨w.heap.size+1,0,none⟩=some (.slice ia p.items.length ic):=zf (o:=0) o2 rfl;obtain ⟨bi,hbi,hbz,hb1,hb2⟩:=Tryz.boolInfo;have HS2:=ze hs2;clear k1 k2 o2 z1 hs2;go_enter Tryz.func141,Tryz.ntmps141;go_wp2_with fail;go_step3;go_wp2_with (at_make;refine wpList_make_full _ rfl (.tmp 12) (.tmp 12) 145 rfl w.heap.size 4 bi (.bool false) 1 Tryz.underlying145 hbi hbz hb1 .i64 .i64 (p.items.length:Int) (p.items.length:Int) p.items.length rfl rfl rfl rfl ?b2 ?b3 ?b4 ?next)
 case b2=>rw [hb2];omega
 case b3=>unfold maxLen;omega
 case b4=>first | omega | (rw [HS2.out];omega)
 intro w4 own4 g4;have k4:=(Chg.of_grown g4).mono (T:=fun _=>False) (fun _ _ e=>by cases e);obtain ⟨hnd,_,_⟩:=zej own4;have hmb:=zqc p.items.length
 have hgs:w.heap.size+1+1 < w4.heap.size:=by
  have:=(own4.lt _ rfl).2;have e:=HS2.out;omega
 have K4:=ze (K2.out.trans k4);have ON4:=ze (k4.obj (fun e=>e) ON.out);have OP4:=ze (k4.obj (fun e=>e) OP.out)
 have ND4:=ze (show w4.heap[w.heap.size+1+1]? = some (.cells ((List.replicate p.items.length false).map Value.bool).toArray 4 (0,0)) from by
  rw [<- hmb]
  first | exact hnd | (have e:=HS2.out;rw [e] at hnd;exact hnd) | simpa using hnd)
 clear own4 g4 hnd hmb k4 K2 ON OP HS2 p0 hbi hbz hb1 hb2;have ka:=zi (fun _=>False) w4 (.cells #[.slice (some ⟨w.heap.size+1+1,0,none⟩) p.items.length p.items.length] 145)
 have MA:=ze (show zaL (w4.alloc (.cells #[.slice (some ⟨w.heap.size+1+1,0,none⟩) p.items.length p.items.length] 145)) w.heap.size w4.heap.size (w.heap.size+1+1) roots ba bc base B (List.replicate p.items.length false) from
  ⟨ka.obj (fun e=>e) ON4.out,by rw [List.length_replicate];exact zh _ _,ka.obj (fun e=>e) ND4.out,zn ROW.out (K4.out.trans ka) (fun _ _ e=>e)⟩)
 have KA:=ze (K4.out.trans ka);have OPA:=ze (ka.obj (fun e=>e) OP4.out);have q1:=zf (o:=1) OPA.out rfl;have MK:=zju (w4.alloc (.cells #[.slice (some ⟨w.heap.size+1+1,0,none⟩) p.items.length p.items.length] 145)) w.heap.size w4.heap.size (w.heap.size+1+1) roots ba bc base B (List.replicate p.items.length false) (.slice sa p.steps.length sc) G p.steps MA.out (HP.out.steps.chg KA.out (fun _ _ e=>e)).at_ (fun k hk e=>by have:=HG.out k hk;omega) (by rw [List.length_replicate];exact OWS.out) SRT.out h0 hBl hBl2;have MK:=ze MK;clear ka K4 ON4 OP4 ND4;go_wp2_with fail;generalize w4.alloc (.cells #[.slice (some ⟨w.heap.size+1+1,0,none⟩) p.items.length p.items.length] 145)=w5 at *;have GNE:=ze (show ∀ k,G k->k≠w.heap.size+1+1 from fun k hk e=>by have:=HG.out k hk;omega);have LOW:w.heap.size<=w.heap.size+1+1:=by omega
 have hpn:w.heap.size+1≠w.heap.size+1+1:=by omega
 have HPN:=ze hpn;clear hpn;generalize w4.heap.size=bd at *;generalize w.heap.size+1+1=gn at *;(with_reducible refine MK.out.mono ?_);rintro e w6 ⟨rfl,m6,k6⟩;have M6:=ze m6;have OP6:=ze (k6.obj HPN.out OPA.out);have KG6:=ze (show Chg (fun k=>k=gn) w5 w6 from k6);clear MK MA OPA q1 m6 k6;have q0:=zf (o:=0) OP6.out rfl;go_wp2_with fail;go_step3;go_wp2_with fail;clear q0;have START:=ze (show (za3 roots B (List.replicate p.items.length false) p.steps).length=p.items.length from by rw [YD,List.length_replicate]);go_loopw [7] (fun iv wr=>∃ (k:Nat) (nd:List Bool),k<=p.items.length∧iv=.int .i64 ((k:Int) - 1)∧Hid (zaL wr w.heap.size bd gn roots ba bc base B nd∧Chg (fun k=>k=gn) w6 wr∧nd.length=p.items.length∧res=YG roots B p.items k nd)) (fun iv _=>(intOf iv+1).toNat)
 case atStart=>exact ⟨p.items.length,_,zrj _,by first | rfl | simp,ze ⟨M6.out,Chg.refl _ _,START.out,NB.out⟩⟩
 case round=>
  obtain ⟨k,nd,hk,rfl,HI⟩:=hrel;have MA:=ze HI.out.1;have KC:=ze HI.out.2.1;have NDL:=ze HI.out.2.2.1;have RES:=ze HI.out.2.2.2;clear HI;cases k with
  | zero=>
   have g1:decide ((0:Int)<=((0:Nat):Int) - 1)=false:=zqZ (by omega);have g2:decide ((0:Int) <= -1)=false:=zqZ (by omega);have c0:=zf (o:=0) MA.out.od rfl;go_wp2;rw [Exit.noGoto_ret];go_ret;have e:res=nd:=RES.out;rw [e];exact ⟨gn,rfl,MA.out.nd,LOW,KA.out.next (KG6.out.trans KC.out) (fun i hi e=>by omega)⟩
  | succ k=>
   have e1:((k+1:Nat):Int) - 1=(k:Int):=by omega
   rw [e1];clear e1;have hkl:k < p.items.length:=hk;have hkn:k < nd.length:=by rw [NDL.out];exact hkl
   obtain ⟨x,hx⟩:∃ x,p.items[k]? = some x:=⟨_,zq0 hkl⟩;have g1:decide ((0:Int)<=(k:Int))=true:=zqY (by omega);have x1:IntKind.i64.wrap ((k:Int) - 1)=(k:Int) - 1:=by rw [IntKind.wrap_i64] <;> omega
   have c0:=zf (o:=0) MA.out.od rfl;obtain ⟨bq,hbq⟩:∃ bq,nd[k]? = some bq:=⟨_,zq0 hkn⟩;have c1:wr.cell? ⟨gn,k,none⟩=some (.bool bq):=zf (o:=k) MA.out.nd (by rw [zqV,zrb,hbq];rfl);have SKIP:=ze (fun (q:bq=false)=>show res=YG roots B p.items k nd from RES.out.trans (ziR (by rw [hbq,q])));have STEP:=ze (fun (q:bq=true)=>show res=YG roots B p.items k (zds roots B nd x.paths) from RES.out.trans (ziQ hx (by rw [hbq,q])));have OWX:=ze (OWP.out k x hx);have hkm:(k:Int) < (nd.length:Int):=by omega
   cases bq with
   | false=>
    have R:=ze (SKIP.out rfl);clear hbq SKIP STEP RES OWX hx;go_wp2;go_roundw
    case rel=>exact ⟨k,nd,by omega,by first | rfl | simp,ze ⟨MA.out,KC.out,NDL.out,R.out⟩⟩
    case measure=>simp [intOf]
   | true=>
    have R:=ze (STEP.out rfl);have K0:=ze (KA.out.next (KG6.out.trans KC.out) (fun i hi e=>by omega));obtain ⟨_,_,e1,_,hcl⟩:=HP.out.items;cases e1;obtain ⟨lb,lo,pv,rfl,_,i0,i1',hpa⟩:=hcl k _ hx;have i1:=zj K0.out (fun e=>e) i1';have hpl:=hpa.len;obtain ⟨pa,pc,rfl⟩:=hpa.shape;have q0:=zf (o:=0) (KC.out.obj HPN.out OP6.out) rfl;have HPA:=ze hpa;obtain ⟨cert,paths⟩:=x;simp only at i1 hpl HPA R OWX;clear hcl hbq SKIP STEP RES hx hpa i0 i1';go_wp2_with fail;clear q0 i1 c0 c1;obtain ⟨T,hT⟩:∃ T:Nat->List Bool,T=fun j=>zds roots B nd (paths.take j):=⟨_,rfl⟩;have T0:=ze (show T 0=nd from by rw [hT];rfl);have TS:=ze (fun j (l:zE) (hj:paths[j]? = some l)=>show T (j+1)=za3 roots B (T j) l from by rw [hT];exact zkA hj);have TL:=ze (fun j=>show (T j).length=p.items.length from by rw [hT];exact (zdi _ _ _ _).trans NDL.out);have TF:=ze (show zds roots B nd paths=T paths.length from by rw [hT];simp only [zrk]);rw [TF.out] at R;clear hT TF;go_loopw [39] (fun jv wr=>∃ j:Nat,j<=paths.length∧jv=.int .i64 j∧Hid (zaL wr w.heap.size bd gn roots ba bc base B (T j)∧Chg (fun k=>k=gn) w6 wr)) (fun jv _=>paths.length - (intOf jv).toNat)
    case atStart=>exact ⟨0,by omega,rfl,ze ⟨by rw [T0.out];exact MA.out,KC.out⟩⟩
    case round=>
     obtain ⟨j,hj,rfl,HJ⟩:=hrel;have MJ:=ze HJ.out.1;have KJ:=ze HJ.out.2;clear HJ;by_cases hjl:j < paths.length
     ·obtain ⟨l,hl⟩:∃ l,paths[j]? = some l:=⟨_,zq0 hjl⟩
      have KW:=ze (KA.out.next (KG6.out.trans KJ.out) (fun i hi e=>by omega));obtain ⟨_,_,e1,_,hcl⟩:=HPA.out.chg KW.out (fun _ _ e=>e);cases e1;obtain ⟨lb2,lo2,pv2,rfl,_,q0,hst⟩:=hcl j l hl;obtain ⟨qa,qc,rfl⟩:=hst.shape;have MK:=ze (zju wr w.heap.size bd gn roots ba bc base B (T j) (.slice qa l.length qc) G l MJ.out hst.at_ GNE.out (by rw [TL.out];exact OWX.out l (zq2 hl)) SRT.out h0 hBl hBl2);have E:=ze (TS.out j l hl);clear hcl hl hst;go_wp2_with fail;(with_reducible refine MK.out.mono ?_);rintro e w8 ⟨rfl,m8,k8⟩;have M8:=ze m8;have K8:=ze (KJ.out.trans k8);clear MK MJ KJ m8 k8 q0;go_wp2;go_roundw
      case rel=>exact ⟨j+1,by omega,by go_num,ze ⟨by rw [E.out];exact M8.out,K8.out⟩⟩
      case measure=>simp [intOf];omega
     ·obtain rfl:j=paths.length:=by omega
      go_wp2;go_roundw
      case rel=>exact ⟨k,_,by omega,by first | rfl | simp,ze ⟨MJ.out,KJ.out,TL.out _,R.out⟩⟩
      case measure=>simp [intOf]
def Zv (l:zE):List Value:=l.flatMap fun s=>[.int .i64 s.1,.int .i64 s.2]
theorem zcd (l:zE):(Zv l).length=l.length*2:=by
 induction l with
 | nil=>rfl
 | cons s l ih=>
  have:Zv (s :: l)=[.int .i64 s.1,.int .i64 s.2]++Zv l:=rfl;rw [this,zq3,ih,List.length_cons];simp;omega
theorem zbi:∀ {l:zE} {j:Nat} {s:Int × Int},l[j]? = some s->(Zv l)[j*2]? = some (.int .i64 s.1)∧(Zv l)[j*2+1]? = some (.int .i64 s.2)
 | s :: l,0,t,h=>by
  simp at h;subst h;exact ⟨rfl,rfl⟩
 | s :: l,j+1,t,h=>by
  have e:Zv (s :: l)=[.int .i64 s.1,.int .i64 s.2]++Zv l:=rfl;obtain ⟨h1,h2⟩:=zbi (l:=l) (j:=j) (by simpa using h);rw [e];refine ⟨?_,?_⟩
  ·rw [List.getElem?_append_right (by simp;omega),<- h1]
   congr 1
   simp;omega
  ·rw [List.getElem?_append_right (by simp;omega),<- h2]
   congr 1
   simp;omega
theorem zj6 (l:zE):∀ v∈Zv l,v.oneCell'=true:=by
 intro v hv;unfold Zv at hv;obtain ⟨s,_,hv⟩:=List.mem_flatMap.1 hv;simp only [List.mem_cons,List.not_mem_nil,or_false] at hv;rcases hv with rfl | rfl <;> rfl
theorem zfi:∀ {l:zE} {j:Nat} {s:Int × Int} (r:Int),l[j]? = some s->(Zv l).set (j*2+1) (.int .i64 r)=Zv (l.set j (s.1,r))
 | s :: l,0,t,r,h=>by
  simp at h;subst h;rfl
 | s :: l,j+1,t,r,h=>by
  have e:Zv (s :: l)=.int .i64 s.1 :: .int .i64 s.2 :: Zv l:=rfl;have e2:Zv ((s :: l).set (j+1) (t.1,r))=.int .i64 s.1 :: .int .i64 s.2 :: Zv (l.set j (t.1,r)):=rfl;rw [e,e2,<- zfi r (l:=l) (by simpa using h)];rw [show (j+1)*2+1=(j*2+1)+1+1 from by omega];rfl
theorem zaf {w:World} {base:Nat} {v:Value} {l:zE} (h:w.ownsRow base 153 2 v l.length (Zv l)):Yq w v (fun k=>v.ownBlock=some k) l:=by
 have h0:=h;obtain ⟨h1,⟨rfl,h2⟩ | ⟨g,cap,cur,rfl,hg,hh,q1,q2,q3,q4⟩⟩:=h
 ·refine ⟨⟨none,0,by rw [h2],by rw [h2];unfold maxLen;omega,fun j x hj=>?_⟩,fun n c e=>by cases e;exact ⟨rfl,rfl⟩⟩
  have:j < l.length:=(zq1.1 hj).1;omega
 ·refine ⟨⟨_,cap,rfl,by omega,fun j s hj=>?_⟩,fun n c e=>by cases e⟩
  have hjl:=(zq1.1 hj).1;obtain ⟨c1,c2⟩:=zbi hj;refine ⟨g,0,rfl,rfl,?_,?_⟩
  ·rw [Nat.zero_add,h0.cellAt (j:=j*2) (by omega)];exact c1
  ·rw [Nat.zero_add,h0.cellAt (j:=j*2+1) (by omega)];exact c2
theorem zlr {w:World} {la:Option Addr} {n cap:Nat} {G:Nat->Prop} {l:zE} (h:Yl w (.slice la n cap) G l):∀ (j:Nat) u,(Zv l)[j]? = some u->∃ g o,la=some ⟨g,o,none⟩∧w.cell? ⟨g,o+j,none⟩=some u:=by
 obtain ⟨la',cap',e,_,hc⟩:=h;cases e;intro j u hj;have hjl:=(zq1.1 hj).1;rw [zcd] at hjl;have hk:j / 2 < l.length:=by omega
 obtain ⟨s,hs⟩:∃ s,l[j / 2]? = some s:=⟨_,zq0 hk⟩;obtain ⟨g,o,e1,_,c0,c1⟩:=hc _ s hs;obtain ⟨q0,q1⟩:=zbi hs;refine ⟨g,o,e1,?_⟩;rcases Nat.mod_two_eq_zero_or_one j with z | z
 ·have e:j=j / 2*2:=by omega
  rw [e,q0] at hj;rw [e,<- Option.some.inj hj];exact c0
 ·have e:j=j / 2*2+1:=by omega
  rw [e,q1] at hj;rw [e,<- Option.some.inj hj,<- Nat.add_assoc];exact c1
theorem zhb {w:World} {base:Nat} {e:TypeId} {size n cap g:Nat} {xs:List Value} (h:w.ownsRow base e size (.slice (some ⟨g,0,none⟩) n cap) n xs) {i:Nat} (u:Value):(w.setCell ⟨g,i,none⟩ u).ownsRow base e size (.slice (some ⟨g,0,none⟩) n cap) n (xs.set i u):=by
 obtain ⟨h1,⟨q,_⟩ | ⟨g',cap',cur,q,hg,hh,q1,q2,q3,q4⟩⟩:=h
 ·cases q
 ·cases q
  refine ⟨by rw [List.length_set];exact h1,.inr ⟨g,cap,cur.setIfInBounds i u,rfl,hg,zt hh u,q1,q2,by rw [Array.size_setIfInBounds];exact q3,?_⟩⟩;rw [Array.toList_setIfInBounds,List.take_set,q4]
set_option maxRecDepth 100000 in
theorem zj5 (w:World) (ra:Option Addr) (l:zE) (rc:Nat) (G:Nat->Prop) (hv:Yq w (.slice ra l.length rc) G l) (hl:l.length<=1000000):
  Calls Tryz.prog 143 #[.slice ra l.length rc] w fun e w'=>∃ v,e=.returned v∧w'.ownsRow w.heap.size 153 2 v l.length (Zv l)∧Chg (fun _=>False) w w':=by
 have EQN:=fun w=>Lib.run_eql_slice_nil (P:=Tryz.prog) w 81 _ ra l.length rc 0 0 Tryz.underlying81;cases ra with
 | none=>
  obtain ⟨h0,rfl⟩:=hv.nil _ _ rfl;have:l=[]:=List.eq_nil_of_length_eq_zero h0;subst this;clear hv h0 hl;simp only [List.length_nil] at EQN ⊢;go_enter Tryz.func143,Tryz.ntmps143;go_wp2;go_ret;exact ⟨_,rfl,World.ownsRow_nil _ _ _ _,Chg.refl _ _⟩
 | some ad=>
  have SRC:=ze (zlr hv.at_);have ONE:=ze (zj6 l);have LEN:=ze (zcd l);clear hv;generalize Zv l=cells at *;go_enter Tryz.func143,Tryz.ntmps143;go_wp2_with (at_builtin;refine zV rfl (.tmp 5) (.tmp 6) 81 rfl 153 2 16 Tryz.underlying81 Tryz.elemStep w.heap.size _ 0 [] rfl (ZH _ _ _ _ (zrj _)) (some ad) l.length rc cells rfl ?a1 ?a2 ?a3 ?a4 ?a5 ?a6 ?a7 ?nx1)
  case a1=>exact LEN.out
  case a2=>
   intro j u hj;obtain ⟨g',o',e,c1⟩:=SRC.out j u hj;exact ⟨g',o',e,zj (zi (fun _=>False) w _) (fun e=>e) c1⟩
  case a3=>intro e;cases e
  case a4=>exact ONE.out
  case a5=>omega
  case a6=>unfold maxLen;omega
  case a7=>simp
  intro v8 w8 o8 g8;obtain ⟨a8,c8,rfl⟩:=zl o8
  have k8:Chg (fun _=>False) w w8:=(zi (fun _=>False) w (.cells #[] 153)).next (Chg.of_grown g8) (fun x hx e=>by
   have e2:w.heap.size=x:=by simpa [Value.ownBlock] using e
   omega)
  have K8:=ze k8;have O8:=ze (show w8.ownsRow w.heap.size 153 2 (.slice a8 (0+l.length) c8) l.length cells from by simpa using o8);clear o8 g8 k8;go_wp2;go_ret;exact ⟨_,rfl,(by have:=O8.out;rw [Nat.zero_add] at this;exact this),K8.out⟩
structure zfQ (w:World) (bn bg gg:Nat) (roots:Int) (ba:Option Addr) (bc base:Nat) (B:List Nat) (m:Nat) (gone:Nat->Nat):Prop where
 on:w.heap[bn]? = some (.cells #[.int .i64 roots,.slice ba B.length bc] 217 (0,0))
 og:w.heap[bg]? = some (.cells #[.slice (some ⟨gg,0,none⟩) m m] 36 (0,0))
 ce:∀ i,i < m->w.cell? ⟨gg,i,none⟩=some (.int .i64 (gone i:Int))
 row:w.ownsRow base 3 1 (.slice ba B.length bc) B.length (Yj B)
theorem zfQ.chg {w w':World} {bn bg gg:Nat} {roots:Int} {ba:Option Addr} {bc base:Nat} {B:List Nat} {m:Nat} {gone:Nat->Nat} (h:zfQ w bn bg gg roots ba bc base B m gone) (k:Chg (fun _=>False) w w'):zfQ w' bn bg gg roots ba bc base B m gone:=
 ⟨k.obj (fun e=>e) h.on,k.obj (fun e=>e) h.og,fun i hi=>zj k (fun e=>e) (h.ce i hi),zn h.row k (fun _ _ e=>e)⟩
theorem zpq {f:Int × Int->Int × Int} {l:zE} {k:Nat} {s:Int × Int} (h:l[k]? = some s):((l.take k).map f++l.drop k)[k]? = some s:=by
 have hk:=(zq1.1 h).1;rw [List.getElem?_append_right (by simp;omega),List.getElem?_drop];simp only [zq4,zq5];rw [show k+(k - min k l.length)=k from by omega];exact h
theorem znQ {f:Int × Int->Int × Int} {l:zE} {k:Nat} {s:Int × Int} (h:l[k]? = some s):(l.take (k+1)).map f++l.drop (k+1)=((l.take k).map f++l.drop k).set k (f s):=by
 have hk:=(zq1.1 h).1;have e:l.drop k=s :: l.drop (k+1):=by rw [List.drop_eq_getElem_cons hk,(zq1.1 h).2]
 rw [zri,h,List.map_append,e];rw [List.set_append_right _ _ (by simp;omega)];simp only [zq4,zq5];rw [show k - min k l.length=0 from by omega];simp
set_option maxHeartbeats 4000000 in
set_option maxRecDepth 100000 in
theorem zjF (w:World) (bn bg gg:Nat) (roots:Int) (ba:Option Addr) (bc base:Nat) (B:List Nat) (m:Nat) (gone:Nat->Nat) (sv:Value) (G:Nat->Prop) (l:zE) (h:zfQ w bn bg gg roots ba bc base B m gone) (hl:Yq w sv G l) (ho:zm8 roots B m l) (hs:B.Pairwise (· <= ·)) (h0:0<=roots) (hB:0 < B.length) (hB2:B.length<=1000000) (hgn:∀ i,i < m->gone i<=1000000) (hll:l.length<=1000000):
  Calls Tryz.prog 142 #[sv,.pointer (some ⟨bn,0,none⟩),.pointer (some ⟨bg,0,none⟩)] w fun e w'=>∃ v,e=.returned v∧w'.ownsRow w.heap.size 153 2 v l.length (Zv (YZ roots B gone l))∧Chg (fun _=>False) w w':=by
 obtain ⟨la,cap,rfl⟩:=hl.shape;have HA:=ze h;have HO:=ze ho;have HS:=ze hs;have HGN:=ze hgn;have CLN:=ze (zj5 w la l cap G hl hll);obtain ⟨T,hT⟩:∃ T:Nat->zE,T=fun k=>(l.take k).map (ziU roots B gone)++l.drop k:=⟨_,rfl⟩;have T0:=ze (show T 0=l from by rw [hT];simp);have TG:=ze (fun k (s:Int × Int) (hk:l[k]? = some s)=>show (T k)[k]? = some s from by rw [hT];exact zpq hk);have TS:=ze (fun k (s:Int × Int) (hk:l[k]? = some s)=>show T (k+1)=(T k).set k (ziU roots B gone s) from by rw [hT];exact znQ hk);have TL:=ze (fun k (hk:k<=l.length)=>show (T k).length=l.length from by rw [hT];simp;omega);have TF:=ze (show YZ roots B gone l=T l.length from by rw [hT];simp only [zrk,List.drop_length,List.append_nil];rfl);rw [TF.out];clear hT h ho hs hl hgn;go_enter Tryz.func142,Tryz.ntmps142;go_wp2_with fail;(with_reducible refine CLN.out.mono ?_);rintro e w2 ⟨v2,rfl,o2,k2⟩;obtain ⟨a2,c2,rfl⟩:=zl o2;have O2:=ze o2;have K2:=ze k2;clear o2 k2 CLN;go_wp2;go_loopw [14] (fun iv wr=>∃ k:Nat,k<=l.length∧iv=.int .i64 k∧Hid (wr.ownsRow w.heap.size 153 2 (.slice a2 l.length c2) l.length (Zv (T k))∧Chg (fun _=>False) w wr)) (fun iv _=>l.length - (intOf iv).toNat)
 case atStart=>exact ⟨0,by omega,rfl,ze ⟨by rw [T0.out];exact O2.out,K2.out⟩⟩
 case round=>
  obtain ⟨k,hk,rfl,HI⟩:=hrel;have OR:=ze HI.out.1;have KC:=ze HI.out.2;clear HI;by_cases hlt:k < l.length
  ·obtain ⟨⟨at_,r⟩,hx⟩:∃ s,l[k]? = some s:=⟨_,zq0 hlt⟩
   obtain ⟨g,rfl⟩:=ZA OR.out (by omega);have hTl:=TL.out k hk;have tg:=TG.out k _ hx;obtain ⟨s0,s1⟩:=zbi tg
   have x0:wr.cell? ⟨g,k*2,none⟩=some (.int .i64 at_):=by
    rw [OR.out.cellAt (j:=k*2) (by omega)];exact s0
   have x1:wr.cell? ⟨g,k*2+1,none⟩=some (.int .i64 r):=by
    rw [OR.out.cellAt (j:=k*2+1) (by omega)];exact s1
   obtain ⟨hfit,hpos,hlt2⟩:=HO.out _ (zq2 hx);simp only at hfit hpos hlt2;have E:=ze (TS.out k _ hx);have LT2:=ze hlt2;have TGH:=ze tg;have kb:=zi (fun _=>False) wr (.cells #[.int .i64 at_,.int .i64 r] 153);have KB:=ze (KC.out.trans kb);have OB:=ze (zn OR.out kb (fun _ _ e=>e));have AB:=ze (HA.out.chg KB.out);have t1:=zf (o:=1) (zh wr (.cells #[.int .i64 at_,.int .i64 r] 153)) rfl;have n0:=zf (o:=0) AB.out.on rfl;have n1:=zf (o:=1) AB.out.on rfl;have y1:=zj kb (fun e=>e) x1;have Y1:=ze y1;have FIT:=ze hfit;have OW:=zha (wr.alloc (.cells #[.int .i64 at_,.int .i64 r] 153)) roots r B ba bc base AB.out.row HS.out h0 hfit hB hB2 hpos;unfold zm9 at OW;have OW:=ze OW;clear hx kb OR KC hpos hlt2 hfit s0 s1 tg hTl y1;go_wp2_with fail;clear x0 x1 t1 n0 n1;generalize wr.alloc (.cells #[.int .i64 at_,.int .i64 r] 153)=wa at *;(with_reducible refine OW.out.mono ?_);rintro e w5 (⟨i,hi,rfl,k5⟩ | ⟨hi,rfl,k5⟩)
   ·have O5:=ze (zn OB.out k5 (fun _ _ e=>e))
    have K5:=ze (KB.out.trans k5);have A5:=ze (AB.out.chg k5);have hin:=LT2.out i hi
    have hrr:roots<=r:=by
     unfold Xq at hi;split at hi
     ·cases hi
     ·omega
    have hgi:=HGN.out i hin;obtain ⟨f1,f2⟩:=FIT.out;have z1:IntKind.i64.wrap (r - (gone i:Int))=r - (gone i:Int):=by rw [IntKind.wrap_i64] <;> omega
    have EE:=ze (show T (k+1)=(T k).set k (at_,r - gone i) from by rw [E.out];unfold ziU;simp only;rw [hi]);have kd:=zw (fun _=>False) w5;have OD:=ze (zn O5.out kd (fun _ _ e=>e));have KD:=ze (K5.out.trans kd);have u1:=zj k5 (fun e=>e) Y1.out;have u2:=zf (o:=0) A5.out.og rfl;have u3:=A5.out.ce i hin
    have NX:=ze (show ((w5.drew).setCell ⟨g,k*2+1,none⟩ (.int .i64 (r - gone i))).ownsRow w.heap.size 153 2 (.slice (some ⟨g,0,none⟩) l.length c2) l.length (Zv (T (k+1))) from by
     have:=zhb OD.out (i:=k*2+1) (.int .i64 (r - gone i));rw [zfi _ TGH.out] at this;rw [EE.out];exact this)
    have KN:=ze (KD.out.next (zG w5.drew g (k*2+1) (.int .i64 (r - gone i))) (fun j hj e=>by have:=(OD.out.lt g rfl).1;omega));obtain ⟨cs,hcs⟩:=zC OD.out rfl;have fz:=zm (o:=k*2+1) hcs;have v1:w5.drew.cell? ⟨g,k*2+1,none⟩=some (.int .i64 r):=u1;clear hi OW OB KB AB O5 K5 kd hcs;go_wp2_with fail;have v2:w5.drew.cell? ⟨bg,0,none⟩=some (.slice (some ⟨gg,0,none⟩) m m):=u2;have v3:w5.drew.cell? ⟨gg,i,none⟩=some (.int .i64 (gone i:Int)):=u3;clear u1 u2 u3;refine ZK 12 (by kernel_rfl) (by kernel_rfl) ?_;simp only [List.take_succ_cons,List.take_zero,List.drop_succ_cons,List.drop_zero]
    repeat still_step
    refine wpStill_nil ?_;go_wp2;go_roundw
    case rel=>exact ⟨k+1,by omega,by go_num,ze ⟨NX.out,KN.out⟩⟩
    case measure=>simp [intOf];omega
   ·have O5:=ze (zn OB.out k5 (fun _ _ e=>e))
    have K5:=ze (KB.out.trans k5)
    have EE:=ze (show T (k+1)=T k from by
     rw [E.out];unfold ziU;simp only;rw [hi]
     exact List.ext_getElem? (fun j=>by
      rw [List.getElem?_set];split
      ·rename_i e
       subst e;split
       ·exact TGH.out.symm
       ·rename_i q
        rw [zrg (by omega)]
      ·rfl))
    clear hi OW OB KB AB;go_wp2;go_roundw
    case rel=>exact ⟨k+1,by omega,by go_num,ze ⟨by rw [EE.out];exact O5.out,K5.out⟩⟩
    case measure=>simp [intOf];omega
  ·obtain rfl:k=l.length:=by omega
   go_wp2;go_ret;exact ⟨_,rfl,OR.out,KC.out⟩
theorem Tryz.elemSteps:Zt Tryz.prog 81 1 24:=Zj (z:=.slice none 0 0) (by kernel_rfl) rfl (by decide)
theorem Tryz.elemItem:Zt Tryz.prog 98 2 32:=Zj (z:=.agg #[.int .i64 0,.slice none 0 0]) (by kernel_rfl) rfl (by decide)
theorem zl2 {w:World} {base:Nat} {v:Value} {G:Nat->Prop} {zs:List (zE × Value)} (h:w.ownsRow base 81 1 v zs.length (zs.map Prod.snd)) (hs:∀ z∈zs,Yq w z.2 G z.1):yO w v (fun k=>G k∨v.ownBlock=some k) (zs.map Prod.fst):=by
 obtain ⟨a,cap,rfl,hl,hc⟩:=XY h;refine ⟨a,cap,by rw [zq4],by rw [zq4];exact hl,fun j l hj=>?_⟩;rw [zrb] at hj;cases hz:zs[j]? with
 | none=>rw [hz] at hj;cases hj
 | some z=>
  rw [hz] at hj;cases hj;obtain ⟨g,rfl,hg,c⟩:=hc j z.2 (by rw [zrb,hz];rfl);exact ⟨g,0,z.2,rfl,.inr rfl,by rw [Nat.zero_add];exact c,(hs z (zq2 hz)).up (fun _ q=>.inl q)⟩
def Xv (xs:List (zP × Value)):List Value:=xs.flatMap fun x=>[.int .i64 x.1.cert,x.2]
theorem zgj (a b:List (zP × Value)):Xv (a++b)=Xv a++Xv b:=by unfold Xv;rw [List.flatMap_append]
theorem zfA:∀ {l:List (zP × Value)} {j:Nat} {s:zP × Value},l[j]? = some s->(Xv l)[j*2]? = some (.int .i64 s.1.cert)∧(Xv l)[j*2+1]? = some s.2
 | s :: l,0,t,h=>by
  simp at h;subst h;exact ⟨rfl,rfl⟩
 | s :: l,j+1,t,h=>by
  have e:Xv (s :: l)=[.int .i64 s.1.cert,s.2]++Xv l:=rfl;obtain ⟨h1,h2⟩:=zfA (l:=l) (j:=j) (by simpa using h);rw [e];refine ⟨?_,?_⟩
  ·rw [List.getElem?_append_right (by simp;omega),<- h1]
   congr 1
   simp;omega
  ·rw [List.getElem?_append_right (by simp;omega),<- h2]
   congr 1
   simp;omega
theorem zcj {w:World} {base:Nat} {v:Value} {G:Nat->Prop} {xs:List (zP × Value)} (h:w.ownsRow base 98 2 v xs.length (Xv xs)) (hs:∀ x∈xs,yO w x.2 G x.1.paths):xg w v (fun k=>G k∨v.ownBlock=some k) (xs.map Prod.fst):=by
 have h0:=h;obtain ⟨h1,⟨rfl,h2⟩ | ⟨g,cap,cur,rfl,hg,hh,q1,q2,q3,q4⟩⟩:=h
 ·refine ⟨none,0,by rw [zq4,h2],by rw [zq4,h2];unfold maxLen;omega,fun j x hj=>?_⟩
  have:=(zq1.1 hj).1;rw [zq4] at this;omega
 ·refine ⟨_,cap,by rw [zq4],by rw [zq4];omega,fun j x hj=>?_⟩
  rw [zrb] at hj;cases hz:xs[j]? with
  | none=>rw [hz] at hj;cases hj
  | some z=>
   rw [hz] at hj;cases hj;have hjl:=(zq1.1 hz).1;obtain ⟨c1,c2⟩:=zfA hz;refine ⟨g,0,z.2,rfl,.inr rfl,?_,?_,(hs z (zq2 hz)).up (fun _ q=>.inl q)⟩
   ·rw [Nat.zero_add,h0.cellAt (j:=j*2) (by omega)];exact c1
   ·rw [Nat.zero_add,h0.cellAt (j:=j*2+1) (by omega)];exact c2
structure XR (w wr:World) (br:Nat) (iv sv:Value) (xs:List (zP × Value)) (G:Nat->Prop):Prop where
 box:wr.heap[br]? = some (.cells #[iv,sv] 83 (0,0))
 row:wr.ownsRow w.heap.size 98 2 iv xs.length (Xv xs)
 ent:∀ x∈xs,yO wr x.2 G x.1.paths
 typ:∀ k,G k->w.heap.size<=k∧∃ cs t,wr.heap[k]? = some (.cells cs t (0,0))∧(t=81∨t=153)
theorem XR.chg {w wr w':World} {br:Nat} {iv sv:Value} {xs:List (zP × Value)} {G:Nat->Prop} (h:XR w wr br iv sv xs G) (k:Chg (fun _=>False) wr w'):XR w w' br iv sv xs G:=
 ⟨k.obj (fun e=>e) h.box,zn h.row k (fun _ _ e=>e),fun x hx=>(h.ent x hx).chg k (fun _ _ e=>e),fun j hj=>by
  obtain ⟨h1,cs,t,q,ht⟩:=h.typ j hj;exact ⟨h1,cs,t,k.obj (fun e=>e) q,ht⟩⟩
theorem XR.push {w wr w':World} {br:Nat} {iv iv' pv sv:Value} {xs:List (zP × Value)} {G G':Nat->Prop} {y:zP} (h:XR w wr br iv sv xs G) (hp:yO wr pv G' y.paths) (ht:∀ k,G' k->w.heap.size<=k∧∃ cs t,wr.heap[k]? = some (.cells cs t (0,0))∧(t=81∨t=153))
  (hg:wr.grownBy w' iv.ownBlock) (ho:w'.ownsRow w.heap.size 98 2 iv' (xs.length+1) (Xv xs++[.int .i64 y.cert,pv])):
  XR w (w'.setCell ⟨br,0,none⟩ iv') br iv' sv (xs++[(y,pv)]) (fun k=>G k∨G' k)∧w'.heap[br]? = some (.cells #[iv,sv] 83 (0,0))∧Chg (fun k=>k=br∨iv.ownBlock=some k) wr (w'.setCell ⟨br,0,none⟩ iv'):=by
 have kg:=Chg.of_grown hg;have kc:=zG w' br 0 iv';have rowT:∀ k,iv.ownBlock=some k->∃ cs,wr.heap[k]? = some (.cells cs 98 (0,0)):=fun k hk=>zC h.row hk
 have boxn:¬ iv.ownBlock=some br:=fun e=>by
  obtain ⟨cs,q⟩:=rowT _ e;exact zZ q h.box (by decide) rfl
 have box2:=kg.obj boxn h.box
 have tne:∀ k cs t,wr.heap[k]? = some (.cells cs t (0,0))->(t=81∨t=153)->¬ iv.ownBlock=some k∧¬ k=br:=fun k cs t q ht=>by
  refine ⟨fun e=>?_,fun e=>?_⟩
  ·obtain ⟨ds,q2⟩:=rowT _ e
   exact zZ q q2 (by rcases ht with rfl | rfl <;> decide) rfl
  ·exact zZ q h.box (by rcases ht with rfl | rfl <;> decide) e
 refine ⟨⟨zt (o:=0) box2 iv',?_,fun x hx=>?_,fun k hk=>?_⟩,box2,(kg.mono (fun k _ e=>.inr e)).trans (kc.mono (fun k _ e=>.inl e))⟩
 ·rw [zgj,zq3]
  exact zn ho kc (fun k hk e=>by
   obtain ⟨cs,q⟩:=zC ho hk;exact zZ q box2 (by decide) e)
 ·rcases zrc.1 hx with hx | hx
  ·refine (((h.ent x hx).chg kg (fun k hk e=>?_)).chg kc (fun k hk e=>?_)).up (fun _ q=>.inl q)
   ·obtain ⟨_,cs,t,q,ht⟩:=h.typ k hk
    exact (tne k cs t q ht).1 e
   ·obtain ⟨_,cs,t,q,ht⟩:=h.typ k hk
    exact (tne k cs t q ht).2 e
  ·rw [List.mem_singleton] at hx
   subst hx;refine ((hp.chg kg (fun k hk e=>?_)).chg kc (fun k hk e=>?_)).up (fun _ q=>.inr q)
   ·obtain ⟨_,cs,t,q,ht⟩:=ht k hk
    exact (tne k cs t q ht).1 e
   ·obtain ⟨_,cs,t,q,ht⟩:=ht k hk
    exact (tne k cs t q ht).2 e
 ·rcases hk with hk | hk
  ·obtain ⟨h1,cs,t,q,ht⟩:=h.typ k hk
   exact ⟨h1,cs,t,kc.obj (tne k cs t q ht).2 (kg.obj (tne k cs t q ht).1 q),ht⟩
  ·obtain ⟨h1,cs,t,q,ht⟩:=ht k hk
   exact ⟨h1,cs,t,kc.obj (tne k cs t q ht).2 (kg.obj (tne k cs t q ht).1 q),ht⟩
structure xR (w0 wr:World) (by_:Nat) (cert:Int) (pv:Value) (zs:List (zE × Value)) (G:Nat->Prop):Prop where
 box:wr.heap[by_]? = some (.cells #[.int .i64 cert,pv] 98 (0,0))
 row:wr.ownsRow w0.heap.size 81 1 pv zs.length (zs.map Prod.snd)
 ent:∀ z∈zs,Yq wr z.2 G z.1
 typ:∀ k,G k->w0.heap.size<=k∧∃ cs,wr.heap[k]? = some (.cells cs 153 (0,0))
 ch:Chg (fun _=>False) w0 wr
 low:w0.heap.size<=by_
theorem xR.chg {w0 wr w':World} {by_:Nat} {cert:Int} {pv:Value} {zs:List (zE × Value)} {G:Nat->Prop} (h:xR w0 wr by_ cert pv zs G) (k:Chg (fun _=>False) wr w'):xR w0 w' by_ cert pv zs G:=
 ⟨k.obj (fun e=>e) h.box,zn h.row k (fun _ _ e=>e),fun x hx=>(h.ent x hx).chg k (fun _ _ e=>e),fun j hj=>by
  obtain ⟨h1,cs,q⟩:=h.typ j hj;exact ⟨h1,cs,k.obj (fun e=>e) q⟩,h.ch.trans k,h.low⟩
theorem xR.push {w0 wr w':World} {by_:Nat} {cert:Int} {pv pv' v:Value} {zs:List (zE × Value)} {G:Nat->Prop} {l:zE} (h:xR w0 wr by_ cert pv zs G) (hv:wr.ownsRow w0.heap.size 153 2 v l.length (Zv l))
  (hg:wr.grownBy w' pv.ownBlock) (ho:w'.ownsRow w0.heap.size 81 1 pv' (zs.length+1) (zs.map Prod.snd++[v])):
  xR w0 (w'.setCell ⟨by_,1,none⟩ pv') by_ cert pv' (zs++[(l,v)]) (fun k=>G k∨v.ownBlock=some k)∧w'.heap[by_]? = some (.cells #[.int .i64 cert,pv] 98 (0,0)):=by
 have kg:=Chg.of_grown hg;have kc:=zG w' by_ 1 pv'
 have boxn:¬ pv.ownBlock=some by_:=fun e=>by
  obtain ⟨cs,q⟩:=zC h.row e;exact zZ q h.box (by decide) rfl
 have box2:=kg.obj boxn h.box
 have tne:∀ k cs,wr.heap[k]? = some (.cells cs 153 (0,0))->¬ pv.ownBlock=some k∧¬ k=by_:=fun k cs q=>by
  refine ⟨fun e=>?_,fun e=>?_⟩
  ·obtain ⟨ds,q2⟩:=zC h.row e
   exact zZ q q2 (by decide) rfl
  ·exact zZ q h.box (by decide) e
 refine ⟨⟨zt (o:=1) box2 pv',?_,fun z hz=>?_,fun k hk=>?_,(h.ch.next kg (fun k hk e=>by have:=(h.row.lt k e).1;omega)).next kc (fun k hk e=>by have:=h.low;omega),h.low⟩,box2⟩
 ·rw [List.map_append,zq3]
  exact zn ho kc (fun k hk e=>by
   obtain ⟨cs,q⟩:=zC ho hk;exact zZ q box2 (by decide) e)
 ·rcases zrc.1 hz with hz | hz
  ·refine (((h.ent z hz).chg kg (fun k hk e=>?_)).chg kc (fun k hk e=>?_)).up (fun _ q=>.inl q)
   ·obtain ⟨_,cs,q⟩:=h.typ k hk
    exact (tne k cs q).1 e
   ·obtain ⟨_,cs,q⟩:=h.typ k hk
    exact (tne k cs q).2 e
  ·rw [List.mem_singleton] at hz
   subst hz;refine (((zaf hv).chg kg (fun k hk e=>?_)).chg kc (fun k hk e=>?_)).up (fun _ q=>.inr q)
   ·obtain ⟨cs,q⟩:=zC hv hk
    exact (tne k cs q).1 e
   ·obtain ⟨cs,q⟩:=zC hv hk
    exact (tne k cs q).2 e
 ·rcases hk with hk | hk
  ·obtain ⟨h1,cs,q⟩:=h.typ k hk
   exact ⟨h1,cs,kc.obj (tne k cs q).2 (kg.obj (tne k cs q).1 q)⟩
  ·obtain ⟨cs,q⟩:=zC hv hk
   exact ⟨(hv.lt k hk).1,cs,kc.obj (tne k cs q).2 (kg.obj (tne k cs q).1 q)⟩
theorem xR.done {w0 wr:World} {by_:Nat} {cert:Int} {pv:Value} {zs:List (zE × Value)} {G:Nat->Prop} (h:xR w0 wr by_ cert pv zs G):yO wr pv (fun k=>G k∨pv.ownBlock=some k) (zs.map Prod.fst)∧∀ k,(G k∨pv.ownBlock=some k)->w0.heap.size<=k∧∃ cs t,wr.heap[k]? = some (.cells cs t (0,0))∧(t=81∨t=153):=by
 refine ⟨zl2 h.row h.ent,fun k hk=>?_⟩;rcases hk with hk | hk
 ·obtain ⟨h1,cs,q⟩:=h.typ k hk
  exact ⟨h1,cs,_,q,.inr rfl⟩
 ·obtain ⟨cs,q⟩:=zC h.row hk
  exact ⟨(h.row.lt k hk).1,cs,_,q,.inl rfl⟩
def ze4 (C:List zq) (I:List zP) (need:List Bool) (m k:Nat):List Nat:=(List.range m).map fun j=>if j < k then YU C I need j else 0
theorem zhn (C:List zq) (I:List zP) (need:List Bool) (m k:Nat):(ze4 C I need m k).length=m:=by unfold ze4;simp
theorem zkR (C:List zq) (I:List zP) (need:List Bool) (m:Nat):ze4 C I need m 0=List.replicate m 0:=by
 unfold ze4;apply List.ext_getElem?;intro i;rw [zrb,List.getElem?_replicate];by_cases h:i < m
 ·rw [List.getElem?_range h,if_pos h];simp
 ·rw [zrg (by rw [List.length_range];omega),if_neg h];rfl
theorem zkS {C:List zq} {I:List zP} {need:List Bool} {m k:Nat} (hk:k < m):ze4 C I need m (k+1)=(ze4 C I need m k).set k (YU C I need k):=by
 unfold ze4;apply List.ext_getElem?;intro i;rw [List.getElem?_set,zrb,zrb];by_cases h:i < m
 ·rw [List.getElem?_range h]
  simp only [Option.map_some,zq4,List.length_range];by_cases e:k=i
  ·subst e
   rw [if_pos rfl,if_pos h,if_pos (by omega)]
  ·rw [if_neg e]
   congr 1
   by_cases h2:i < k
   ·rw [if_pos h2,if_pos (by omega)]
   ·rw [if_neg h2,if_neg (by omega)]
 ·rw [zrg (by rw [List.length_range];omega)]
  rw [if_neg (by omega)];rfl
theorem zms {C:List zq} {I:List zP} {need:List Bool} {m k i:Nat} (hi:i < m) (hk:i < k):(ze4 C I need m k)[i]? = some (YU C I need i):=by
 unfold ze4;rw [zrb,List.getElem?_range hi];simp only [Option.map_some];rw [if_pos hk]
theorem zn0 (l:List Nat) (k x:Nat):(Yj l).set k (.int .i64 (x:Int))=Yj (l.set k x):=by unfold Yj;rw [List.map_set]
theorem zmr (C:List zq) (I:List zP) (need:List Bool) (k:Nat):YU C I need k<=tot C I k:=by
 induction k with
 | zero=>exact Nat.zero_le _
 | succ k ih=>
  unfold YU;have:=zi4 C I k;split <;> omega
theorem zqE (n:Nat):(madeCells #[Value.int .i64 0] n).toList=Yj (List.replicate n 0):=by
 unfold madeCells Yj;apply List.ext_getElem?;intro i;simp only [Array.toList_map,Array.toList_range,zrb,List.getElem?_replicate];by_cases h:i < n
 ·rw [List.getElem?_range h,if_pos h]
  simp [Nat.mod_one]
 ·rw [zrg (by simp;omega),if_neg h];rfl
theorem Tryz.intInfo:∃ i,Tryz.prog.info? 3=some i∧i.zero=some (.int .i64 0)∧i.size=1∧i.bytes=8:=by
 have h:(Tryz.prog.info? 3).map (fun i=>(i.zero,i.size,i.bytes))=some (some (.int .i64 0),1,8):=by kernel_rfl
 cases hq:Tryz.prog.info? 3 with
 | none=>rw [hq] at h;cases h
 | some i=>
  rw [hq] at h;simp at h;exact ⟨i,rfl,h.1,h.2.1,h.2.2⟩
end Go.Proofs.YthdfplafihmejaaGreat
