/-
  Base: what else. Kit2: what else. RPlain: what else. SOrd: what else. MRefs: what else. Tree: what else.
-/
import Derived.Test.YthdfplafihmejaaGreatZtKit2
import Derived.Test.YthdfplafihmejaaGreatZtRPlain
import Derived.Test.YthdfplafihmejaaGreatZtCMap
namespace Go.Proofs.YthdfplafihmejaaGreat
open Go.RowKit Go.Maps
theorem znX {a b c:Wd} (h:ye a c=true) (k:ye a b=false):ye b c=true:=by
 cases q:ye b a with
 | true=>exact yY q h
 | false=>rw [<- Xr k q];exact h
theorem zky {last:Option ByteArray} {l:List ByteArray} {k:Nat} {x:ByteArray} (hx:l[k]? = some x):zcU last (l.take (k+1))=zio last (zcU last (l.take k)) x:=by
 unfold zcU;rw [zri,hx,List.foldl_append];rfl
theorem ziv {last:Option ByteArray}:∀ (l:List ByteArray) (best:Option ByteArray),
  (∀ y,l.foldl (zio last) best=some y->(best=some y∨(y∈l∧zbe last y=true))∧(∀ x∈l,zbe last x=true->Yf x y=false)∧∀ z,best=some z->Yf z y=false) ∧
  (l.foldl (zio last) best=none->best=none∧∀ x∈l,zbe last x=false)
 | [],best=>⟨fun y h=>⟨.inl h,fun _ hx=>(List.not_mem_nil hx).elim,fun z hz=>by rw [show best=some y from h] at hz;cases hz;exact yH _⟩,fun h=>⟨h,fun _ hx=>(List.not_mem_nil hx).elim⟩⟩
 | a :: l,best=>by
  rw [List.foldl_cons];obtain ⟨h1,h2⟩:=ziv l (zio last best a);by_cases hp:(zbe last a && ziP best a)=true
  ·have e:zio last best a=some a:=if_pos hp
   rw [zrl] at hp;refine ⟨fun y hy=>?_,fun hn=>?_⟩
   ·obtain ⟨q1,q2,q3⟩:=h1 y hy
    have hay:=q3 a e;refine ⟨?_,fun x hx hax=>?_,fun z hz=>?_⟩
    ·rcases q1 with q | q
     ·rw [e] at q;cases q
      exact .inr ⟨List.mem_cons_self,hp.1⟩
     ·exact .inr ⟨List.mem_cons_of_mem _ q.1,q.2⟩
    ·rcases List.mem_cons.1 hx with rfl | hx
     ·exact hay
     ·exact q2 x hx hax
    ·subst hz
     have hb:Yf a z=true:=hp.2;rw [<- zrn];intro q;rw [show Yf a y=true from yY hb q] at hay;cases hay
   ·have:=(h2 hn).1
    rw [e] at this;cases this
  ·have e:zio last best a=best:=if_neg hp
   rw [e] at h1 h2 ⊢;refine ⟨fun y hy=>?_,fun hn=>?_⟩
   ·obtain ⟨q1,q2,q3⟩:=h1 y hy
    refine ⟨?_,fun x hx hax=>?_,q3⟩
    ·rcases q1 with q | q
     ·exact .inl q
     ·exact .inr ⟨List.mem_cons_of_mem _ q.1,q.2⟩
    ·rcases List.mem_cons.1 hx with rfl | hx
     ·cases best with
      | none=>exact (hp (by rw [hax];rfl)).elim
      | some z=>
       have hz:Yf x z=false:=by
        rw [<- zrn];intro q;exact hp (by rw [hax];exact q)
       have hzy:=q3 z rfl;rw [<- zrn];intro q;rw [show Yf z y=true from znX q hz] at hzy;cases hzy
     ·exact q2 x hx hax
   ·obtain ⟨q1,q2⟩:=h2 hn
    refine ⟨q1,fun x hx=>?_⟩;rcases List.mem_cons.1 hx with rfl | hx
    ·subst q1
     rw [<- zrn];intro q;exact hp (by rw [q];rfl)
    ·exact q2 x hx
theorem zkj (l:List ByteArray):xQ l []:=⟨fun _ hx=>(List.not_mem_nil hx).elim,List.Pairwise.nil,fun _ _=>.inr rfl⟩
theorem xQ.nodup {l out:List ByteArray} (h:xQ l out):out.Nodup:=h.srt.imp (fun {a b} q e=>by subst e;rw [show Yf a a=false from yH _] at q;cases q)
theorem xQ.le {l out:List ByteArray} (h:xQ l out):out.length<=l.length:=zbn h.nodup h.sub
theorem zm4 {out:List ByteArray} {y:ByteArray} (hs:out.Pairwise fun a b=>Yf a b=true) (h:zbe out.getLast? y=true):∀ x∈out,Yf x y=true:=by
 rcases List.eq_nil_or_concat out with rfl | ⟨i,z,rfl⟩
 ·intro x hx;cases hx
 ·rw [List.concat_eq_append] at *
  rw [List.getLast?_append] at h;have hz:Yf z y=true:=h;intro x hx;rcases zrc.1 hx with q | q
  ·exact yY ((List.pairwise_append.1 hs).2.2 x q z (by simp)) hz
  ·rw [List.mem_singleton] at q;subst q;exact hz
theorem xQ.next {l out:List ByteArray} (h:xQ l out) {y:ByteArray} (hn:zcU out.getLast? l=some y):xQ l (out++[y]):=by
 obtain ⟨q1,q2,_⟩:=(ziv l none).1 y hn
 have q:y∈l∧zbe out.getLast? y=true:=by
  rcases q1 with q | q
  ·cases q
  ·exact q
 have ha:=zm4 h.srt q.2;refine ⟨fun x hx=>?_,?_,fun x hx=>?_⟩
 ·rcases zrc.1 hx with e | e
  ·exact h.sub x e
  ·rw [List.mem_singleton] at e;rw [e];exact q.1
 ·rw [List.pairwise_append]
  exact ⟨h.srt,List.pairwise_singleton _ _,fun x hx z hz=>by rw [List.mem_singleton] at hz;rw [hz];exact ha x hx⟩
 ·rw [List.getLast?_append]
  rcases h.rest x hx with e | e
  ·exact .inl (List.mem_append_left _ e)
  ·have hxy:=q2 x hx e
   cases hyx:Yf y x with
   | true=>exact .inr hyx
   | false=>
    have:x=y:=by
     have:=Xr hxy hyx;cases x;cases y;simp only [ByteArray.mk.injEq];exact Array.toList_inj.1 this
    rw [this];exact .inl (by simp)
theorem xQ.done {l out:List ByteArray} (h:xQ l out) (hn:zcU out.getLast? l=none):∀ x∈l,x∈out:=by
 intro x hx;rcases h.rest x hx with e | e
 ·exact e
 ·rw [((ziv l none).2 hn).2 x hx] at e;cases e
theorem xQ.more {l out:List ByteArray} (h:xQ l out) {y:ByteArray} (hn:zcU out.getLast? l=some y):out.length < l.length:=by
 have:=(h.next hn).le;rw [zq3,List.length_singleton] at this;omega
theorem ziW (l:List Nat) (a:Nat):Zs (l++[a])=Zs l++[.int .u16 (a:Int)]:=by unfold Zs;rw [List.map_append];rfl
theorem zo1 (x y:Nat) (hx:x < 256) (hy:y < 256):IntKind.u16.wrap (IntKind.u16.wrap (IntKind.u16.wrap (x:Int)*256)+IntKind.u16.wrap (y:Int))=((x*256+y:Nat):Int):=by
 have e1:IntKind.u16.wrap (x:Int)=(x:Int):=by show (x:Int) % 65536=_;omega
 have e2:IntKind.u16.wrap (y:Int)=(y:Int):=by show (y:Int) % 65536=_;omega
 have e3:IntKind.u16.wrap ((x:Int)*256)=(x:Int)*256:=by show ((x:Int)*256) % 65536=_;omega
 rw [e1,e2,e3];show ((x:Int)*256+(y:Int)) % 65536=_;omega
theorem zhC (s:ByteArray) (k:Nat) (hk:2*k+1 < s.size) (h0:2*k < s.size):zO s.data.toList k=(s[2*k]'h0).toNat*256+(s[2*k+1]'hk).toNat:=by
 have hsl:=zA s;unfold zO;rw [zq6,zq0 (by omega),zq6,zq0 (by omega)];rfl
set_option maxHeartbeats 1000000 in
set_option maxRecDepth 100000 in
theorem xi (w:World) (s:ByteArray) (hs:s.size<=140737488355328):
  Calls Tryz.prog 82 #[.string s] w fun e w'=>∃ v,e=.returned v∧w'.ownsRow w.heap.size 62 1 v (zT s.data.toList).length (Zs (zT s.data.toList))∧Chg (fun _=>False) w w':=by
 have hsl:=zA s;have HN:=ze (show zz s.data.toList=s.size / 2 by unfold zz;rw [hsl]);have TK:=ze (fun k hk=>zbc s.data.toList (i:=k) hk);have AL:=ze (zU s.data.toList);have AV:=ze (fun k hk h0=>zhC s k hk h0);clear hsl;go_enter Tryz.func82,Tryz.ntmps82;go_wp2;go_loopw [3,4] (fun lv iv wr=>∃ k:Nat,2*k<=s.size∧iv=.int .i64 ((2*k:Nat):Int)∧wr.ownsRow w.heap.size 62 1 lv k (Zs ((zT s.data.toList).take k))∧Chg (fun _=>False) w wr) (fun _ iv _=>s.size - (intOf iv).toNat)
 case atStart=>exact ⟨0,by omega,rfl,ZH _ _ _ _ (zrj _),zi _ _ _⟩
 case round=>
  obtain ⟨k,hk,rfl,ho,hc⟩:=hrel;have HO:=ze ho;have HC:=ze hc;have hsz:=hc.size;clear ho hc;obtain ⟨i0,hi0⟩:∃ i0:Nat,2*k=i0:=⟨_,rfl⟩;by_cases hlt:i0+1 < s.size
  ·have TK1:=ze (TK.out k (by rw [HN.out];omega))
   have hav:=AV.out k (by omega) (by omega);obtain ⟨x,hx,qx⟩:∃ x,x < 256∧(s[i0]'(Nat.lt_of_succ_lt hlt)).toNat=x:=⟨_,UInt8.toNat_lt _,rfl⟩;obtain ⟨y,hy,qy⟩:∃ y,y < 256∧(s[i0+1]'hlt).toNat=y:=⟨_,UInt8.toNat_lt _,rfl⟩;have HAV:=ze (show zO s.data.toList k=x*256+y by rw [hav,<- qx,<- qy];simp only [hi0]);have HI0:=ze hi0;rw [hi0];clear hav hi0;have SUM:=ze (zo1 x y hx hy);have a2:IntKind.i64.wrap ((i0:Int)+1)=(i0:Int)+1:=by rw [IntKind.wrap_i64];omega
   have b1:0<=(i0:Int):=by omega
   have b2:(i0:Int) < (s.size:Int):=by omega
   have b3:0<=(i0:Int)+1:=by omega
   have b4:(i0:Int)+1 < (s.size:Int):=by omega
   have t2:((i0:Int)+1).toNat=i0+1:=by omega
   go_wp2;refine zu (N:=28) [.rd [0,1,2,3,4,5,6,7,8,9,10,11],.ef 12,.ef 13,.rd [14]] (fun _=>True) (by kernel_rfl) (by kernel_rfl) (by kernel_rfl) (by kernel_rfl) (Nat.le_of_ble_eq_true rfl) trivial ?_;refine zB (A:=?A1) ?h1 ?h2
   case h1=>
    intro w' hS K hK;clear hS;simp only [zM,zqT,zqU,zqV,zqW,zqX]
    repeat still_step
    refine wpStill_nil ?_;exact hK
   rw [SUM.out,<- HAV.out];clear a2 b1 b2 b3 b4 t2;have hk2:(k+1)*2<=140737488355328:=by have:=HI0.out;omega
   generalize zO s.data.toList k=ak at *;refine zI rfl ?_;go_wp2_with fail;refine ⟨trivial,?_⟩;refine zI rfl ?_;refine Zd rfl (.tmp 13) (.tmp 25) 125 rfl 62 1 2 Tryz.underlying125 Tryz.elemAtom w.heap.size _ _ _ rfl ((zn HO.out (zw (fun _=>False) wr) (fun _ _ e=>e)).alloc _) _ [.int .u16 (ak:Int)] 62 (0,0) rfl (zh _ _) rfl (by intro u hu;simp at hu;subst hu;rfl) (by omega) (by unfold maxLen;omega) (by simp;omega) ?_;intro v5 w5 o5 g5;have C5:=ze (((HC.out.drew).alloc (.cells #[.int .u16 (ak:Int)] 62)).own ((zn HO.out (zw (fun _=>False) wr) (fun _ _ e=>e)).alloc _) (Chg.of_grown g5));rw [<- ziW,<- TK1.out] at o5;have O5:=ze o5;clear o5 g5;go_wp2_with fail;refine ⟨trivial,?_⟩;refine zB (A:=?A2) ?h3 ?h4
   case h3=>
    intro w' hS K hK;clear hS;simp only [zM,zqT,zqU,zqV,zqW,zqX]
    repeat still_step
    refine wpStill_nil ?_;exact hK
   refine zR ?_;go_wp2;go_roundw
   case rel=>exact ⟨k+1,by have:=HI0.out;omega,by rw [show 2*(k+1)=i0+2 from by have:=HI0.out;omega];go_num,O5.out,C5.out⟩
   case measure=>simp [intOf];omega
  ·have HT:=ze (show (zT s.data.toList).take k=zT s.data.toList from List.take_of_length_le (by rw [AL.out,HN.out];omega))
   have HKL:=ze (show k=(zT s.data.toList).length by rw [AL.out,HN.out];omega);rw [hi0];have hge:(s.size:Int)<=(i0:Int)+1:=by omega
   have hd1:decide ((i0:Int)+1 < (s.size:Int))=false:=by rw [decide_eq_false_iff_not];omega
   have hd2:decide (i0+1 < s.size)=false:=by rw [decide_eq_false_iff_not];omega
   have hi1:i0<=140737488355328:=by omega
   clear hi0;go_wp2;go_ret;refine ⟨_,rfl,?_,HC.out⟩;have:=HO.out;rw [HT.out,HKL.out] at this;exact this
set_option maxRecDepth 100000 in
theorem zbk (w:World) (s:ByteArray) (hs:s.size<=140737488355328):
  Calls Tryz.prog 52 #[.string s] w fun e w'=>e=.returned (.bool (Zp s.data.toList))∧Chg (fun _=>False) w w':=by
 have hsl:=zA s;have ATO:=ze (xi w s hs);have AL:=ze (zU s.data.toList);have AG:=ze (show ∀ i,i < zz s.data.toList->(Zs (zT s.data.toList))[i]? = some (.int .u16 (zO s.data.toList i:Nat)) from fun i hi=>by unfold Zs;rw [zrb,yC _ hi];rfl);have MI:=ze (Zh s.data.toList);rw [hsl] at MI;have hn2:zz s.data.toList<=140737488355328:=by unfold zz;omega
 have MN:=ze (show ∀ i,i < zz s.data.toList->zO s.data.toList i=0->Zp s.data.toList=false from fun i hi h=>zjt hi h);have ALT:=ze (fun k=>yT s.data.toList k);rw [AL.out] at ATO;clear hsl;generalize zz s.data.toList=n at *;go_enter Tryz.func52,Tryz.ntmps52;go_wp2_with fail;refine (ATO.out).mono ?_;rintro e w1 ⟨v1,rfl,o1,c1⟩;obtain ⟨ra,rc,rfl,hrl,hcl⟩:=XY o1;have HCL:=ze hcl;have C1:=ze c1;unfold maxLen at hrl;clear o1 c1 hcl;go_wp2;go_loop [4] (fun iv=>∃ k:Nat,k<=n∧iv=.int .i64 k∧Hid (∀ i,i < k->zO s.data.toList i≠0)) (fun iv=>n - (intOf iv).toNat)
 case atStart=>exact ⟨0,by omega,rfl,ze (fun i hi=>by omega)⟩
 case round=>
  obtain ⟨k,hk,rfl,HZ⟩:=hrel;by_cases hlt:k < n
  ·obtain ⟨g,rfl,_,cx⟩:=HCL.out k _ (AG.out k hlt)
   have hal:=ALT.out k;by_cases hz:zO s.data.toList k=0
   ·have HF:=ze (MN.out k hlt hz)
    rw [hz] at cx;clear hz;go_wp2;go_ret;exact ⟨by rw [HF.out];rfl,C1.out⟩
   ·have hz1:(((zO s.data.toList k:Nat):Int) == 0)=false:=by rw [zq9];omega
    have HZ2:=ze (show ∀ i,i < k+1->zO s.data.toList i≠0 from fun i hi=>by
     rcases Nat.lt_or_ge i k with q | q
     ·exact HZ.out i q
     ·obtain rfl:i=k:=by omega
      exact hz)
    clear hz;generalize zO s.data.toList k=ak at *;go_wp2;go_round
    case rel=>exact ⟨k+1,by omega,by go_num,HZ2⟩
    case measure=>simp [intOf];omega
  ·obtain rfl:k=n:=by omega
   have MB:=ze (show Zp s.data.toList=(decide (s.size % 2=0) && decide (1<=k) && decide (k<=8)) by
    rw [Bool.eq_iff_iff,MI.out];simp only [zrl,decide_eq_true_eq];constructor
    ·rintro ⟨h1,h2,h3,_⟩;exact ⟨⟨h1,h2⟩,h3⟩
    ·rintro ⟨⟨h1,h2⟩,h3⟩;exact ⟨h1,h2,h3,HZ.out⟩)
   have hkd:decide (k < k)=false:=by simp
   clear HCL AG MN MI HZ hlt;by_cases h1:s.size % 2=0
   ·have g1:((s.size:Int) % 2 == 0)=true:=by rw [beq_iff_eq];omega
    by_cases h2:1<=k
    ·have g2:decide (1<=(k:Int))=true:=by rw [decide_eq_true_eq];omega
     by_cases h3:k<=8
     ·have g3:decide ((k:Int)<=8)=true:=by rw [decide_eq_true_eq];omega
      have R:=ze (show Zp s.data.toList=true by rw [MB.out];simp [h1,h2,h3]);clear h1 MB;go_wp2;go_ret;exact ⟨by rw [R.out];rfl,C1.out⟩
     ·have g3:decide ((k:Int)<=8)=false:=by rw [decide_eq_false_iff_not];omega
      have R:=ze (show Zp s.data.toList=false by rw [MB.out];simp [h3]);clear h1 MB;go_wp2;go_ret;exact ⟨by rw [R.out];rfl,C1.out⟩
    ·have g2:decide (1<=(k:Int))=false:=by rw [decide_eq_false_iff_not];omega
     have R:=ze (show Zp s.data.toList=false by rw [MB.out];simp [h2]);clear h1 MB;go_wp2;go_ret;exact ⟨by rw [R.out];rfl,C1.out⟩
   ·have g1:((s.size:Int) % 2 == 0)=false:=by rw [zq9];omega
    have R:=ze (show Zp s.data.toList=false by rw [MB.out];simp [h1]);clear h1 MB;go_wp2;go_ret;exact ⟨by rw [R.out];rfl,C1.out⟩
open Classical in
section
end
theorem zam {P:Program} {ops:Array Oper} {w:World} {Q:Exit->Act->World->Prop} {a:Act} {o:Oper} {rest:List Oper} (h:Region.wanted o (yielded ops a.tmps)=false) (h2:wpList P ops Q rest (a.put o.dst undef) w):wpList P ops Q (o :: rest) a w:=by
 unfold wpList;rw [if_neg (by rw [h];decide)];exact h2
end Go.Proofs.YthdfplafihmejaaGreat
