/-
  The device of package journal: Pending, Crash, Device. The device of package journal: Device. Package journal: sectors, first, Room, Record, Number, head. Package journal: Open. Package journal: head.
-/
import Derived.Test.YtcilaocknhphnaaGreatZgRBase
import Derived.Test.YtcilaocknhphnaaGreatZgJDev3
namespace Go.Proofs.YtcilaocknhphnaaGreat
open Go.RowKit
theorem Tryz.elem3:Zc Tryz.prog 3 1 8:=zX (z:=.int .i64 0) (by kernel_rfl) rfl (by decide)
def XH (w:World) (v:Value) (G:Nat->Prop) (keep:List Bool):Prop:=
  ∃ ka cap,v=.slice ka keep.length cap∧keep.length<=maxLen∧∀ j,j < keep.length->∃ kb ko,ka=some ⟨kb,ko,none⟩∧G kb∧w.cell? ⟨kb,ko+j,none⟩=some (.bool (keep.getD j false))
theorem XH.chg {S:Nat->Prop} {w w':World} {v:Value} {G:Nat->Prop} {keep:List Bool} (h:XH w v G keep) (hc:Chg S w w') (hs:∀ k,G k->¬ S k):XH w' v G keep:=by
 obtain ⟨ka,cap,h1,h2,h3⟩:=h;exact ⟨ka,cap,h1,h2,fun j hj=>by obtain ⟨kb,ko,q1,q2,q3⟩:=h3 j hj;exact ⟨kb,ko,q1,q2,zj hc (hs kb q2) q3⟩⟩
theorem zY.now {w w':World} {B:DB} {d:Dev} (h:zY w B d) {l:List (List UInt8)} (hr:zbI B.bn (YB l) 202 w w') (ok:Dev.Ok B.n { d with now:=l }):zY w' B { d with now:=l }:=
 ⟨hr.chg.obj (fun e=>h.n1 e) h.hb,hr.row,hr.chg.obj (fun e=>h.n4 e.symm) h.hs,hr.chg.obj (fun e=>h.n5 e.symm) h.hp,ok,h.n1,h.n2,h.n3,h.n4,h.n5,h.n6⟩
theorem zey {l m:List (List UInt8)} (h:∀ s∈l,s.length=32) (h':∀ s∈m,s.length=32) {k:Nat} (hk:k < l.length) (hk':k < m.length):
  splice (YB l) (k*32) (((YB m).drop (k*32)).take 32)=YB (l.set k (m.getD k [])):=by
 have e:((YB m).drop (k*32)).take 32=zE (m.getD k []):=by
  rw [zaL h' hk'];unfold YB zE;rw [<- List.map_drop,<- List.map_take,show k*32=32*k from by omega]
 rw [e];unfold splice YB;rw [zaK h hk,ZJ,yy h' hk'];unfold zE;rw [List.map_append,List.map_append,List.map_take,List.map_drop,show k*32=32*k from by omega]
set_option maxHeartbeats 1000000 in
set_option maxRecDepth 100000 in
theorem zhh (w:World) (B:DB) (d:Dev) (keep:List Bool) (v:Value) (G:Nat->Prop) (h:zY w B d) (hG:∀ k,G k->¬ B.S k) (hkv:XH w v G keep):
  Calls Tryz.prog 38 #[B.ptr,v] w fun e w'=>e=.returned (.tuple #[])∧zY w' B (d.crash keep)∧Chg B.S w w':=by
 obtain ⟨ka,cap,rfl,hkl,hka⟩:=hkv;have c2:=h.c2;have n65:=h.ok.hi;have lp:=h.ok.lpend;have HKA:=zf hka;unfold maxLen at hkl;have HLP:=zf lp;have H:=zf h;clear h lp hka;unfold DB.ptr;go_enter Tryz.func38,Tryz.ntmps38;go_wp2;go_loopw [4,12] (fun c i wr=>∃ k:Nat,k<=B.n∧i=.int .i64 k∧c=.int .i64 (zdq d.pend k)∧zY wr B { d with now:=zZ d keep k }∧Chg B.S w wr) (fun _ i _=>B.n - (intOf i).toNat)
 case atStart=>exact ⟨0,Nat.zero_le _,rfl,by rw [zgY];rfl,by rw [zcb];exact H.out,Chg.refl _ _⟩
 case round=>
  obtain ⟨k,hk,rfl,rfl,hd,hc⟩:=hrel;have HD:=zf hd;have HC:=zf hc;have cl:=zjs d.pend k;clear hd hc;by_cases hlt:k < B.n
  ·have cp:=zg HD.out.hp (zdg (l:=d.pend) (k:=k) (by rw [HLP.out];exact hlt))
   have cs:=zgZ d.pend k (by rw [HLP.out];exact hlt);by_cases hp:d.pend.getD k false=true
   ·rw [hp] at cp
    rw [hp,if_pos rfl] at cs;have CS:=zf cs;clear cs;have c0:=HD.out.c0;have c1:=HD.out.c1;by_cases hkk:zdq d.pend k < keep.length
    ·obtain ⟨kb,ko,rfl,hkb,ck0⟩:=HKA.out _ hkk
     have ck:=zj HC.out (hG kb hkb) ck0;clear ck0;have hge:decide ((keep.length:Int)<=(zdq d.pend k:Int))=false:=by simp;omega
     by_cases hkp:keep.getD (zdq d.pend k) false=true
     ·have SM:=zf (Xq d keep k (by rw [hkp];simp))
      rw [hkp] at ck;clear hp hkp;go_wp2;go_roundw
      case rel=>exact ⟨k+1,by omega,by go_num,by rw [CS.out];go_num,by rw [SM.out];exact HD.out,HC.out⟩
      case measure=>simp [intOf];omega
     ·have hkp:keep.getD (zdq d.pend k) false=false:=by simpa using hkp
      rw [hkp] at ck;have SM:=zf (XT d keep k (by rw [hkp,hp];rfl));clear hp hkp;go_wp2;go_still_tail 13,(by kernel_rfl);have HD':=zf (HD.out.chg (zy (fun _=>False) wr) (fun _ _ e=>e));have ls:=H.out.ok.lsure;have ws:=H.out.ok.wsure;have lm:(zZ d keep k).length=B.n:=HD.out.ok.lnow;have wm:∀ s∈zZ d keep k,s.length=32:=HD.out.ok.wnow;have fit1:k*32+32<=(YB d.sure).length:=by rw [Zt ws,ls];omega
      have fit2:k*32+32<=(YB (zZ d keep k)).length:=by rw [Zt wm,lm];omega
      refine YP rfl 202 (.tmp 40) rfl B.bs (k*32) 32 rfl 202 (YB d.sure) (0,0) _ HD'.out.hs Tryz.underlying202 rfl Tryz.size71 fit1 ?_;have e1:=zey wm ws (k:=k) (by rw [lm];exact hlt) (by rw [ls];exact hlt);have l1:(((YB d.sure).drop (k*32)).take 32).length=32:=by simp;omega
      have o1:∀ v∈((YB d.sure).drop (k*32)).take 32,v.oneCell'=true:=fun v hv=>xu _ v (List.mem_of_mem_drop (List.mem_of_mem_take hv));generalize hnew:((YB d.sure).drop (k*32)).take 32=new at *;clear hnew;have E1:=zf e1;have L1:=zf l1;have LM:=zf lm;have LS:=zf ls;have O1:=zf o1;clear e1 l1 lm ls ws wm o1
      repeat still_step
      refine wpStill_nil ?_;refine YQ rfl 202 (.tmp 42) (.tmp 41) rfl B.bn (k*32) 32 rfl new rfl 202 (YB (zZ d keep k)) HD'.out.hn Tryz.size71 L1.out fit2 O1.out ?_;intro w2 r2;rw [E1.out,<- SM.out] at r2;have D2:=zf (HD'.out.now r2 (by have:=HD.out.ok;exact ⟨this.lo,this.hi,by rw [SM.out];simp [LM.out],this.lsure,this.lpend,Yk H.out.ok keep _,this.wsure,this.fuse0,this.fuse1⟩));have K2:=zf ((HC.out.drew).trans (r2.chg.mono (fun k _ e=>(.inr (.inl e):B.S k))));clear r2;go_wp2;go_roundw
      case rel=>exact ⟨k+1,by omega,by go_num,by rw [CS.out];go_num,D2.out,K2.out⟩
      case measure=>simp [intOf];omega
    ·have hge:decide ((keep.length:Int)<=(zdq d.pend k:Int))=true:=by simp;omega
     have SM:=zf (XT d keep k (by rw [hp,zlF,zlP (by omega)];rfl));clear hp;go_wp2;go_still_tail 13,(by kernel_rfl);have HD':=zf (HD.out.chg (zy (fun _=>False) wr) (fun _ _ e=>e));have ls:=H.out.ok.lsure;have ws:=H.out.ok.wsure;have lm:(zZ d keep k).length=B.n:=HD.out.ok.lnow;have wm:∀ s∈zZ d keep k,s.length=32:=HD.out.ok.wnow;have fit1:k*32+32<=(YB d.sure).length:=by rw [Zt ws,ls];omega
     have fit2:k*32+32<=(YB (zZ d keep k)).length:=by rw [Zt wm,lm];omega
     refine YP rfl 202 (.tmp 40) rfl B.bs (k*32) 32 rfl 202 (YB d.sure) (0,0) _ HD'.out.hs Tryz.underlying202 rfl Tryz.size71 fit1 ?_;have e1:=zey wm ws (k:=k) (by rw [lm];exact hlt) (by rw [ls];exact hlt);have l1:(((YB d.sure).drop (k*32)).take 32).length=32:=by simp;omega
     have o1:∀ v∈((YB d.sure).drop (k*32)).take 32,v.oneCell'=true:=fun v hv=>xu _ v (List.mem_of_mem_drop (List.mem_of_mem_take hv));generalize hnew:((YB d.sure).drop (k*32)).take 32=new at *;clear hnew;have E1:=zf e1;have L1:=zf l1;have LM:=zf lm;have LS:=zf ls;have O1:=zf o1;clear e1 l1 lm ls ws wm o1
     repeat still_step
     refine wpStill_nil ?_;refine YQ rfl 202 (.tmp 42) (.tmp 41) rfl B.bn (k*32) 32 rfl new rfl 202 (YB (zZ d keep k)) HD'.out.hn Tryz.size71 L1.out fit2 O1.out ?_;intro w2 r2;rw [E1.out,<- SM.out] at r2;have D2:=zf (HD'.out.now r2 (by have:=HD.out.ok;exact ⟨this.lo,this.hi,by rw [SM.out];simp [LM.out],this.lsure,this.lpend,Yk H.out.ok keep _,this.wsure,this.fuse0,this.fuse1⟩));have K2:=zf ((HC.out.drew).trans (r2.chg.mono (fun k _ e=>(.inr (.inl e):B.S k))));clear r2;go_wp2;go_roundw
     case rel=>exact ⟨k+1,by omega,by go_num,by rw [CS.out];go_num,D2.out,K2.out⟩
     case measure=>simp [intOf];omega
   ·have hp:d.pend.getD k false=false:=by simpa using hp
    rw [hp] at cp;rw [hp,if_neg (by decide)] at cs;have CS:=zf cs;have SM:=zf (Xq d keep k (by rw [hp];rfl));clear cs hp;go_wp2;go_roundw
    case rel=>exact ⟨k+1,by omega,by go_num,by rw [CS.out];rfl,by rw [SM.out];exact HD.out,HC.out⟩
    case measure=>simp [intOf];omega
  ·obtain rfl:k=B.n:=by omega
   go_wp2_with fail;refine (zbb _ B _ HD.out).mono ?_;rintro e w1 ⟨rfl,d1,k1⟩;have c3:=d1.c3;have c4:=d1.c4;have c5:=d1.c5;have f3:w1.frozen? ⟨B.b,3,none⟩=false:=zk d1.hb;have f4:w1.frozen? ⟨B.b,4,none⟩=false:=zk d1.hb;have f5:w1.frozen? ⟨B.b,5,none⟩=false:=zk d1.hb;have D1:=zf d1;have K1:=zf k1;clear d1 k1;go_wp2;go_end0;have d1:=D1.out;have q:=((zA w1 B.b 3 (.int .i64 0)).trans (zA _ B.b 4 (.bool false))).trans (zA _ B.b 5 (.bool false));have hok:=H.out.ok.crash keep
   have e:d.crash keep={ now:=zZ d keep B.n,sure:=zZ d keep B.n,pend:=List.replicate d.pend.length false,fuse:=0,on:=false,dead:=false }:=by
    unfold Dev.crash;rw [H.out.ok.lnow]
   rw [e] at hok ⊢;exact ⟨rfl,d1.head q (zq (zq (zq d1.hb _) _) _) rfl rfl rfl hok,HC.out.trans (K1.out.trans (q.mono (fun k _ e=>.inl e)))⟩
theorem za5 (z:Value) (n:Nat):madeCells #[z] n=(xQ n z).toArray:=by
 unfold madeCells xQ;apply Array.ext
 ·simp
 ·intro i h1 h2;simp [Nat.mod_one]
theorem za4 (z:Value) (k n:Nat) (hk:0 < k):madeCells (Array.replicate k z) n=(xQ n z).toArray:=by
 unfold madeCells xQ;apply Array.ext
 ·simp
 ·intro i h1 h2
  have hm:i % k < k:=Nat.mod_lt _ hk;simp [getElem!_pos,hm]
theorem zhV (n:Nat):YB (List.replicate n zdo)=xQ (n*32) (.int .u8 0):=by
 unfold YB zdo xQ;rw [List.flatten_replicate_replicate];simp [zE,yL]
theorem Tryz.make60 (w:World) (n:Nat) (hn:n<=65):(Instr.makeSlice 151 (.int .i64 n) (.int .i64 n)).run Tryz.prog w=.ok (.slice (some ⟨w.heap.size,0,none⟩) n n) (w.alloc (.cells (YB (List.replicate n zdo)).toArray 202)):=by
 obtain ⟨i,hi,hz0,hz1,hz2⟩:=info_parts (show (Tryz.prog.info? 202).map (fun i=>(i.zero,i.size,i.bytes))=some (some (.agg (Array.replicate 32 (.int .u8 0))),32,32) by kernel_rfl);have:=run_make (P:=Tryz.prog) w 151 202 i _ Tryz.underlying151 hi hz0 .i64 .i64 n n (by omega) (by omega) (by rw [hz2];omega) (by omega);rw [this,hz1];simp only [Int.toNat_natCast,Value.cells];rw [za4 _ _ _ (by decide),zhV]
theorem Tryz.make35 (w:World) (n:Nat) (hn:n<=65):(Instr.makeSlice 97 (.int .i64 n) (.int .i64 n)).run Tryz.prog w=.ok (.slice (some ⟨w.heap.size,0,none⟩) n n) (w.alloc (.cells (xe (List.replicate n false)).toArray 4)):=by
 obtain ⟨i,hi,hz0,hz1,hz2⟩:=info_parts (show (Tryz.prog.info? 4).map (fun i=>(i.zero,i.size,i.bytes))=some (some (.bool false),1,1) by kernel_rfl);have:=run_make (P:=Tryz.prog) w 97 4 i _ Tryz.underlying97 hi hz0 .i64 .i64 n n (by omega) (by omega) (by rw [hz2];omega) (by omega);rw [this,hz1];simp only [Int.toNat_natCast,Value.cells,Nat.mul_one];rw [za5];simp [xe,xQ]
theorem zfQ (w:World) (a b c d:Obj):((((w.alloc a).alloc b).alloc c).alloc d).drew.heap[w.heap.size]? = some a:=yc d (yc c (yc b (zh w a)))
theorem zfP (w:World) (a b c d:Obj):((((w.alloc a).alloc b).alloc c).alloc d).drew.heap[w.heap.size+1]? = some b:=yc d (yc c (by simpa using zh (w.alloc a) b))
theorem zfO (w:World) (a b c d:Obj):((((w.alloc a).alloc b).alloc c).alloc d).drew.heap[w.heap.size+1+1]? = some c:=yc d (by simpa using zh ((w.alloc a).alloc b) c)
theorem zfN (w:World) (a b c d:Obj):((((w.alloc a).alloc b).alloc c).alloc d).drew.heap[w.heap.size+1+1+1]? = some d:=by
 show (((w.alloc a).alloc b).alloc c |>.alloc d).heap[_]? = _
 simpa using zh (((w.alloc a).alloc b).alloc c) d
theorem zbz {w w':World} {bn bs bp n:Nat} (hc:Chg (fun _=>False) w w')
  (h1:w'.heap[bn]? = some (.cells (YB (List.replicate n zdo)).toArray 202 (0,0))) (h2:w'.heap[bs]? = some (.cells (YB (List.replicate n zdo)).toArray 202 (0,0)))
  (h3:w'.heap[bp]? = some (.cells (xe (List.replicate n false)).toArray 4 (0,0)))
  (h0:w'.heap[w.heap.size+1+1+1]? = some (.cells #[.slice (some ⟨bn,0,none⟩) n n,.slice (some ⟨bs,0,none⟩) n n,.slice (some ⟨bp,0,none⟩) n n,.int .i64 0,.bool false,.bool false] 153 (0,0)))
  (hn:3<=n) (hn':n<=65) (q1:bn≠bs) (q2:bn≠bp) (q3:bs≠bp)
  (q4:bn < w.heap.size+3∧bs < w.heap.size+3∧bp < w.heap.size+3∧w.heap.size<=bn∧w.heap.size<=bs∧w.heap.size<=bp):
  ∃ B:DB,Ending.returned (.pointer (some ⟨w.heap.size+1+1+1,0,none⟩))=.returned B.ptr∧B.n=n∧zY w' B (Dev.new n)∧Chg (fun _=>False) w w'∧∀ k,B.S k->w.heap.size<=k∧k < w'.heap.size:=by
 have l:=zu h0;refine ⟨⟨w.heap.size+1+1+1,bn,bs,bp,n⟩,rfl,rfl,⟨h0,h1,h2,h3,Dev.ok_new n hn hn',?_,?_,?_,q1,q2,q3⟩,hc,?_⟩
 ·show w.heap.size+1+1+1≠bn;omega
 ·show w.heap.size+1+1+1≠bs;omega
 ·show w.heap.size+1+1+1≠bp;omega
 ·rintro k (h | h | h | h) <;> dsimp only at h <;> omega
set_option maxRecDepth 100000 in
theorem zed (w:World) (n:Nat) (h3:3<=n) (h65:n<=65):
  Calls Tryz.prog 12 #[.int .i64 n] w fun e w'=>∃ B:DB,e=.returned B.ptr∧B.n=n∧zY w' B (Dev.new n)∧Chg (fun _=>False) w w'∧∀ k,B.S k->w.heap.size<=k∧k < w'.heap.size:=by
 have m60:=fun w=>Tryz.make60 w n h65;have m35:=fun w=>Tryz.make35 w n h65;have hd:decide ((n:Int) < 3)=false:=by simp;omega
 have hd':decide (65 < (n:Int))=false:=by simp;omega
 go_enter Tryz.func12,Tryz.ntmps12;go_wp2;go_region
 all_goals go_wp2
 all_goals go_ret
 ·exact zbz (bn:=w.heap.size) (bs:=w.heap.size+1) (bp:=w.heap.size+1+1) (Chg.alloc (Chg.alloc (Chg.alloc (Chg.alloc (Chg.refl _ _) _) _) _) _).drew (zfQ _ _ _ _ _) (zfP _ _ _ _ _) (zfO _ _ _ _ _) (zfN _ _ _ _ _) h3 h65 (by omega) (by omega) (by omega) (by simp;omega)
 ·exact zbz (bn:=w.heap.size) (bp:=w.heap.size+1) (bs:=w.heap.size+1+1) (Chg.alloc (Chg.alloc (Chg.alloc (Chg.alloc (Chg.refl _ _) _) _) _) _).drew (zfQ _ _ _ _ _) (zfO _ _ _ _ _) (zfP _ _ _ _ _) (zfN _ _ _ _ _) h3 h65 (by omega) (by omega) (by omega) (by simp;omega)
 ·exact zbz (bs:=w.heap.size) (bn:=w.heap.size+1) (bp:=w.heap.size+1+1) (Chg.alloc (Chg.alloc (Chg.alloc (Chg.alloc (Chg.refl _ _) _) _) _) _).drew (zfP _ _ _ _ _) (zfQ _ _ _ _ _) (zfO _ _ _ _ _) (zfN _ _ _ _ _) h3 h65 (by omega) (by omega) (by omega) (by simp;omega)
 ·exact zbz (bs:=w.heap.size) (bp:=w.heap.size+1) (bn:=w.heap.size+1+1) (Chg.alloc (Chg.alloc (Chg.alloc (Chg.alloc (Chg.refl _ _) _) _) _) _).drew (zfO _ _ _ _ _) (zfQ _ _ _ _ _) (zfP _ _ _ _ _) (zfN _ _ _ _ _) h3 h65 (by omega) (by omega) (by omega) (by simp;omega)
 ·exact zbz (bp:=w.heap.size) (bn:=w.heap.size+1) (bs:=w.heap.size+1+1) (Chg.alloc (Chg.alloc (Chg.alloc (Chg.alloc (Chg.refl _ _) _) _) _) _).drew (zfP _ _ _ _ _) (zfO _ _ _ _ _) (zfQ _ _ _ _ _) (zfN _ _ _ _ _) h3 h65 (by omega) (by omega) (by omega) (by simp;omega)
 ·exact zbz (bp:=w.heap.size) (bs:=w.heap.size+1) (bn:=w.heap.size+1+1) (Chg.alloc (Chg.alloc (Chg.alloc (Chg.alloc (Chg.refl _ _) _) _) _) _).drew (zfO _ _ _ _ _) (zfP _ _ _ _ _) (zfQ _ _ _ _ _) (zfN _ _ _ _ _) h3 h65 (by omega) (by omega) (by omega) (by simp;omega)
def zkh (B:DB) (j:Jr):List Value:=[B.ptr,.int .i64 j.number,.int .i64 j.half,.string j.text]
structure JAt (w:World) (B:DB) (b:Nat) (j:Jr):Prop where
  hb:w.heap[b]? = some (.cells (zkh B j).toArray 262 (0,0))
def zc0 (b:Nat):Value:=.pointer (some ⟨b,0,none⟩)
theorem JAt.c0 {w:World} {B:DB} {b:Nat} {j:Jr} (h:JAt w B b j):w.cell? ⟨b,0,none⟩=some (.pointer (some ⟨B.b,0,none⟩)):=zg h.hb rfl
theorem JAt.c1 {w:World} {B:DB} {b:Nat} {j:Jr} (h:JAt w B b j):w.cell? ⟨b,1,none⟩=some (.int .i64 j.number):=zg h.hb rfl
theorem JAt.c2 {w:World} {B:DB} {b:Nat} {j:Jr} (h:JAt w B b j):w.cell? ⟨b,2,none⟩=some (.int .i64 j.half):=zg h.hb rfl
theorem JAt.c3 {w:World} {B:DB} {b:Nat} {j:Jr} (h:JAt w B b j):w.cell? ⟨b,3,none⟩=some (.string j.text):=zg h.hb rfl
theorem JAt.chg {S:Nat->Prop} {w w':World} {B:DB} {b:Nat} {j:Jr} (h:JAt w B b j) (hc:Chg S w w') (hs:¬ S b):JAt w' B b j:=⟨hc.obj hs h.hb⟩
set_option maxRecDepth 100000 in
theorem xk (w:World) (b:Nat) (B:DB) (h0:w.cell? ⟨b,0,none⟩=some (.pointer (some ⟨B.b,0,none⟩))) (h1:w.cell? ⟨B.b,0,none⟩=some (.slice (some ⟨B.bn,0,none⟩) B.n B.n)) (h3:3<=B.n) (h65:B.n<=65):
  Calls Tryz.prog 137 #[zc0 b] w fun e w'=>e=.returned (.int .i64 ((B.n - 1) / 2:Nat))∧w=w':=by
 unfold zc0;go_enter Tryz.func137,Tryz.ntmps137;go_wp2;go_ret;refine ⟨?_,rfl⟩;show Ending.returned (.int .i64 (((B.n:Int) - 1) / 2))=_
 congr 2;omega
set_option maxRecDepth 100000 in
theorem zgt (w:World) (b:Nat) (B:DB) (h0:w.cell? ⟨b,0,none⟩=some (.pointer (some ⟨B.b,0,none⟩))) (h1:w.cell? ⟨B.b,0,none⟩=some (.slice (some ⟨B.bn,0,none⟩) B.n B.n)) (h3:3<=B.n) (h65:B.n<=65):
  Calls Tryz.prog 136 #[zc0 b] w fun e w'=>e=.returned (.int .i64 ((B.n - 1) / 2*32:Nat))∧w=w':=by
 have H:=zf (xk w b B h0 h1 h3 h65);clear h0 h1;unfold zc0;have hle:(B.n - 1) / 2<=32:=by omega
 generalize hs:(B.n - 1) / 2=s at *;go_enter Tryz.func136,Tryz.ntmps136;go_wp2_with fail;refine (H.out).mono ?_;rintro e w' ⟨rfl,rfl⟩;go_wp2;go_ret;refine ⟨by go_num,rfl⟩
set_option maxRecDepth 100000 in
theorem zeP (w:World) (b:Nat) (B:DB) (f:Int) (h0:w.cell? ⟨b,0,none⟩=some (.pointer (some ⟨B.b,0,none⟩))) (h1:w.cell? ⟨B.b,0,none⟩=some (.slice (some ⟨B.bn,0,none⟩) B.n B.n)) (h3:3<=B.n) (h65:B.n<=65) (hf:0<=f) (hf':f<=1):
  Calls Tryz.prog 138 #[zc0 b,.int .i64 f] w fun e w'=>e=.returned (.int .i64 (1+f*((B.n - 1) / 2:Nat)))∧w=w':=by
 have H:=zf (xk w b B h0 h1 h3 h65);clear h0 h1;unfold zc0;have hle:(B.n - 1) / 2<=32:=by omega
 generalize hs:(B.n - 1) / 2=s at *
 have hm:0<=f*(s:Int)∧f*(s:Int)<=32:=by
  rcases (by omega:f=0∨f=1) with rfl | rfl <;> omega
 obtain ⟨hm1,hm2⟩:=hm;go_enter Tryz.func138,Tryz.ntmps138;go_wp2_with fail;refine (H.out).mono ?_;rintro e w' ⟨rfl,rfl⟩;go_wp2;go_ret;exact ⟨rfl,rfl⟩
set_option maxRecDepth 100000 in
theorem zcG (w:World) (B:DB) (b:Nat) (j:Jr) (h:JAt w B b j):
  Calls Tryz.prog 59 #[zc0 b] w fun e w'=>e=.returned (.string j.text)∧w=w':=by
 have c3:=h.c3;clear h;unfold zc0;go_enter Tryz.func59,Tryz.ntmps59;go_wp2;go_ret;exact ⟨rfl,rfl⟩
theorem zkb (n c:Nat) (hn:n < 72057594037927936) (hc:c < 256):bits BinOp.or IntKind.u64 (IntKind.u64.wrap ((n:Int)*256)) (IntKind.u64.wrap (c:Int))=((n*256+c:Nat):Int):=by
 have e1:IntKind.u64.wrap ((n:Int)*256)=((n*256:Nat):Int):=by rw [IntKind.wrap_u64];omega
 have e2:IntKind.u64.wrap (c:Int)=(c:Int):=by rw [IntKind.wrap_u64];omega
 rw [e1,e2,bits_or_u64_nat _ _ (by omega) (by omega),nat_join 8 (n*256) c (by simp) (by omega)]
theorem zco (n:Nat) (hn:n < 18446744073709551616):wrap64 (n:Int)=ziq n:=by
 unfold wrap64 ziq;split <;> omega
theorem zld:(256:Nat) ^ 8=18446744073709551616:=by simp
theorem zkd (a c:Nat) (ha:a < 256) (hc:c < 256):bits BinOp.or IntKind.i64 ((a*256:Nat):Int) (c:Int)=((a*256+c:Nat):Int):=by
 have h1:(BitVec.ofInt 64 ((a*256:Nat):Int)).toNat=a*256:=by
  rw [BitVec.ofInt_natCast,BitVec.toNat_ofNat];exact Nat.mod_eq_of_lt (by omega)
 have h2:(BitVec.ofInt 64 (c:Int)).toNat=c:=by
  rw [BitVec.ofInt_natCast,BitVec.toNat_ofNat];exact Nat.mod_eq_of_lt (by omega)
 show IntKind.i64.wrap ((BitVec.ofInt 64 ((a*256:Nat):Int) ||| BitVec.ofInt 64 (c:Int)).toNat:Int)=_;rw [BitVec.toNat_or,h1,h2,nat_join 8 (a*256) c (by simp) (by omega),IntKind.wrap_i64];omega
theorem zb5 (l:List UInt8) (k:Nat) (h:k < l.length):∃ x:Nat,x < 256∧Hid ((l.getD k 0).toNat=x)∧wrap64 ((({ data:=l.toArray }:ByteArray)[k]'(by simpa [ByteArray.size] using h)).toNat:Int)=(x:Int):=by
 refine ⟨(l.getD k 0).toNat,UInt8.toNat_lt _,rfl,?_⟩
 have e:(({ data:=l.toArray }:ByteArray)[k]'(by simpa [ByteArray.size] using h))=l.getD k 0:=by
  rw [zlF,zlz h];rfl
 rw [e];have:=UInt8.toNat_lt (l.getD k 0);unfold wrap64;omega
def ziP (w:World) (B:DB) (d:Dev) (e:Ending) (w':World):Prop:=
  (d.bad∧e=.returned (.tuple #[.pointer none,.int .i64 2])∧Chg (fun _=>False) w w') ∨
  (¬ d.bad∧∃ b,e=.returned (.tuple #[zc0 b,.int .i64 0])∧JAt w' B b ⟨ziX d.hd,Xm d.hd,⟨d.text.toArray⟩⟩∧Chg (fun _=>False) w w'∧w.heap.size<=b∧b < w'.heap.size)
theorem Tryz.byteInfo:(Tryz.prog.info? 5).map (fun i=>(i.zero,i.size,i.bytes))=some (some (.int .u8 0),1,1):=by kernel_rfl
set_option maxHeartbeats 1000000 in
set_option maxRecDepth 100000 in
theorem zbZ (w:World) (B:DB) (d:Dev) (h:zY w B d):
  Calls Tryz.prog 56 #[B.ptr] w (ziP w B d):=by
 have c0:=h.c0;have n65:=h.ok.hi;have n3:=h.ok.lo;have H:=zf h;clear h;unfold DB.ptr;have s0:=yy H.out.ok.wnow (i:=0) (by rw [H.out.ok.lnow];omega);have RD:=zf (zgB w B d 0 H.out (by omega));have hm:d.m=(B.n - 1) / 2:=by unfold Dev.m;rw [H.out.ok.lnow]
 have HM:=zf hm;change (d.hd).length=32 at s0;change Hid (Calls Tryz.prog 135 #[B.ptr,.int .i64 0] w fun e w'=>e=.returned (.string ⟨(d.hd).toArray⟩)∧w=w') at RD;generalize hhd:d.hd=hd at *;have HHD:=zf hhd;clear hm hhd;go_enter Tryz.func56,Tryz.ntmps56;go_wp2_with fail;refine (zaJ _ _ _ _ _ _ _ c0 (by omega) (by omega)).mono ?_;rintro e w' ⟨rfl,rfl⟩;go_wp2_with fail;refine (RD.out).mono ?_;rintro e w' ⟨rfl,rfl⟩;go_wp2;go_loop [5,20] (fun x i=>∃ k:Nat,k<=8∧i=.int .i64 k∧x=.int .u64 (be (hd.take k))) (fun _ i=>8 - (intOf i).toNat)
 case atStart=>exact ⟨0,by omega,rfl,by simp [be]⟩
 case round=>
  obtain ⟨k,hk,rfl,rfl⟩:=hrel;have lt0:=zkY (hd.take k);rw [zlE] at lt0;have lt1:be (hd.take k) < 256 ^ k:=zlG lt0 (Nat.pow_le_pow_right (by decide) (by omega));by_cases hlt:k < 8
  ·have lt2:be (hd.take k) < 72057594037927936:=zlG lt1 (Nat.le_trans (Nat.pow_le_pow_right (by decide) (by omega:k<=7)) (by decide))
   have sn:=zjE (hd.take k) (hd[k]'(by omega));rw [<- List.take_succ_eq_append_getElem] at sn;have SN:=zf sn;have LT:=zf lt2;clear sn lt0 lt1 lt2;generalize be (hd.take k)=n at *;go_wp2;go_round
   case rel=>
    refine ⟨k+1,by omega,by go_num,?_⟩;rw [SN.out];exact congrArg (Value.int .u64) (zkb n _ LT.out (UInt8.toNat_lt _))
   case measure=>simp [intOf];omega
  ·obtain rfl:k=8:=by omega
   have hnum8:wrap64 (be (hd.take 8):Int)=ziX hd:=by
    rw [zld] at lt1;exact zco _ lt1
   have HN:=zf hnum8;clear lt0 lt1 hnum8;generalize hn:be (hd.take 8)=n at *;clear hn;obtain ⟨x8,q8,HX8,e8⟩:=zb5 hd 8 (by omega);obtain ⟨x9,q9,HX9,e9⟩:=zb5 hd 9 (by omega);obtain ⟨x10,q10,HX10,e10⟩:=zb5 hd 10 (by omega);have e9':=e9;have e10':=e10;unfold wrap64 at e9' e10';rw [<- IntKind.wrap_i64] at e9' e10';have m9:IntKind.i64.wrap ((x9:Int)*256)=(x9:Int)*256:=by rw [IntKind.wrap_i64];omega
   obtain ⟨sz,hsz,o1⟩:∃ sz:Nat,Hid (xy hd=sz)∧bits BinOp.or IntKind.i64 ((x9:Int)*256) (x10:Int)=(sz:Int):=
    ⟨x9*256+x10,by show xy hd=_;unfold xy;rw [HX9.out,HX10.out],by rw [show ((x9:Int)*256)=((x9*256:Nat):Int) from by omega];exact zkd x9 x10 q9 q10⟩
   have hszl:sz < 65536:=by have:=zir hd;rw [hsz.out] at this;exact this
   have HBAD:=zf (show d.bad↔(1 < x8∨(B.n - 1) / 2*32 < sz) by unfold Dev.bad;rw [HHD.out,HM.out,hsz.out,show Xm hd=x8 from HX8.out]);go_wp2;obtain ⟨w1,hw1⟩:∃ w1,w1=w.alloc (.cells #[.pointer (some ⟨B.b,0,none⟩),.int .i64 (wrap64 n),.int .i64 x8,.string ⟨#[]⟩] 262):=⟨_,rfl⟩;rw [<- hw1];have k1:Chg (fun _=>False) w w1:=by rw [hw1];exact zi _ _ _
   have j1:w1.heap[w.heap.size]? = some (.cells #[.pointer (some ⟨B.b,0,none⟩),.int .i64 (wrap64 n),.int .i64 x8,.string ⟨#[]⟩] 262 (0,0)):=by rw [hw1];exact zh _ _
   have K1:=zf k1;have J1:=zf j1;clear hw1 k1 j1;refine zP (by kernel_rfl) (by kernel_rfl) ?_
   repeat still_step
   refine wpStill_nil ?_;have K2:=zf K1.out.drew;have J2:Hid (w1.drew.heap[w.heap.size]? = _):=zf J1.out;have D2:=zf (H.out.chg K2.out (fun _ _ e=>e));clear K1 J1;generalize w1.drew=w2 at *;have d0:=D2.out.c0;have j0:w2.cell? ⟨w.heap.size,0,none⟩=some (.pointer (some ⟨B.b,0,none⟩)):=zg J2.out rfl;have j2:w2.cell? ⟨w.heap.size,2,none⟩=some (.int .i64 x8):=zg J2.out rfl;by_cases h1:1 < x8
   ·go_wp2
    go_ret2;exact .inl ⟨HBAD.out.2 (.inl h1),rfl,K2.out⟩
   ·have hh1:decide (1 < (x8:Int))=false:=by simp;omega
    have ROOM:=zf (zgt w2 w.heap.size B j0 d0 n3 n65);have hle:(B.n - 1) / 2<=32:=by omega
    generalize hms:(B.n - 1) / 2=m at *;go_wp2_with fail;refine (ROOM.out).mono ?_;rintro e w' ⟨rfl,rfl⟩;by_cases h2:m*32 < sz
    ·go_wp2
     go_ret2;exact .inl ⟨HBAD.out.2 (.inr h2),rfl,K2.out⟩
    ·have hh2:decide (((m*32:Nat):Int) < (sz:Int))=false:=by simp;omega
     have hm1:1<=m:=by omega
     obtain ⟨i5,hi5,z50,z51,z52⟩:=info_parts Tryz.byteInfo;have SEC:=zf (xk w2 w.heap.size B j0 d0 n3 n65);rw [hms] at SEC;have HMS:=zf hms;clear hms;have kz:=K2.out.size;have jz:=zu J2.out;go_wp2_with fail;refine (ROOM.out).mono ?_;rintro e w' ⟨rfl,rfl⟩;go_wp2_with (at_make;refine wpList_make_own _ rfl (.const (.int .i64 0)) (.tmp 59) 23 rfl w2.heap.size 5 i5 _ 1 Tryz.underlying23 hi5 z50 z51 _ _ _ (m*32) rfl rfl rfl ?b2 ?b3 (zlS _) ?next)
     case b2=>rw [z52];omega
     case b3=>unfold maxLen;omega
     case next=>
      intro w3 own3 g3;have K3:=zf (K2.out.grown g3 (fun k e=>by cases e));have C3:=zf (Chg.of_grown g3);have J3:=zf (C3.out.obj (fun e=>by cases e) J2.out);have D3:=zf (D2.out.chg C3.out (fun _ _ e=>by cases e));have O3:=zf own3;have SEC3:=zf (xk w3 w.heap.size B (zg J3.out rfl) D3.out.c0 n3 n65);rw [HMS.out] at SEC3;have wz:=g3.size;clear own3 g3 j0 j2 d0 SEC ROOM;go_wp2_with fail;refine (SEC3.out).mono ?_;rintro e w' ⟨rfl,rfl⟩;go_wp2;go_loopw [9,63] (fun v i wr=>∃ k:Nat,k<=m∧i=.int .i64 k∧wr.ownsRow w2.heap.size 5 1 v (32*k) (zE (d.areaTo x8 k))∧Chg (fun k=>w2.heap.size<=k) w3 wr) (fun _ i _=>m - (intOf i).toNat)
      case atStart=>exact ⟨0,Nat.zero_le _,rfl,by simpa [Dev.areaTo,zE] using O3.out,Chg.refl _ _⟩
      case round=>
       obtain ⟨k,hk,rfl,hown,hc⟩:=hrel;have HO:=zf hown;have HC:=zf hc;have JR:=zf (HC.out.obj (by omega) J3.out)
       have DR:=zf (D3.out.chg HC.out (fun k hk hk'=>by
        have:k < w.heap.size:=by
         rcases hk with rfl | rfl | rfl | rfl
         ·exact zu H.out.hb
         ·exact zu H.out.hn
         ·exact zu H.out.hs
         ·exact zu H.out.hp
        omega))
       clear hown hc;by_cases hlt:k < m
       ·have j2:wr.cell? ⟨w.heap.size,2,none⟩=some (.int .i64 x8):=zg JR.out rfl
        have FST:=zf (zeP wr w.heap.size B x8 (zg JR.out rfl) DR.out.c0 n3 n65 (by omega) (by omega));rw [HMS.out] at FST;have hx8:x8*m<=m:=by rcases (by omega:x8=0∨x8=1) with rfl | rfl <;> omega
        have READ:=zf (zgB wr B d (1+x8*m+k) DR.out (by have:=HMS.out;omega));have AR:=zf (Dev.areaTo_succ d x8 k);rw [HM.out] at AR;have LN:=zf (yy D3.out.ok.wnow (i:=1+x8*m+k) (by rw [D3.out.ok.lnow];have:=HMS.out;omega));have px:(x8:Int)*(m:Int)=((x8*m:Nat):Int):=by push_cast;rfl
        rw [px] at FST;generalize x8*m=p at *;clear px;go_wp2_with fail;refine (FST.out).mono ?_;rintro e w' ⟨rfl,rfl⟩;go_wp2_with fail;rw [show ((1:Int)+(p:Int)+(k:Int))=((1+p+k:Nat):Int) from by omega];refine (READ.out).mono ?_;rintro e w' ⟨rfl,rfl⟩;generalize d.now.getD (1+p+k) []=sec at *;have hsz':(⟨sec.toArray⟩:ByteArray).size=32:=by simpa [ByteArray.size] using LN.out
        have HSZ:=zf hsz';clear hsz';go_wp2_with (at_builtin;refine Yd rfl (.tmp 66) (.tmp 76) 23 9 rfl 5 Tryz.underlying23 Tryz.underlying9 Tryz.byteInfo w2.heap.size _ _ _ rfl HO.out ⟨sec.toArray⟩ rfl ?p1 ?p2 ?next2)
        case p1=>rw [HSZ.out];omega
        case p2=>have:=HC.out.size;omega
        case next2=>
         intro v' w4 own4 g4;have O4:=zf own4;have G4:=zf g4;clear own4 g4;go_wp2;go_roundw
         case rel=>
          refine ⟨k+1,by omega,by go_num,?_,HC.out.grown G4.out (fun j hj _=>(zka HO.out j hj).1)⟩;have:=O4.out;rw [LN.out] at this;rw [AR.out,show 32*(k+1)=32*k+32 from by omega]
          simpa [zE] using this
         case measure=>simp [intOf];omega
       ·obtain rfl:k=m:=by omega
        obtain ⟨g,cap,rfl,hg,hcap,hcm,hcell⟩:=zgE HO.out (by omega);have la:=Dev.areaTo_length D3.out.ok x8 (by omega) k (by rw [HM.out];exact zlS _)
        have hcv:=run_convert_bytes_arg (P:=Tryz.prog) wr 23 5 Tryz.underlying23 Tryz.underlying5 g 0 sz cap ((((d.areaTo x8 k).take sz)).map fun c=>(c.toNat:Int)) (by rw [zlD,zlE];omega)
         (fun i hi=>by
          rw [Nat.zero_add];refine hcell i _ ?_
          have e:(zE (d.areaTo x8 k))[i]? = (zE ((d.areaTo x8 k).take sz))[i]?:=by
           unfold zE;rw [List.map_take,List.getElem?_take,if_pos hi]
          rw [e];exact yq _ _ (by rw [zlE];omega)) 9 Tryz.underlying9
        rw [ZA] at hcv;have TX:=zf (show (d.areaTo x8 k).take sz=d.text by unfold Dev.text Dev.area;rw [HHD.out,HM.out,hsz.out,show Xm hd=x8 from HX8.out]);unfold maxLen at hcm;have j3:wr.cell? ⟨w.heap.size,3,none⟩=some (.string ⟨#[]⟩):=zg JR.out rfl;have f3:wr.frozen? ⟨w.heap.size,3,none⟩=false:=zk JR.out;have HLA:=zf la;clear hcell la;generalize (d.areaTo x8 k).take sz=tx at *;go_wp2;go_ret2
        have k4:Chg (fun _=>False) w wr:=⟨HC.out.os.trans K3.out.os,HC.out.tape.trans K3.out.tape,HC.out.output.trans K3.out.output,Nat.le_trans K3.out.size HC.out.size,
         fun i hi _=>by rw [HC.out.block i (by have:=K3.out.size;omega) (by omega)];exact K3.out.block i hi (fun e=>e)⟩
        have kk:Chg (fun _=>False) w (wr.setCell ⟨w.heap.size,3,none⟩ (.string ⟨tx.toArray⟩)):=k4.setCell (fun e=>absurd e (Nat.lt_irrefl _)) _;refine .inr ⟨fun hb=>?_,w.heap.size,rfl,⟨?_⟩,kk,zlS _,?_⟩
        ·rcases HBAD.out.1 hb with h | h <;> omega
        ·rw [zq JR.out]
         rw [HHD.out,<- HN.out,<- TX.out,show Xm hd=x8 from HX8.out];rfl
        ·have:=zu JR.out;simpa [World.setCell] using this
theorem zdI {P:Program} (w:World) (src e dst:TypeId) (hs:P.underlying src=some (.slice e)) (he:P.underlying e=some (.int .u8)) (hd:P.underlying dst=some .string) (g o n cap:Nat) (cur:List Value) (t:TypeId) (fz:Nat × Nat)
  (hg:w.heap[g]? = some (.cells cur.toArray t fz)) (l:List UInt8) (hl:l.length=n) (hseg:(cur.drop o).take n=zE l):
  (convert src dst (.slice (some ⟨g,o,none⟩) n cap)).run P w=.ok (.string ⟨l.toArray⟩) w:=by
 have:=run_convert_bytes_arg (P:=P) w src e hs he g o n cap (l.map fun c=>(c.toNat:Int)) (by rw [zlD,hl]) (fun i hi=>by
  refine zg hg ?_;rw [<- yq l i (by omega),<- hseg,List.getElem?_take,if_pos hi,List.getElem?_drop,zlu]) dst hd
 rw [ZA] at this;exact this
def yg (l:List UInt8) (k:Nat):List Value:=zE (l.take k)++xQ (l.length - k) (.int .u8 0)
theorem XO (l:List UInt8) (k:Nat) (hk:k < l.length):(yg l k).toArray[k]? = some (.int .u8 0):=by
 have:(zE (l.take k)).length=k:=by rw [ZJ,zlE];omega
 rw [zlu];unfold yg xQ;rw [List.getElem?_append_right (by omega),this,Nat.sub_self,List.getElem?_replicate,if_pos (by omega)]
theorem Xi (l:List UInt8) (k j:Nat) (hk:k<=j) (hj:j < l.length):(yg l k).toArray[j]? = some (.int .u8 0):=by
 have:(zE (l.take k)).length=k:=by rw [ZJ,zlE];omega
 rw [zlu];unfold yg xQ;rw [List.getElem?_append_right (by omega),this,List.getElem?_replicate,if_pos (by omega)]
theorem Yi (l:List UInt8) (k:Nat) (hk:k < l.length) (v:Value) (hv:v=yL (l.getD k 0)):(yg l k).toArray.setIfInBounds k v=(yg l (k+1)).toArray:=by
 have h1:(zE (l.take k)).length=k:=by rw [ZJ,zlE];omega
 rw [List.setIfInBounds_toArray]
 congr 1
 unfold yg xQ;obtain ⟨m,hm⟩:∃ m,l.length - k=m+1:=⟨l.length - k - 1,by omega⟩;rw [List.set_append_right _ _ (by omega),h1,Nat.sub_self,hm,show l.length - (k+1)=m from by omega,List.replicate_succ,List.set_cons_zero];rw [List.take_succ_eq_append_getElem hk,hv,zlF,zlz hk];unfold zE;rw [List.map_append,List.append_assoc];rfl
theorem zb3 (l:List UInt8):yg l 0=xQ l.length (.int .u8 0):=by simp [yg,zE]
theorem zcW (l:List UInt8):yg l l.length=zE l:=by simp [yg,xQ]
theorem zb8 (x:Int) (half n k:Nat) (hk:k < 8):
  Value.int .u8 (IntKind.u64.wrap x / 2 ^ (8*(7 - k)) % 256)=yL ((zD x half n).getD k 0):=by
 have e:(zD x half n).getD k 0=UInt8.ofNat (yx x k):=by
  unfold zD;rw [zlF,List.getElem?_append_left (by simpa using hk),zlK,List.getElem?_range hk];rfl
 rw [e];unfold yL
 have h2:(UInt8.ofNat (yx x k)).toNat=yx x k:=by
  rw [UInt8.toNat_ofNat'];unfold yx;omega
 rw [h2,IntKind.wrap_u64];unfold yx
 congr 1
 have hnn:0<=x % 18446744073709551616:=Int.emod_nonneg _ (by decide);rw [Int.natCast_emod,Int.natCast_ediv,Int.natCast_pow,Int.toNat_of_nonneg hnn];rfl
theorem zho (m:Nat) (z:Int) (hz:z=m % 256):Value.int .u8 z=yL (UInt8.ofNat m):=by
 subst hz;unfold yL;rw [UInt8.toNat_ofNat'];congr 1
set_option maxRecDepth 100000 in
theorem zis (w:World) (x:Int) (half n:Nat) (hh:half<=1) (hn:n<=2000):
  Calls Tryz.prog 142 #[.int .i64 x,.int .i64 half,.int .i64 n] w fun e w'=>e=.returned (.string ⟨(zD x half n).toArray⟩)∧Chg (fun _=>False) w w':=by
 have ll:=yK x half n;have HNUM:=zf (fun k hk=>zb8 x half n k hk);have B8:=zf (show (zD x half n).getD 8 0=UInt8.ofNat half from rfl);have B9:=zf (show (zD x half n).getD 9 0=UInt8.ofNat (n / 256) from rfl);have B10:=zf (show (zD x half n).getD 10 0=UInt8.ofNat n from rfl);generalize zD x half n=L at *;have LL:=zf ll;clear ll;go_enter Tryz.func142,Tryz.ntmps142;go_wp2;go_loopw [9] (fun i wr=>∃ k:Nat,k<=8∧i=.int .i64 k∧wr.heap[w.heap.size]? = some (.cells (yg L k).toArray 324 (0,0))∧Chg (fun _=>False) w wr) (fun i _=>8 - (intOf i).toNat)
 case atStart=>exact ⟨0,by omega,rfl,by rw [zb3,LL.out];exact zh _ _,zi _ _ _⟩
 case round=>
  obtain ⟨k,hk,rfl,hb,hc⟩:=hrel;by_cases hlt:k < 8
  ·have cc:wr.cell? ⟨w.heap.size,k,none⟩=some (.int .u8 0):=zg hb (XO L k (by rw [LL.out];omega))
   have ff:wr.frozen? ⟨w.heap.size,k,none⟩=false:=zk hb;have HB:=zf hb;have HC:=zf hc;clear hb hc;go_wp2;go_roundw
   case rel=>
    refine ⟨k+1,by omega,by go_num,?_,HC.out.setCell (fun e=>absurd e (Nat.lt_irrefl _)) _⟩;rw [zq HB.out,Yi L k (by rw [LL.out];omega) _ (HNUM.out k hlt)]
   case measure=>simp [intOf];omega
  ·obtain rfl:k=8:=by omega
   have c8:wr.cell? ⟨w.heap.size,8,none⟩=some (.int .u8 0):=zg hb (XO L 8 (by rw [LL.out];omega));have f8:wr.frozen? ⟨w.heap.size,8,none⟩=false:=zk hb;have c9:wr.cell? ⟨w.heap.size,9,none⟩=some (.int .u8 0):=zg hb (Xi L 8 9 (by omega) (by rw [LL.out];omega));have f9:wr.frozen? ⟨w.heap.size,9,none⟩=false:=zk hb;have c10:wr.cell? ⟨w.heap.size,10,none⟩=some (.int .u8 0):=zg hb (Xi L 8 10 (by omega) (by rw [LL.out];omega));have f10:wr.frozen? ⟨w.heap.size,10,none⟩=false:=zk hb;obtain ⟨w5,hw5⟩:∃ w5,w5=((wr.setCell ⟨w.heap.size,8,none⟩ (.int .u8 half)).setCell ⟨w.heap.size,9,none⟩ (.int .u8 ((n:Int) / 256))).setCell ⟨w.heap.size,10,none⟩ (.int .u8 ((n:Int) % 256)):=⟨_,rfl⟩
   have h5:w5.heap[w.heap.size]? = some (.cells (zE L).toArray 324 (0,0)):=by
    rw [hw5,zq (zq (zq hb _) _) _,Yi L 8 (by rw [LL.out];omega) _ (by rw [B8.out];exact ZR half _ (by omega) rfl),
     Yi L 9 (by rw [LL.out];omega) _ (by rw [B9.out];exact ZR (n / 256) _ (by omega) (by omega)),Yi L 10 (by rw [LL.out];omega) _ (by rw [B10.out];exact zho n _ (by omega))]
    have:=zcW L;rw [LL.out] at this;rw [this]
   have k5:Chg (fun _=>False) w w5:=by
    rw [hw5];exact ((hc.setCell (fun e=>absurd e (Nat.lt_irrefl _)) _).setCell (fun e=>absurd e (Nat.lt_irrefl _)) _).setCell (fun e=>absurd e (Nat.lt_irrefl _)) _
   have hcv:=zdI (P:=Tryz.prog) w5 23 5 9 Tryz.underlying23 Tryz.underlying5 Tryz.underlying9 w.heap.size 0 11 11 (zE L) 324 (0,0) h5 L LL.out (by rw [List.drop_zero,List.take_of_length_le (by rw [ZJ,LL.out];omega)]);have K5:=zf k5;have HB:=zf hb;have HC:=zf hc;rw [hw5] at hcv;have HW5:=zf hw5;clear hb hc h5 k5 hw5;go_wp2;go_ret;rw [<- HW5.out];exact ⟨rfl,K5.out⟩
end Go.Proofs.YtcilaocknhphnaaGreat
