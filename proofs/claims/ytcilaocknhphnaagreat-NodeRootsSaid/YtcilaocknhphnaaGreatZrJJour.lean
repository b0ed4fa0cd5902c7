/-
  The device of package journal: its functions, each by a contract over the plain model. The device of package journal: Write. The device of package journal: settle, Barrier, Read, Fuse, Dead, and Write at any input. The device of package journal: Pending, Crash, Device. The device of package journal: Device. Package journal: sectors, first, Room, Record, Number, head.
-/
import Derived.Test.YtcilaocknhphnaaGreatZrCCert1
import Derived.Test.YtcilaocknhphnaaGreatZrKit2
import Derived.Test.YtcilaocknhphnaaGreatZrJModel
import Derived.StillTailTactics
import Derived.Handy
namespace Go.Proofs.YtcilaocknhphnaaGreat
open Go.RowKit
structure DB where
  b:Nat
  bn:Nat
  bs:Nat
  bp:Nat
  n:Nat
def DB.S (B:DB) (k:Nat):Prop:=k=B.b∨k=B.bn∨k=B.bs∨k=B.bp
def DB.head (B:DB) (d:Dev):List Value:=
  [.slice (some ⟨B.bn,0,none⟩) B.n B.n,.slice (some ⟨B.bs,0,none⟩) B.n B.n,.slice (some ⟨B.bp,0,none⟩) B.n B.n,.int .i64 d.fuse,.bool d.on,.bool d.dead]
def XE (l:List (List UInt8)):List Value:=zu l.flatten
def yU (l:List Bool):List Value:=l.map .bool
def DB.ptr (B:DB):Value:=.pointer (some ⟨B.b,0,none⟩)
structure zF (w:World) (B:DB) (d:Dev):Prop where
  hb:w.heap[B.b]? = some (.cells (B.head d).toArray 153 (0,0))
  hn:w.heap[B.bn]? = some (.cells (XE d.now).toArray 202 (0,0))
  hs:w.heap[B.bs]? = some (.cells (XE d.sure).toArray 202 (0,0))
  hp:w.heap[B.bp]? = some (.cells (yU d.pend).toArray 4 (0,0))
  ok:d.Ok B.n
  n1:B.b≠B.bn
  n2:B.b≠B.bs
  n3:B.b≠B.bp
  n4:B.bn≠B.bs
  n5:B.bn≠B.bp
  n6:B.bs≠B.bp

theorem zF.chg {w w':World} {B:DB} {d:Dev} {S:Nat->Prop} (h:zF w B d) (hc:Chg S w w') (hd:∀ k,B.S k->¬ S k):zF w' B d:=
  ⟨hc.obj (hd _ (.inl rfl)) h.hb,hc.obj (hd _ (.inr (.inl rfl))) h.hn,hc.obj (hd _ (.inr (.inr (.inl rfl)))) h.hs,hc.obj (hd _ (.inr (.inr (.inr rfl)))) h.hp,h.ok,h.n1,h.n2,h.n3,h.n4,h.n5,h.n6⟩
theorem zF.c0 {w:World} {B:DB} {d:Dev} (h:zF w B d):w.cell? ⟨B.b,0,none⟩=some (.slice (some ⟨B.bn,0,none⟩) B.n B.n):=zg h.hb rfl
theorem zF.c1 {w:World} {B:DB} {d:Dev} (h:zF w B d):w.cell? ⟨B.b,1,none⟩=some (.slice (some ⟨B.bs,0,none⟩) B.n B.n):=zg h.hb rfl
theorem zF.c2 {w:World} {B:DB} {d:Dev} (h:zF w B d):w.cell? ⟨B.b,2,none⟩=some (.slice (some ⟨B.bp,0,none⟩) B.n B.n):=zg h.hb rfl
theorem zF.c3 {w:World} {B:DB} {d:Dev} (h:zF w B d):w.cell? ⟨B.b,3,none⟩=some (.int .i64 d.fuse):=zg h.hb rfl
theorem zF.c4 {w:World} {B:DB} {d:Dev} (h:zF w B d):w.cell? ⟨B.b,4,none⟩=some (.bool d.on):=zg h.hb rfl
theorem zF.c5 {w:World} {B:DB} {d:Dev} (h:zF w B d):w.cell? ⟨B.b,5,none⟩=some (.bool d.dead):=zg h.hb rfl
theorem zF.head {w w':World} {B:DB} {d d':Dev} (h:zF w B d) (hc:Chg (·=B.b) w w') (hb:w'.heap[B.b]? = some (.cells (B.head d').toArray 153 (0,0)))
    (e1:d'.now=d.now) (e2:d'.sure=d.sure) (e3:d'.pend=d.pend) (ok:d'.Ok B.n):zF w' B d':=
  ⟨hb,by rw [e1];exact hc.obj (fun e=>h.n1 e.symm) h.hn,by rw [e2];exact hc.obj (fun e=>h.n2 e.symm) h.hs,by rw [e3];exact hc.obj (fun e=>h.n3 e.symm) h.hp,ok,h.n1,h.n2,h.n3,h.n4,h.n5,h.n6⟩
set_option maxRecDepth 100000 in
theorem Xh (b o:Nat) (i:Int) (a:Option Addr) (n c:Nat) (w:World)
    (h0:w.cell? ⟨b,o,none⟩=some (.slice a n c)) (h1:0<=i) (h2:i < n):
    Calls Tryz.prog 134 #[.pointer (some ⟨b,o,none⟩),.int .i64 i] w fun e w'=>e=.returned (.bool true)∧w=w':=by
  go_enter Tryz.func134,Tryz.ntmps134;go_wp2;go_ret;exact ⟨rfl,rfl⟩
set_option maxRecDepth 100000 in
theorem zf5 (b o:Nat) (i:Int) (a:Option Addr) (n c:Nat) (w:World)
    (h0:w.cell? ⟨b,o,none⟩=some (.slice a n c)) (h1:i < 0∨n<=i):
    Calls Tryz.prog 134 #[.pointer (some ⟨b,o,none⟩),.int .i64 i] w fun e w'=>e=.returned (.bool false)∧w=w':=by
  by_cases h:i < 0
  · have hd:decide (0<=i)=false:=by simp;omega
    clear h1;go_enter Tryz.func134,Tryz.ntmps134;go_wp2;go_ret;exact ⟨rfl,rfl⟩
  · have hd:decide (i < n)=false:=by simp;omega
    have hd2:0<=i:=by omega
    clear h1 h;go_enter Tryz.func134,Tryz.ntmps134;go_wp2;go_ret;exact ⟨rfl,rfl⟩
set_option maxRecDepth 100000 in
theorem zbu (w:World) (B:DB) (d:Dev) (h:zF w B d) (hs:d.stops=true):
    Calls Tryz.prog 210 #[B.ptr] w fun e w'=>e=.returned (.int .i64 20)∧zF w' B d.burnt∧Chg (·=B.b) w w':=by
  have c3:=h.c3;have c4:=h.c4;have c5:=h.c5;have f5:w.frozen? ⟨B.b,5,none⟩=false:=zn h.hb;have H:=zf h;clear h;have e:d.burnt={ d with dead:=true }:=by simp [Dev.burnt,hs]
  have HE:=zf e;clear e;unfold DB.ptr;by_cases hx:d.on=true∧d.fuse=0
  · obtain ⟨ho,hz⟩:=hx
    rw [ho] at c4;rw [hz] at c3;clear hs;go_enter Tryz.func210,Tryz.ntmps210;go_wp2;go_ret;refine ⟨rfl,?_,zy _ _ _ _⟩;have h:=H.out;rw [HE.out];exact h.head (zy _ _ _ _) (zk h.hb _) rfl rfl rfl ⟨h.ok.lo,h.ok.hi,h.ok.lnow,h.ok.lsure,h.ok.lpend,h.ok.wnow,h.ok.wsure,h.ok.fuse0,h.ok.fuse1⟩
  · have hd:d.dead=true:=by
      simp [Dev.stops] at hs;rcases hs with hs | hs
      · exact hs
      · exact absurd hs hx
    rw [hd] at c5;clear hs
    have fin:zF w B d.burnt:=by
      have h:=H.out;rw [HE.out];have:d={ d with dead:=true }:=by cases d;simp at hd;subst hd;rfl
      rw [<- this];exact h
    have FIN:=zf fin;clear fin hd;by_cases ho:d.on=true
    · have hz:(d.fuse == 0)=false:=by simp;exact fun e=>hx ⟨ho,e⟩
      rw [ho] at c4;clear hx ho;go_enter Tryz.func210,Tryz.ntmps210;go_wp2;go_ret;exact ⟨rfl,FIN.out,Chg.refl _ _⟩
    · have ho':d.on=false:=by simpa using ho
      rw [ho'] at c4;clear hx ho ho';go_enter Tryz.func210,Tryz.ntmps210;go_wp2;go_ret;exact ⟨rfl,FIN.out,Chg.refl _ _⟩
set_option maxRecDepth 100000 in
theorem zea (w:World) (B:DB) (d:Dev) (h:zF w B d) (hs:d.stops=false):
    Calls Tryz.prog 210 #[B.ptr] w fun e w'=>e=.returned (.int .i64 0)∧zF w' B d.burnt∧Chg (·=B.b) w w':=by
  have c3:=h.c3;have c4:=h.c4;have c5:=h.c5;have f3:w.frozen? ⟨B.b,3,none⟩=false:=zn h.hb;have q0:=h.ok.fuse0;have q1:=h.ok.fuse1;have HOK:=zf h.ok.burnt;have H:=zf h;clear h;have e:d.burnt={ d with fuse:=if d.on then d.fuse - 1 else d.fuse }:=by simp [Dev.burnt,hs]
  have HE:=zf e;clear e;have hd:d.dead=false:=by simp [Dev.stops] at hs;exact hs.1
  rw [hd] at c5;unfold DB.ptr;by_cases ho:d.on=true
  · have hz:(d.fuse == 0)=false:=by simp [Dev.stops,hd,ho] at hs;simpa using hs
    have hz':1<=d.fuse:=by simp at hz;omega
    rw [ho] at c4;have HO:=zf ho;clear hs ho hd;go_enter Tryz.func210,Tryz.ntmps210;go_wp2;go_ret;refine ⟨rfl,?_,zy _ _ _ _⟩;have h:=H.out;have hok:=HOK.out;have e2:d.burnt={ d with fuse:=d.fuse - 1 }:=by rw [HE.out,if_pos HO.out]
    rw [e2] at hok ⊢;exact h.head (zy _ _ _ _) (zk h.hb _) rfl rfl rfl hok
  · have ho':d.on=false:=by simpa using ho
    rw [ho'] at c4
    have fin:zF w B d.burnt:=by
      have h:=H.out;rw [HE.out];have:d={ d with fuse:=if d.on then d.fuse - 1 else d.fuse }:=by cases d;simp at ho';subst ho';rfl
      rw [<- this];exact h
    have FIN:=zf fin;clear fin hd hs ho ho';go_enter Tryz.func210,Tryz.ntmps210;go_wp2;go_ret;exact ⟨rfl,FIN.out,Chg.refl _ _⟩
theorem Tryz.zero5 (w:World):(zeroValue 5).run Tryz.prog w=.ok (.int .u8 0) w:=by kernel_rfl
theorem Tryz.zero4 (w:World):(zeroValue 4).run Tryz.prog w=.ok (.bool false) w:=by kernel_rfl
theorem Tryz.size5:(Tryz.prog.info? 5).map (·.size)=some 1:=by kernel_rfl
theorem Zp {l:List (List UInt8)} (h:∀ s∈l,s.length=32):(XE l).length=32*l.length:=by unfold XE;rw [Zj,ZE h]
theorem zec {l:List Bool} {k:Nat} (h:k < l.length):(yU l).toArray[k]? = some (.bool (l.getD k false)):=by
  simp [yU,zgS h]
theorem zeb (l:List Bool) (k:Nat) (b:Bool):(yU l).toArray.setIfInBounds k (.bool b)=(yU (l.set k b)).toArray:=by
  simp [yU,List.map_set]
theorem zcL (l:List UInt8) (o:Nat) (s:List UInt8) (hs:s.length<=32) (ho:o+32<=l.length):
    splice (splice (zu l) o (Yx 32 (.int .u8 0))) o (zu s)=zu (l.take o++(pad s++l.drop (o+32))):=by
  have z:Yx 32 (Value.int .u8 0)=zu zbI:=by simp [Yx,zu,zbI];rfl
  rw [z];unfold splice zu;simp only [<- List.map_take,<- List.map_drop,<- List.map_append,zgW]
  congr 1
  have h1:(l.take o).length=o:=by simp;omega
  rw [List.take_append_of_le_length (by omega),List.take_of_length_le (by omega),Ym]
  congr 1
  unfold pad;rw [List.append_assoc]
  congr 1
  rw [List.drop_append,h1,List.drop_of_length_le (by omega),List.nil_append,show o+s.length - o=s.length from by omega,List.drop_append,Ym,
    show s.length - 32=0 from by omega,List.drop_zero]
  congr 1
  unfold zbI;rw [List.drop_replicate]
set_option maxRecDepth 100000 in
theorem zcH (w:World) (B:DB) (d:Dev) (i:Int) (s:ByteArray) (h:zF w B d) (hd:d.dead=true):
    Calls Tryz.prog 141 #[B.ptr,.int .i64 i,.string s] w fun e w'=>e=.returned (.int .i64 20)∧w=w':=by
  have c5:=h.c5;rw [hd] at c5;clear h hd;unfold DB.ptr;go_enter Tryz.func141,Tryz.ntmps141;go_wp2;go_ret;exact ⟨rfl,rfl⟩
set_option maxRecDepth 100000 in
theorem zbO (w:World) (B:DB) (d:Dev) (i:Int) (s:ByteArray) (h:zF w B d) (hd:d.dead=false) (hi:i < 0∨B.n<=i):
    Calls Tryz.prog 141 #[B.ptr,.int .i64 i,.string s] w fun e w'=>e=.returned (.int .i64 5)∧w=w':=by
  have c0:=h.c0;have c5:=h.c5;rw [hd] at c5;have HI:=zf hi;clear h hd hi;unfold DB.ptr;go_enter Tryz.func141,Tryz.ntmps141;go_wp2_with fail;refine (zf5 _ _ _ _ _ _ _ c0 HI.out).mono ?_;rintro e w' ⟨rfl,rfl⟩;go_wp2;go_ret;exact ⟨rfl,rfl⟩
set_option maxRecDepth 100000 in
theorem zcG (w:World) (B:DB) (d:Dev) (i:Int) (s:ByteArray) (h:zF w B d) (hd:d.dead=false) (h0:0<=i) (h1:i < B.n) (hs:32 < s.size) (hm:s.size<=maxLen):
    Calls Tryz.prog 141 #[B.ptr,.int .i64 i,.string s] w fun e w'=>e=.returned (.int .i64 4)∧w=w':=by
  have c0:=h.c0;have c5:=h.c5;rw [hd] at c5;clear h hd;unfold maxLen at hm;unfold DB.ptr;go_enter Tryz.func141,Tryz.ntmps141;go_wp2_with fail;refine (Xh _ _ _ _ _ _ _ c0 h0 h1).mono ?_;rintro e w' ⟨rfl,rfl⟩;go_wp2;go_ret;exact ⟨rfl,rfl⟩
set_option maxRecDepth 100000 in
theorem zcF (w:World) (B:DB) (d:Dev) (i:Int) (s:ByteArray) (h:zF w B d) (hd:d.dead=false) (h0:0<=i) (h1:i < B.n) (hs:s.size<=32) (hst:d.stops=true):
    Calls Tryz.prog 141 #[B.ptr,.int .i64 i,.string s] w fun e w'=>e=.returned (.int .i64 20)∧zF w' B d.burnt∧Chg B.S w w':=by
  have c0:=h.c0;have c5:=h.c5;rw [hd] at c5;have H:=zf h;have HST:=zf hst;clear h hd hst;unfold DB.ptr;go_enter Tryz.func141,Tryz.ntmps141;go_wp2_with fail;refine (Xh _ _ _ _ _ _ _ c0 h0 h1).mono ?_;rintro e w' ⟨rfl,rfl⟩;go_wp2_with fail;refine (zbu _ B d H.out HST.out).mono ?_;rintro e w1 ⟨rfl,d1,k1⟩;have D1:=zf d1;have K1:=zf k1;clear d1 k1;go_wp2;go_ret;exact ⟨rfl,D1.out,K1.out.mono (fun k _ e=>.inl e)⟩
set_option maxRecDepth 100000 in
theorem zeo (w:World) (B:DB) (d:Dev) (k:Nat) (s:ByteArray) (h:zF w B d) (hd:d.dead=false) (h1:k < B.n) (hs:s.size<=32) (hst:d.stops=false):
    Calls Tryz.prog 141 #[B.ptr,.int .i64 k,.string s] w fun e w'=>e=.returned (.int .i64 0)∧zF w' B (d.burnt.put k s.data.toList)∧Chg B.S w w':=by
  have c0:=h.c0;have c5:=h.c5;have n65:=h.ok.hi;rw [hd] at c5;have H:=zf h;have HST:=zf hst;clear h hd hst;unfold DB.ptr;go_enter Tryz.func141,Tryz.ntmps141;go_wp2_with fail;refine (Xh _ _ _ _ _ _ _ c0 (by omega) (by omega)).mono ?_;rintro e w' ⟨rfl,rfl⟩;go_wp2_with fail;refine (zea _ B d H.out HST.out).mono ?_;rintro e w1 ⟨rfl,d1,k1⟩;clear c0 c5;have c0:=d1.c0;have D1:=zf d1;have K1:=zf k1;clear d1 k1;go_wp2_with (with_reducible refine xj rfl (.tmp 33) 23 rfl 5 Tryz.underlying23 (.int .u8 0) Tryz.zero5 rfl rfl B.bn _ 32 32 rfl (XE d.burnt.now) 202 D1.out.hn ?fit (by decide) ?next)
  case fit=>have:=D1.out.ok;rw [Zp this.wnow,this.lnow];omega
  case next=>
    intro w2 r2;have c0':w2.cell? ⟨B.b,0,none⟩=some (.slice (some ⟨B.bn,0,none⟩) B.n B.n):=zg (r2.chg.obj (fun e=>D1.out.n1 e) D1.out.hb) rfl;have R2:=zf r2;clear r2 c0;go_wp2_with (with_reducible refine Yz rfl (.tmp 40) (.tmp 41) 23 9 rfl 5 Tryz.underlying23 Tryz.size5 B.bn _ 32 32 s rfl rfl _ 202 R2.out.row hs ?fit2 ?next2)
    case fit2=>
      have:=D1.out.ok;rw [length_splice _ _ _ (by rw [zbZ,Zp this.wnow,this.lnow];omega),Zp this.wnow,this.lnow];omega
    case next2=>
      intro w3 r3;have c2:w3.cell? ⟨B.b,2,none⟩=some (.slice (some ⟨B.bp,0,none⟩) B.n B.n):=zg (r3.chg.obj (fun e=>D1.out.n1 e) (R2.out.chg.obj (fun e=>D1.out.n1 e) D1.out.hb)) rfl;have hp:w3.heap[B.bp]? = some (.cells (yU d.burnt.pend).toArray 4 (0,0)):=r3.chg.obj (fun e=>D1.out.n5 e.symm) (R2.out.chg.obj (fun e=>D1.out.n5 e.symm) D1.out.hp);have cp:w3.cell? ⟨B.bp,k,none⟩=some (.bool (d.burnt.pend.getD k false)):=zg hp (zec (by rw [D1.out.ok.lpend];exact h1));have fp:w3.frozen? ⟨B.bp,k,none⟩=false:=zn hp;have HP:=zf hp;have R3:=zf r3;clear r3 hp c0';go_wp2;go_ret;have d1:=D1.out;have r2:=R2.out.chg;have r3:=R3.out.chg;have q:=zy w3 B.bp k (.bool true);refine ⟨rfl,⟨?_,?_,?_,?_,d1.ok.put _ _ hs,d1.n1,d1.n2,d1.n3,d1.n4,d1.n5,d1.n6⟩,?_⟩
      · exact q.obj (fun e=>d1.n3 e) (r3.obj (fun e=>d1.n1 e) (r2.obj (fun e=>d1.n1 e) d1.hb))
      · have e:=R3.out.row
        unfold XE at e;rw [zcL _ _ _ hs (by rw [ZE d1.ok.wnow,d1.ok.lnow];omega),show k*32=32*k from by omega,<- zb9 d1.ok.wnow (by rw [d1.ok.lnow];exact h1)] at e;exact q.obj (fun e=>d1.n5 e) e
      · exact q.obj (fun e=>d1.n6 e) (r3.obj (fun e=>d1.n4 e.symm) (r2.obj (fun e=>d1.n4 e.symm) d1.hs))
      · rw [zk HP.out,zeb];rfl
      · exact (K1.out.mono (fun k _ e=>.inl e)).trans (((r2.mono (fun k _ e=>.inr (.inl e))).trans (r3.mono (fun k _ e=>.inr (.inl e)))).trans (q.mono (fun k _ e=>.inr (.inr (.inr e)))))
theorem xL (w:World) (B:DB) (d:Dev) (i:Int) (s:ByteArray) (h:zF w B d) (hm:s.size<=maxLen):
    Calls Tryz.prog 141 #[B.ptr,.int .i64 i,.string s] w fun e w'=>e=.returned (.int .i64 (d.write i s.data.toList).2)∧zF w' B (d.write i s.data.toList).1∧Chg B.S w w':=by
  have ln:=h.ok.lnow;have hsz:s.data.toList.length=s.size:=by rw [Array.length_toList];rfl
  by_cases hd:d.dead=true
  · refine (zcH w B d i s h hd).mono ?_
    rintro e w' ⟨rfl,rfl⟩;have:d.write i s.data.toList=(d,20):=by simp [Dev.write,hd]
    rw [this];exact ⟨rfl,h,Chg.refl _ _⟩
  have hd:d.dead=false:=by simpa using hd
  by_cases hi:i < 0∨(B.n:Int)<=i
  · refine (zbO w B d i s h hd hi).mono ?_
    rintro e w' ⟨rfl,rfl⟩;have:d.write i s.data.toList=(d,5):=by simp [Dev.write,hd,ln,hi]
    rw [this];exact ⟨rfl,h,Chg.refl _ _⟩
  by_cases hs:32 < s.size
  · refine (zcG w B d i s h hd (by omega) (by omega) hs hm).mono ?_
    rintro e w' ⟨rfl,rfl⟩;have:d.write i s.data.toList=(d,4):=by simp only [Dev.write,hd,ln,hsz,if_neg hi,if_pos hs];rfl
    rw [this];exact ⟨rfl,h,Chg.refl _ _⟩
  by_cases ht:d.stops=true
  · refine (zcF w B d i s h hd (by omega) (by omega) (by omega) ht).mono ?_
    have:d.write i s.data.toList=(d.burnt,20):=by simp only [Dev.write,hd,ln,hsz,if_neg hi,if_neg hs,if_pos ht];rfl
    rw [this];exact fun _ _ x=>x
  have ht':d.stops=false:=by simpa using ht
  obtain ⟨k,rfl⟩:=Int.eq_ofNat_of_zero_le (show 0<=i by omega);refine (zeo w B d k s h hd (by omega) (by omega) ht').mono ?_;have:d.write k s.data.toList=(d.burnt.put k s.data.toList,0):=by simp only [Dev.write,hd,ln,hsz,if_neg hi,if_neg hs,if_neg ht];rfl
  rw [this];exact fun _ _ x=>x
theorem Tryz.size71:(Tryz.prog.info? 202).map (·.size)=some 32:=by kernel_rfl
set_option maxRecDepth 100000 in
set_option maxRecDepth 100000 in
theorem zcM (w:World) (B:DB) (d:Dev) (h:zF w B d):
    Calls Tryz.prog 95 #[B.ptr] w fun e w'=>e=.returned (.tuple #[])∧zF w' B d.settle∧Chg B.S w w':=by
  have c0:=h.c0;have c1:=h.c1;have n65:=h.ok.hi;have n3:=h.ok.lo;have H:=zf h;clear h;unfold DB.ptr;go_enter Tryz.func95,Tryz.ntmps95;go_wp2;go_still_tail 8,(by kernel_rfl);have D:zF w.drew B d:=H.out.chg (Chg.refl (fun _=>False) w).drew (fun _ _ h=>h);have HD:=zf D;clear D;refine xy rfl (.tmp 5) (.tmp 9) 151 151 rfl 202 Tryz.underlying151 32 Tryz.size71 B.bs 0 B.n B.n B.bn 0 B.n B.n rfl rfl (XE d.sure) (XE d.now) 202 202 (0,0) HD.out.hs HD.out.hn (XV _) ?f1 ?f2 ?next
  case f1=>rw [Zp H.out.ok.wsure,H.out.ok.lsure];have:Nat.min B.n B.n=B.n:=Nat.min_self _;rw [this];omega
  case f2=>rw [Zp H.out.ok.wnow,H.out.ok.lnow];have:Nat.min B.n B.n=B.n:=Nat.min_self _;rw [this];omega
  case next=>
    intro w1 r1
    have e:splice (XE d.sure) 0 (((XE d.now).drop 0).take (Nat.min B.n B.n*32))=XE d.now:=by
      have:Nat.min B.n B.n=B.n:=Nat.min_self _;have l1:=Zp H.out.ok.wnow;have l2:=Zp H.out.ok.wsure;rw [H.out.ok.lnow] at l1;rw [H.out.ok.lsure] at l2;rw [this,List.drop_zero,List.take_of_length_le (by omega)];unfold splice;rw [List.take_zero,List.nil_append,List.drop_of_length_le (by omega),List.append_nil]
    rw [e] at r1;have c2:w1.cell? ⟨B.b,2,none⟩=some (.slice (some ⟨B.bp,0,none⟩) B.n B.n):=zg (r1.chg.obj (fun e=>HD.out.n2 e) HD.out.hb) rfl;have hp:w1.heap[B.bp]? = some (.cells (yU d.pend).toArray 4 (0,0)):=r1.chg.obj (fun e=>HD.out.n6 e.symm) HD.out.hp;have HP:=zf hp;have R1:=zf r1;clear r1 hp e c0 c1;go_wp2_with (with_reducible refine xj rfl (.tmp 14) 97 rfl 4 Tryz.underlying97 (.bool false) Tryz.zero4 rfl rfl B.bp _ B.n B.n rfl (yU d.pend) 4 HP.out ?fit (by omega) ?next)
    case fit=>simp [yU,H.out.ok.lpend]
    case next=>
      intro w2 r2;have R2:=zf r2;clear r2;go_wp2;go_end0;have r2:=R2.out;have r1:=R1.out;have h:=HD.out;have k1:Chg B.S w w.drew:=(Chg.refl _ w).drew;refine ⟨rfl,⟨?_,?_,?_,?_,h.ok.settle,h.n1,h.n2,h.n3,h.n4,h.n5,h.n6⟩,?_⟩
      · exact r2.chg.obj (fun e=>h.n3 e) (r1.chg.obj (fun e=>h.n2 e) h.hb)
      · exact r2.chg.obj (fun e=>h.n5 e) (r1.chg.obj (fun e=>h.n4 e) h.hn)
      · exact r2.chg.obj (fun e=>h.n6 e) r1.row
      · have e:splice (yU d.pend) 0 (Yx B.n (.bool false))=yU d.settle.pend:=by
          have l1:=h.ok.lpend;unfold splice Yx;rw [List.take_zero,List.nil_append,List.drop_of_length_le (by simp [yU,l1]),List.append_nil];simp [yU,Dev.settle,l1]
        rw [<- e];exact r2.row
      · exact k1.trans ((r1.chg.mono (fun k _ e=>.inr (.inr (.inl e)))).trans (r2.chg.mono (fun k _ e=>.inr (.inr (.inr e)))))
set_option maxRecDepth 100000 in
theorem Xl (w:World) (B:DB) (d:Dev) (h:zF w B d):
    Calls Tryz.prog 143 #[B.ptr] w fun e w'=>e=.returned (.int .i64 d.barrier.2)∧zF w' B d.barrier.1∧Chg B.S w w':=by
  have H:=zf h;clear h;unfold DB.ptr;by_cases hs:d.stops=true
  · have HS:=zf hs
    have e:d.barrier=(d.burnt,20):=by simp [Dev.barrier,hs]
    rw [e];clear e hs;go_enter Tryz.func143,Tryz.ntmps143;go_wp2_with fail;refine (zbu _ B d H.out HS.out).mono ?_;rintro e w1 ⟨rfl,d1,k1⟩;have D1:=zf d1;have K1:=zf k1;clear d1 k1;go_wp2;go_ret;exact ⟨rfl,D1.out,K1.out.mono (fun k _ e=>.inl e)⟩
  · have hs:d.stops=false:=by simpa using hs
    have HS:=zf hs;have e:d.barrier=(d.burnt.settle,0):=by simp [Dev.barrier,hs]
    rw [e];clear e hs;go_enter Tryz.func143,Tryz.ntmps143;go_wp2_with fail;refine (zea _ B d H.out HS.out).mono ?_;rintro e w1 ⟨rfl,d1,k1⟩;have D1:=zf d1;have K1:=zf k1;clear d1 k1;go_wp2_with fail;refine (zcM _ B _ D1.out).mono ?_;rintro e w2 ⟨rfl,d2,k2⟩;have D2:=zf d2;have K2:=zf k2;clear d2 k2;go_wp2;go_ret;exact ⟨rfl,D2.out,(K1.out.mono (fun k _ e=>.inl e)).trans K2.out⟩
set_option maxRecDepth 100000 in
theorem zfc (w:World) (B:DB) (d:Dev) (h:zF w B d):
    Calls Tryz.prog 139 #[B.ptr] w fun e w'=>e=.returned (.bool d.dead)∧w=w':=by
  have c5:=h.c5;clear h;unfold DB.ptr;go_enter Tryz.func139,Tryz.ntmps139;go_wp2;go_ret;exact ⟨rfl,rfl⟩
theorem zdu {w:World} {g:Nat} {l:List (List UInt8)} {t:TypeId} {fz:Nat × Nat} (hg:w.heap[g]? = some (.cells (XE l).toArray t fz)) (h:∀ s∈l,s.length=32) {k:Nat} (hk:k < l.length) {i:Nat} (hi:i < 32):
    w.cell? ⟨g,k*32+i,none⟩=some (.int .u8 (((l.getD k []).map fun c=>(c.toNat:Int)).getD i 0)):=by
  refine zg hg ?_;have hl:=ZD h hk;have e:=zca h hk
  have hx:(XE l)[k*32+i]? = ((zu (l.getD k []))[i]?):=by
    rw [e];unfold XE zu;rw [zg3,zg3,List.getElem?_take,if_pos hi,List.getElem?_drop,show 32*k+i=k*32+i from by omega]
  rw [zgN,hx];have hi':i < (l.getD k []).length:=by omega
  generalize l.getD k []=x at *;unfold zu Yu;rw [zg3,zgY,zg3,zgS hi'];rfl
set_option maxRecDepth 100000 in
theorem zdG (w:World) (B:DB) (d:Dev) (k:Nat) (h:zF w B d) (hk:k < B.n):
    Calls Tryz.prog 135 #[B.ptr,.int .i64 k] w fun e w'=>e=.returned (.string ⟨(d.now.getD k []).toArray⟩)∧w=w':=by
  have c0:=h.c0;have n65:=h.ok.hi
  have hcv:=run_convert_bytes_arg (P:=Tryz.prog) w 23 5 Tryz.underlying23 Tryz.underlying5 B.bn (k*32) 32 32 ((d.now.getD k []).map fun c=>(c.toNat:Int)) (by rw [zgW];exact ZD h.ok.wnow (by rw [h.ok.lnow];exact hk))
    (fun i hi=>zdu h.hn h.ok.wnow (by rw [h.ok.lnow];exact hk) hi) 9 Tryz.underlying9
  rw [Zu] at hcv;clear h;unfold DB.ptr;go_enter Tryz.func135,Tryz.ntmps135;go_wp2_with fail;refine (Xh _ _ _ _ _ _ _ c0 (by omega) (by omega)).mono ?_;rintro e w' ⟨rfl,rfl⟩;go_wp2;go_ret;exact ⟨rfl,rfl⟩
theorem Tryz.elem3:zP Tryz.prog 3 1 8:=zK (z:=.int .i64 0) (by kernel_rfl) rfl (by decide)
def zci (w:World) (v:Value) (G:Nat->Prop) (keep:List Bool):Prop:=
  ∃ ka cap,v=.slice ka keep.length cap∧keep.length<=maxLen∧∀ j,j < keep.length->∃ kb ko,ka=some ⟨kb,ko,none⟩∧G kb∧w.cell? ⟨kb,ko+j,none⟩=some (.bool (keep.getD j false))
theorem zci.chg {S:Nat->Prop} {w w':World} {v:Value} {G:Nat->Prop} {keep:List Bool} (h:zci w v G keep) (hc:Chg S w w') (hs:∀ k,G k->¬ S k):zci w' v G keep:=by
  obtain ⟨ka,cap,h1,h2,h3⟩:=h;exact ⟨ka,cap,h1,h2,fun j hj=>by obtain ⟨kb,ko,q1,q2,q3⟩:=h3 j hj;exact ⟨kb,ko,q1,q2,zi hc (hs kb q2) q3⟩⟩
theorem zF.now {w w':World} {B:DB} {d:Dev} (h:zF w B d) {l:List (List UInt8)} (hr:zbF B.bn (XE l) 202 w w') (ok:Dev.Ok B.n { d with now:=l }):zF w' B { d with now:=l }:=
  ⟨hr.chg.obj (fun e=>h.n1 e) h.hb,hr.row,hr.chg.obj (fun e=>h.n4 e.symm) h.hs,hr.chg.obj (fun e=>h.n5 e.symm) h.hp,ok,h.n1,h.n2,h.n3,h.n4,h.n5,h.n6⟩
theorem Xy (z:Value) (n:Nat):madeCells #[z] n=(Yx n z).toArray:=by
  unfold madeCells Yx;apply Array.ext
  · simp
  · intro i h1 h2;simp [Nat.mod_one]
theorem Xx (z:Value) (k n:Nat) (hk:0 < k):madeCells (Array.replicate k z) n=(Yx n z).toArray:=by
  unfold madeCells Yx;apply Array.ext
  · simp
  · intro i h1 h2
    have hm:i % k < k:=Nat.mod_lt _ hk;simp [getElem!_pos,hm]
theorem zeB (n:Nat):XE (List.replicate n zbI)=Yx (n*32) (.int .u8 0):=by
  unfold XE zbI Yx;rw [List.flatten_replicate_replicate];simp [zu,Yu]
theorem Tryz.make60 (w:World) (n:Nat) (hn:n<=65):(Instr.makeSlice 151 (.int .i64 n) (.int .i64 n)).run Tryz.prog w=.ok (.slice (some ⟨w.heap.size,0,none⟩) n n) (w.alloc (.cells (XE (List.replicate n zbI)).toArray 202)):=by
  obtain ⟨i,hi,hz0,hz1,hz2⟩:=info_parts (show (Tryz.prog.info? 202).map (fun i=>(i.zero,i.size,i.bytes))=some (some (.agg (Array.replicate 32 (.int .u8 0))),32,32) by kernel_rfl);have:=run_make (P:=Tryz.prog) w 151 202 i _ Tryz.underlying151 hi hz0 .i64 .i64 n n (by omega) (by omega) (by rw [hz2];omega) (by omega);rw [this,hz1];simp only [Int.toNat_natCast,Value.cells];rw [Xx _ _ _ (by decide),zeB]
theorem Tryz.make35 (w:World) (n:Nat) (hn:n<=65):(Instr.makeSlice 97 (.int .i64 n) (.int .i64 n)).run Tryz.prog w=.ok (.slice (some ⟨w.heap.size,0,none⟩) n n) (w.alloc (.cells (yU (List.replicate n false)).toArray 4)):=by
  obtain ⟨i,hi,hz0,hz1,hz2⟩:=info_parts (show (Tryz.prog.info? 4).map (fun i=>(i.zero,i.size,i.bytes))=some (some (.bool false),1,1) by kernel_rfl);have:=run_make (P:=Tryz.prog) w 97 4 i _ Tryz.underlying97 hi hz0 .i64 .i64 n n (by omega) (by omega) (by rw [hz2];omega) (by omega);rw [this,hz1];simp only [Int.toNat_natCast,Value.cells,Nat.mul_one];rw [Xy];simp [yU,Yx]
theorem zda (w:World) (a b c d:Obj):((((w.alloc a).alloc b).alloc c).alloc d).drew.heap[w.heap.size]? = some a:=Zg d (Zg c (Zg b (zh w a)))
theorem zc9 (w:World) (a b c d:Obj):((((w.alloc a).alloc b).alloc c).alloc d).drew.heap[w.heap.size+1]? = some b:=Zg d (Zg c (by simpa using zh (w.alloc a) b))
theorem zc8 (w:World) (a b c d:Obj):((((w.alloc a).alloc b).alloc c).alloc d).drew.heap[w.heap.size+1+1]? = some c:=Zg d (by simpa using zh ((w.alloc a).alloc b) c)
theorem zc7 (w:World) (a b c d:Obj):((((w.alloc a).alloc b).alloc c).alloc d).drew.heap[w.heap.size+1+1+1]? = some d:=by
  show (((w.alloc a).alloc b).alloc c |>.alloc d).heap[_]? = _
  simpa using zh (((w.alloc a).alloc b).alloc c) d
theorem XR {w w':World} {bn bs bp n:Nat} (hc:Chg (fun _=>False) w w')
    (h1:w'.heap[bn]? = some (.cells (XE (List.replicate n zbI)).toArray 202 (0,0))) (h2:w'.heap[bs]? = some (.cells (XE (List.replicate n zbI)).toArray 202 (0,0)))
    (h3:w'.heap[bp]? = some (.cells (yU (List.replicate n false)).toArray 4 (0,0)))
    (h0:w'.heap[w.heap.size+1+1+1]? = some (.cells #[.slice (some ⟨bn,0,none⟩) n n,.slice (some ⟨bs,0,none⟩) n n,.slice (some ⟨bp,0,none⟩) n n,.int .i64 0,.bool false,.bool false] 153 (0,0)))
    (hn:3<=n) (hn':n<=65) (q1:bn≠bs) (q2:bn≠bp) (q3:bs≠bp)
    (q4:bn < w.heap.size+3∧bs < w.heap.size+3∧bp < w.heap.size+3∧w.heap.size<=bn∧w.heap.size<=bs∧w.heap.size<=bp):
    ∃ B:DB,Ending.returned (.pointer (some ⟨w.heap.size+1+1+1,0,none⟩))=.returned B.ptr∧B.n=n∧zF w' B (Dev.new n)∧Chg (fun _=>False) w w'∧∀ k,B.S k->w.heap.size<=k∧k < w'.heap.size:=by
  have l:=zl h0;refine ⟨⟨w.heap.size+1+1+1,bn,bs,bp,n⟩,rfl,rfl,⟨h0,h1,h2,h3,Dev.ok_new n hn hn',?_,?_,?_,q1,q2,q3⟩,hc,?_⟩
  · show w.heap.size+1+1+1≠bn;omega
  · show w.heap.size+1+1+1≠bs;omega
  · show w.heap.size+1+1+1≠bp;omega
  · rintro k (h | h | h | h) <;> dsimp only at h <;> omega
set_option maxRecDepth 100000 in
theorem zcc (w:World) (n:Nat) (h3:3<=n) (h65:n<=65):
    Calls Tryz.prog 12 #[.int .i64 n] w fun e w'=>∃ B:DB,e=.returned B.ptr∧B.n=n∧zF w' B (Dev.new n)∧Chg (fun _=>False) w w'∧∀ k,B.S k->w.heap.size<=k∧k < w'.heap.size:=by
  have m60:=fun w=>Tryz.make60 w n h65;have m35:=fun w=>Tryz.make35 w n h65;have hd:decide ((n:Int) < 3)=false:=by simp;omega
  have hd':decide (65 < (n:Int))=false:=by simp;omega
  go_enter Tryz.func12,Tryz.ntmps12;go_wp2;go_region
  all_goals go_wp2
  all_goals go_ret
  · exact XR (bn:=w.heap.size) (bs:=w.heap.size+1) (bp:=w.heap.size+1+1) (Chg.alloc (Chg.alloc (Chg.alloc (Chg.alloc (Chg.refl _ _) _) _) _) _).drew (zda _ _ _ _ _) (zc9 _ _ _ _ _) (zc8 _ _ _ _ _) (zc7 _ _ _ _ _) h3 h65 (by omega) (by omega) (by omega) (by simp;omega)
  · exact XR (bn:=w.heap.size) (bp:=w.heap.size+1) (bs:=w.heap.size+1+1) (Chg.alloc (Chg.alloc (Chg.alloc (Chg.alloc (Chg.refl _ _) _) _) _) _).drew (zda _ _ _ _ _) (zc8 _ _ _ _ _) (zc9 _ _ _ _ _) (zc7 _ _ _ _ _) h3 h65 (by omega) (by omega) (by omega) (by simp;omega)
  · exact XR (bs:=w.heap.size) (bn:=w.heap.size+1) (bp:=w.heap.size+1+1) (Chg.alloc (Chg.alloc (Chg.alloc (Chg.alloc (Chg.refl _ _) _) _) _) _).drew (zc9 _ _ _ _ _) (zda _ _ _ _ _) (zc8 _ _ _ _ _) (zc7 _ _ _ _ _) h3 h65 (by omega) (by omega) (by omega) (by simp;omega)
  · exact XR (bs:=w.heap.size) (bp:=w.heap.size+1) (bn:=w.heap.size+1+1) (Chg.alloc (Chg.alloc (Chg.alloc (Chg.alloc (Chg.refl _ _) _) _) _) _).drew (zc8 _ _ _ _ _) (zda _ _ _ _ _) (zc9 _ _ _ _ _) (zc7 _ _ _ _ _) h3 h65 (by omega) (by omega) (by omega) (by simp;omega)
  · exact XR (bp:=w.heap.size) (bn:=w.heap.size+1) (bs:=w.heap.size+1+1) (Chg.alloc (Chg.alloc (Chg.alloc (Chg.alloc (Chg.refl _ _) _) _) _) _).drew (zc9 _ _ _ _ _) (zc8 _ _ _ _ _) (zda _ _ _ _ _) (zc7 _ _ _ _ _) h3 h65 (by omega) (by omega) (by omega) (by simp;omega)
  · exact XR (bp:=w.heap.size) (bs:=w.heap.size+1) (bn:=w.heap.size+1+1) (Chg.alloc (Chg.alloc (Chg.alloc (Chg.alloc (Chg.refl _ _) _) _) _) _).drew (zc8 _ _ _ _ _) (zc9 _ _ _ _ _) (zda _ _ _ _ _) (zc7 _ _ _ _ _) h3 h65 (by omega) (by omega) (by omega) (by simp;omega)
def zf2 (B:DB) (j:Jr):List Value:=[B.ptr,.int .i64 j.number,.int .i64 j.half,.string j.text]
structure JAt (w:World) (B:DB) (b:Nat) (j:Jr):Prop where
  hb:w.heap[b]? = some (.cells (zf2 B j).toArray 262 (0,0))
def zbL (b:Nat):Value:=.pointer (some ⟨b,0,none⟩)
theorem JAt.c0 {w:World} {B:DB} {b:Nat} {j:Jr} (h:JAt w B b j):w.cell? ⟨b,0,none⟩=some (.pointer (some ⟨B.b,0,none⟩)):=zg h.hb rfl
theorem JAt.c1 {w:World} {B:DB} {b:Nat} {j:Jr} (h:JAt w B b j):w.cell? ⟨b,1,none⟩=some (.int .i64 j.number):=zg h.hb rfl
theorem JAt.c2 {w:World} {B:DB} {b:Nat} {j:Jr} (h:JAt w B b j):w.cell? ⟨b,2,none⟩=some (.int .i64 j.half):=zg h.hb rfl
theorem JAt.c3 {w:World} {B:DB} {b:Nat} {j:Jr} (h:JAt w B b j):w.cell? ⟨b,3,none⟩=some (.string j.text):=zg h.hb rfl
theorem JAt.chg {S:Nat->Prop} {w w':World} {B:DB} {b:Nat} {j:Jr} (h:JAt w B b j) (hc:Chg S w w') (hs:¬ S b):JAt w' B b j:=⟨hc.obj hs h.hb⟩
set_option maxRecDepth 100000 in
theorem yX (w:World) (b:Nat) (B:DB) (h0:w.cell? ⟨b,0,none⟩=some (.pointer (some ⟨B.b,0,none⟩))) (h1:w.cell? ⟨B.b,0,none⟩=some (.slice (some ⟨B.bn,0,none⟩) B.n B.n)) (h3:3<=B.n) (h65:B.n<=65):
    Calls Tryz.prog 137 #[zbL b] w fun e w'=>e=.returned (.int .i64 ((B.n - 1) / 2:Nat))∧w=w':=by
  unfold zbL;go_enter Tryz.func137,Tryz.ntmps137;go_wp2;go_ret;refine ⟨?_,rfl⟩;show Ending.returned (.int .i64 (((B.n:Int) - 1) / 2))=_
  congr 2;omega
set_option maxRecDepth 100000 in
theorem zdA (w:World) (b:Nat) (B:DB) (h0:w.cell? ⟨b,0,none⟩=some (.pointer (some ⟨B.b,0,none⟩))) (h1:w.cell? ⟨B.b,0,none⟩=some (.slice (some ⟨B.bn,0,none⟩) B.n B.n)) (h3:3<=B.n) (h65:B.n<=65):
    Calls Tryz.prog 136 #[zbL b] w fun e w'=>e=.returned (.int .i64 ((B.n - 1) / 2*32:Nat))∧w=w':=by
  have H:=zf (yX w b B h0 h1 h3 h65);clear h0 h1;unfold zbL;have hle:(B.n - 1) / 2<=32:=by omega
  generalize hs:(B.n - 1) / 2=s at *;go_enter Tryz.func136,Tryz.ntmps136;go_wp2_with fail;refine (H.out).mono ?_;rintro e w' ⟨rfl,rfl⟩;go_wp2;go_ret;refine ⟨by go_num,rfl⟩
set_option maxRecDepth 100000 in
theorem zcB (w:World) (b:Nat) (B:DB) (f:Int) (h0:w.cell? ⟨b,0,none⟩=some (.pointer (some ⟨B.b,0,none⟩))) (h1:w.cell? ⟨B.b,0,none⟩=some (.slice (some ⟨B.bn,0,none⟩) B.n B.n)) (h3:3<=B.n) (h65:B.n<=65) (hf:0<=f) (hf':f<=1):
    Calls Tryz.prog 138 #[zbL b,.int .i64 f] w fun e w'=>e=.returned (.int .i64 (1+f*((B.n - 1) / 2:Nat)))∧w=w':=by
  have H:=zf (yX w b B h0 h1 h3 h65);clear h0 h1;unfold zbL;have hle:(B.n - 1) / 2<=32:=by omega
  generalize hs:(B.n - 1) / 2=s at *
  have hm:0<=f*(s:Int)∧f*(s:Int)<=32:=by
    rcases (by omega:f=0∨f=1) with rfl | rfl <;> omega
  obtain ⟨hm1,hm2⟩:=hm;go_enter Tryz.func138,Tryz.ntmps138;go_wp2_with fail;refine (H.out).mono ?_;rintro e w' ⟨rfl,rfl⟩;go_wp2;go_ret;exact ⟨rfl,rfl⟩
set_option maxRecDepth 100000 in
theorem zdD (w:World) (B:DB) (b:Nat) (j:Jr) (h:JAt w B b j):
    Calls Tryz.prog 59 #[zbL b] w fun e w'=>e=.returned (.string j.text)∧w=w':=by
  have c3:=h.c3;clear h;unfold zbL;go_enter Tryz.func59,Tryz.ntmps59;go_wp2;go_ret;exact ⟨rfl,rfl⟩
end Go.Proofs.YtcilaocknhphnaaGreat
