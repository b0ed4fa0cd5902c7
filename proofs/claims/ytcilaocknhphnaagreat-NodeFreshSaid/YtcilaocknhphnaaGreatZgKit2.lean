/-
  A region that draws its order, walked by a plan: reads in groups, and operations that do something, one at a time, each when nothing else may come up. S: what the reads lean on; it holds in every world of the region. Plain facts on worlds: which blocks may have changed; cells of a block that is known whole; a few laws on operations (clear, bytes to a string). A region that draws its order, walked by a plan, where its last operation (number L) may write what its reads lean on: every read comes ahead of it. Rows whose first cells are known; appends, and where the row lies behind them; a store of one cell. More plain facts on worlds and rows. append of a slice that only is read. A region that draws its order, walked by a tree: as by a plan (Kit2), but where two operations that do something are ready at once each may come first.
-/
import Derived.Test.YtcilaocknhphnaaGreatProg
import Derived.WalkKit
import Derived.Deep.RegionHeld3
import Derived.Lib.Hide
import Derived.Lib.AppendStr
import Derived.StillTailTactics
import Derived.Handy
import Derived.Laws.CopyOwn
import Derived.Deep.QuietTactic
import Derived.BigQuiet
import Derived.Lib.ConvBytes
import Derived.Laws.BytesString
import Derived.Laws.IdiomStrings
import Derived.Laws.AppendOwnNone
namespace Go.Proofs.YtcilaocknhphnaaGreat
theorem zf {p : Prop} (h : p) : Go.RowKit.Hid p := h
abbrev zls := @List.filterMap_cons
abbrev zlt := @List.filterMap_nil
abbrev zlu := @List.getElem?_toArray
abbrev zlv := @List.getElem?_cons_succ
abbrev zlw := @List.getElem?_cons_zero
abbrev zlx := @decide_eq_true
abbrev zly := @decide_eq_false
abbrev zlz := @List.getElem?_eq_getElem
abbrev zlA := @List.getElem?_eq_some_iff
abbrev zlB := @List.mem_of_getElem?
abbrev zlC := @List.length_append
abbrev zlD := @List.length_map
abbrev zlE := @List.length_take
abbrev zlF := @List.getD_eq_getElem?_getD
abbrev zlG := @Nat.lt_of_lt_of_le
abbrev zlH := @World.size_alloc
abbrev zlI := @beq_eq_false_iff_ne
abbrev zlJ := @decide_eq_true_iff
abbrev zlK := @List.getElem?_map
abbrev zlL := @List.mem_append
abbrev zlM := @List.take_append_drop
abbrev zlN := @bne_iff_ne
abbrev zlO := @bne_eq_false_iff_eq
abbrev zlP := @List.getElem?_eq_none
abbrev zlQ := @List.all_eq_true
abbrev zlR := @List.take_add_one
abbrev zlS := @Nat.le_refl
abbrev zlT := @List.take_length
abbrev zlU := @Bool.and_eq_true
abbrev zlV := @Bool.eq_false_iff
abbrev zlW := @Bool.not_eq_true
open Go.RowKit
inductive Stp where
 | rd (is:List Nat)
 | ef (i:Nat)

def zS (ops:Array Oper) (is:List Nat):List Oper:=is.filterMap (ops[·]?)
def xB (P:Program) (ops:Array Oper) (S:World->Prop) (Q:Exit->Act->World->Prop):List Stp->Act->World->Prop
 | [],a,w=>Q .normal a w
 | .rd is :: r,a,w=>∃ A,(∀ w',S w'->∀ K:Act->Prop,K A->wpStill P ops w' K (zS ops is) a)∧xB P ops S Q r A w
 | .ef i :: r,a,w=>wpOp P ops (NoPanic Q) i (fun a' w'=>S w'∧xB P ops S Q r a' w') a w
def zae (ops:Array Oper) (i:Nat):Option Tmp:=(ops[i]?).bind (·.dst)
def zjS (ops:Array Oper) (N:Nat):List Nat->Bool
 | []=>true
 | i :: is=>(zae ops i).any (fun d=>decide (d < N) && is.all fun j=>!(zae ops j == some d)) && zjS ops N is
def xx (ops:Array Oper) (N:Nat):List Stp->Array Bool->Bool
 | [],listed=>(Region.ready .any ops listed).isEmpty
 | .rd is :: r,listed=>zjS ops N is && goB is listed && xx ops N r (is.foldl (fun l i=>l.setIfInBounds i true) listed)
 | .ef i :: r,listed=>(Region.ready .any ops listed == [i]) && decide (i < ops.size) && xx ops N r (listed.setIfInBounds i true)
where goB:List Nat->Array Bool->Bool
 | [],_=>true
 | i :: is,listed=>decide (i < ops.size) && (Region.ready .any ops listed).contains i && Region.free .any ops listed i && goB is (listed.setIfInBounds i true)
def yw:List Stp->Nat
 | []=>0
 | .rd is :: r=>is.length+yw r
 | .ef _ :: r=>1+yw r
section
variable {P:Program} {ops:Array Oper} {Q:Exit->Act->World->Prop} {S:World->Prop}

theorem zaF {o:Oper} {v:Value}:∀ c a w,NoPanic Q (.panic c) (a.put o.dst v) w->NoPanic Q (.panic c) a w:=fun _ _ _ h=>(h:False).elim
theorem zeB (a:Act) (d:Tmp) (v:Value) (hd:d < a.tmps.size):(a.put (some d) v).tmps.getD d undef=v:=by
 simp [Act.put,hd]
theorem Zp (a:Act) (d:Option Tmp) (v:Value):(a.put d v).tmps.size=a.tmps.size:=by
 cases d <;> simp [Act.put]
theorem zgC (a:Act) (d:Tmp) (e:Option Tmp) (v:Value) (h:e≠some d):(a.put e v).tmps.getD d undef=a.tmps.getD d undef:=by
 cases e with
 | none=>rfl
 | some e=>
  have:e≠d:=fun x=>h (by rw [x]);simp [Act.put,this]
theorem xJ {w:World} {A:Act} {d:Tmp}:∀ (l:List Oper) (a:Act),(∀ o∈l,o.dst≠some d)->wpStill P ops w (·=A) l a->A.tmps.getD d undef=a.tmps.getD d undef∧A.tmps.size=a.tmps.size
 | [],a,_,h=>by have:a=A:=h;subst this;exact ⟨rfl,rfl⟩
 | o :: r,a,hn,h=>by
  unfold wpStill at h
  have key:∀ v,wpStill P ops w (·=A) r (a.put o.dst v)->A.tmps.getD d undef=a.tmps.getD d undef∧A.tmps.size=a.tmps.size:=fun v hv=>by
   have ih:=xJ r (a.put o.dst v) (fun o' ho'=>hn o' (by simp [ho'])) hv;rw [zgC a d o.dst v (hn o (by simp)),Zp] at ih;exact ih
  split at h
  ·unfold Oper.still at h
   generalize (execOp a.eval o).run P w=res at h;cases res with
   | halt x w'=>cases x <;> simp [Oper.stillUpon] at h
   | ok n w'=>
    cases n with
    | value v=>exact key v h.2
    | skip=>exact key undef h.2
    | enter f args=>obtain ⟨_,v,_,hv⟩:=h;exact key v hv
    | _=>simp [Oper.stillUpon] at h
  ·exact key undef h
def asV (P:Program) (w:World) (v:Value):Result Next->Prop
 | .ok (.value u) w'=>w'=w∧u=v
 | .ok .skip w'=>w'=w∧v=undef
 | .ok (.enter f args) w'=>w'=w∧Calls P f args w (fun e w''=>e=.returned v∧w''=w)
 | _=>False
def yn (P:Program) (ops:Array Oper) (S:World->Prop) (o:Oper) (v:Value) (a:Act):Prop:=
 (Region.wanted o (yielded ops a.tmps)=true∧∀ w,S w->asV P w v ((execOp a.eval o).run P w)) ∨
 (Region.wanted o (yielded ops a.tmps)=false∧v=undef)
theorem yn.wpOp {i:Nat} {o:Oper} {v:Value} {a:Act} {Q:Exit->Act->World->Prop} (hi:ops[i]? = some o) (hy:yn P ops S o v a)
  {K:Act->World->Prop} {w:World} (hS:S w) (h:K (a.put o.dst v) w):wpOp P ops Q i K a w:=by
 unfold Go.wpOp;simp only [hi];rcases hy with ⟨hw,hv⟩ | ⟨hw,rfl⟩
 ·simp only [hw,if_true]
  refine .inl ?_;have:=hv w hS;unfold Oper.wp;generalize (execOp a.eval o).run P w=res at this;cases res with
  | halt x w'=>exact this.elim
  | ok n w'=>
   cases n with
   | value u=>obtain ⟨rfl,rfl⟩:=this;exact h
   | skip=>obtain ⟨rfl,rfl⟩:=this;exact h
   | enter f args=>
    obtain ⟨rfl,hc⟩:=this;refine Calls.mono hc fun e w'' he=>?_;obtain ⟨rfl,rfl⟩:=he;exact h
   | _=>exact this.elim
 ·simp only [hw,Bool.false_eq_true,if_false];exact h
theorem yn.of_same {o:Oper} {v:Value} {a a':Act} (hy:yn P ops S o v a) (he:execOp a'.eval o=execOp a.eval o)
  (hw:Region.wanted o (yielded ops a'.tmps)=Region.wanted o (yielded ops a.tmps)):yn P ops S o v a':=by
 unfold yn at *;rw [he,hw];exact hy
theorem zcq {j:Nat} {oi oj:Oper} {v:Value} {Q:Exit->Act->World->Prop} (hj:ops[j]? = some oj) (hap:oi.apart ops oj=true)
  (hsi:∀ cs b,oi.op≠.select cs b) (hsj:∀ cs b,oj.op≠.select cs b)
  (hQ:∀ c a w,Q (.panic c) (a.put oi.dst v) w->Q (.panic c) a w) {K:Act->World->Prop} {a:Act} {w:World}
  (hy:yn P ops S oi v a) (h:Go.wpOp P ops Q j K (a.put oi.dst v) w):
  Go.wpOp P ops Q j (fun a' w'=>yn P ops S oi v a'∧K (a'.put oi.dst v) w') a w:=by
 obtain ⟨h1,h2,h3⟩:=Oper.apart_spec hap
 have keep:∀ (a:Act),yn P ops S oi v a->∀ u,yn P ops S oi v (a.put oj.dst u):=fun a hy u=>
  hy.of_same (execOp_put oi hsi a oj.dst u h3) (wanted_put oi a oj.dst u h3)
 have keepD:∀ d,yn P ops S oi v { a with defers:=d :: a.defers }:=fun d=>hy.of_same rfl rfl;unfold Go.wpOp at *;simp only [hj] at *;rw [wanted_put oj a oi.dst v h1] at h;split
 ·rename_i hw
  simp only [hw,if_true] at h;rcases h with h | ⟨hasks,hlets⟩
  case inr=>exact .inr ⟨by unfold Oper.asks at *;rw [execOp_put oj hsj a oi.dst v h1] at hasks;exact hasks,hlets⟩
  refine .inl ?_;unfold Oper.wp at *;rw [execOp_put oj hsj a oi.dst v h1] at h;generalize (execOp a.eval oj).run P w=r at *;cases r with
  | ok n w'=>
   cases n <;> simp only [Oper.upon] at h ⊢
   case value u=>exact ⟨keep a hy u,by rw [<- Act.put_comm a v u h2];exact h⟩
   case skip=>exact ⟨keep a hy _,by rw [<- Act.put_comm a v undef h2];exact h⟩
   case defer d=>
    refine ⟨keep _ (keepD d) _,?_⟩;rw [<- Act.put_comm _ v undef h2,<- Act.put_defers];exact h
   case enter f args=>
    refine Calls.mono h fun e w'' he=>?_;cases e with
    | returned u=>exact ⟨keep a hy u,by rw [<- Act.put_comm a v u h2];exact he⟩
    | panicked c=>exact hQ _ _ _ he
    | outgrown=>exact he
   case row row args=>exact Rows.mono h fun u w'' he=>⟨keep a hy u,by rw [<- Act.put_comm a v u h2];exact he⟩
  | halt x w'=>
   cases x <;> simp only [Oper.upon] at h ⊢
   case panic u=>exact hQ _ _ _ h
 ·rename_i hw
  simp only [hw] at h;exact ⟨keep a hy _,by rw [<- Act.put_comm a v undef h2];exact h⟩
theorem zcv {md:Region.Mode} {i:Nat} {oi:Oper} {v:Value} {Q:Exit->Act->World->Prop} (hi:ops[i]? = some oi) (hsel:∀ (j:Nat) (o:Oper) cs b,ops[j]? = some o->o.op≠.select cs b)
  (hQ:∀ c a w,Q (.panic c) (a.put oi.dst v) w->Q (.panic c) a w):
  ∀ (fuel:Nat) (listed:Array Bool) (a:Act) (w:World),
   (∀ (j:Nat) oj,ops[j]? = some oj->j≠i->listed.getD j true=false->(∀ e∈oj.after,Region.binds md e=true->e.on≠i)->oi.apart ops oj=true) ->
   i∈Region.ready md ops listed->yn P ops S oi v a->S w ->
   wpAnyH P md ops Q S fuel (listed.setIfInBounds i true) (a.put oi.dst v) w->wpAnyH P md ops Q S (fuel+1) listed a w:=by
 intro fuel;induction fuel with
 | zero=>
  intro listed a w _ hr hy hS H;refine ⟨fun h=>(by rw [h] at hr;cases hr),fun j hj=>?_⟩;by_cases hji:j=i
  ·subst hji;exact hy.wpOp hi hS ⟨hS,H⟩
  ·have:=ready_mono hj hji
   rw [H.1] at this;cases this
 | succ fuel ih=>
  intro listed a w hfree hr hy hS H;refine ⟨fun h=>(by rw [h] at hr;cases hr),fun j hj=>?_⟩;by_cases hji:j=i
  ·subst hji;exact hy.wpOp hi hS ⟨hS,H⟩
  ·have h1:=H.2 j (ready_mono hj hji)
   obtain ⟨hjun,oj,hoj,hall⟩:=mem_ready.1 hj
   have hnot:∀ e∈oj.after,Region.binds md e=true->e.on≠i:=fun e he hb heq=>by
    have h1:=hall e he hb;have h0:=(mem_ready.1 hr).1;rw [heq] at h1;rcases Nat.lt_or_ge i listed.size with h' | h'
    ·simp [h'] at h0 h1;rw [h0] at h1;cases h1
    ·simp [Array.getElem?_eq_none h'] at h1
   have h2:=zcq hoj (hfree j oj hoj hji hjun hnot) (fun cs b=>hsel i oi cs b hi) (fun cs b=>hsel j oj cs b hoj) hQ hy h1
   have hfree':∀ (k:Nat) ok,ops[k]? = some ok->k≠i->(listed.setIfInBounds j true).getD k true=false ->
     (∀ e∈ok.after,Region.binds md e=true->e.on≠i)->oi.apart ops ok=true:=fun k ok hk hki hun hno=>by
    refine hfree k ok hk hki ?_ hno;by_cases hjk:j=k
    ·subst hjk;exact hjun
    ·rw [getD_set_ne true hjk] at hun;exact hun
   refine wpOp_mono (fun a' w' h3=>⟨h3.2.1,ih (listed.setIfInBounds j true) a' w' hfree' (ready_mono hr (Ne.symm hji)) h3.1 h3.2.1 ?_⟩) h2;rw [Array.setIfInBounds_comm _ _ hji];exact h3.2.2
theorem zbl {N:Nat} {w:World} (hsel:Region.noSelect ops=true) (hS:S w) {A:Act} {fuel:Nat}:
  ∀ (is:List Nat) (listed:Array Bool) (a:Act),N<=a.tmps.size->zjS ops N is=true->xx.goB ops is listed=true ->
   (∀ w',S w'->wpStill P ops w' (·=A) (zS ops is) a) ->
   wpAnyH P .any ops (NoPanic Q) S fuel (is.foldl (fun l i=>l.setIfInBounds i true) listed) A w ->
   wpAnyH P .any ops (NoPanic Q) S (fuel+is.length) listed a w
 | [],listed,a,_,_,_,hst,h=>by
  have:a=A:=hst w hS;subst this;exact h
 | i :: is,listed,a,hN,hr,hg,hst,h=>by
  simp only [xx.goB,zlU,decide_eq_true_eq] at hg;obtain ⟨⟨⟨hi,hrd⟩,hfr⟩,hg'⟩:=hg;simp only [zjS,zlU] at hr;obtain ⟨hd,hr'⟩:=hr;have ho:ops[i]? = some ops[i]:=Array.getElem?_eq_getElem hi;have hop:zS ops (i :: is)=ops[i] :: zS ops is:=by simp [zS,ho]
  obtain ⟨d,hdd,hd2⟩:∃ d,zae ops i=some d∧(decide (d < N) && is.all fun j=>!(zae ops j == some d))=true:=by
   cases hq:zae ops i with
   | none=>rw [hq] at hd;simp at hd
   | some d=>rw [hq] at hd;exact ⟨d,rfl,by simpa using hd⟩
  simp only [zlU,decide_eq_true_eq,zlQ] at hd2;have hdst:ops[i].dst=some d:=by simpa [zae,ho] using hdd
  have hsz:d < a.tmps.size:=zlG hd2.1 hN
  have hne:∀ o∈zS ops is,o.dst≠some d:=by
   intro o ho' e;simp only [zS,List.mem_filterMap] at ho';obtain ⟨j,hj,hjo⟩:=ho';have:=hd2.2 j hj;simp [zae,hjo,e] at this
  -- the value that it leaves,whatever the world
  have key:∃ v,yn P ops S ops[i] v a∧∀ w',S w'->wpStill P ops w' (·=A) (zS ops is) (a.put ops[i].dst v):=by
   by_cases hw:Region.wanted ops[i] (yielded ops a.tmps)=true
   ·have hv:∀ w',S w'->∃ v,asV P w' v ((execOp a.eval ops[i]).run P w')∧wpStill P ops w' (·=A) (zS ops is) (a.put ops[i].dst v):=by
     intro w' hS';have h1:=hst w' hS';rw [hop] at h1;unfold wpStill at h1;rw [if_pos hw] at h1;unfold Oper.still at h1;cases hres:(execOp a.eval ops[i]).run P w' with
     | halt x w''=>rw [hres] at h1;cases x <;> simp [Oper.stillUpon] at h1
     | ok n w''=>
      rw [hres] at h1;cases n with
      | value u=>exact ⟨u,⟨h1.1,rfl⟩,h1.2⟩
      | skip=>exact ⟨undef,⟨h1.1,rfl⟩,h1.2⟩
      | enter f args=>obtain ⟨h2,v,h3,h4⟩:=h1;exact ⟨v,⟨h2,h3⟩,h4⟩
      | _=>simp [Oper.stillUpon] at h1
    refine ⟨A.tmps.getD d undef,.inl ⟨hw,fun w' hS'=>?_⟩,fun w' hS'=>?_⟩
    all_goals
     obtain ⟨v,hv1,hv2⟩:=hv w' hS';have hv3:=hv2;rw [hdst] at hv3;have e:=(xJ (zS ops is) _ hne hv3).1;rw [zeB a d v hsz] at e;rw [e]
     assumption
   ·refine ⟨undef,.inr ⟨by simpa using hw,rfl⟩,fun w' hS'=>?_⟩
    have h1:=hst w' hS';rw [hop] at h1;unfold wpStill at h1;rw [if_neg hw] at h1;exact h1
  obtain ⟨v,hy,hst'⟩:=key;have:=zbl hsel hS is (listed.setIfInBounds i true) (a.put ops[i].dst v) (by rw [Zp];exact hN) hr' hg' hst' h;exact zcv ho (Region.noSelect_spec hsel) zaF (fuel+is.length) listed a w (Region.free_spec ho hfr) (by simpa using hrd) hy hS this
theorem zdu {o:Oper} {a:Act} {w:World} {K:Act->World->Prop} {Q:Exit->Act->World->Prop} (hh:o.wp P a w K Q):o.wp P a w (fun a' w'=>a'.tmps.size=a.tmps.size∧K a' w') Q:=by
 unfold Oper.wp at *;generalize (execOp a.eval o).run P w=r at *;cases r with
 | ok n w'=>
  cases n <;> simp only [Oper.upon] at hh ⊢
  case value v=>exact ⟨Zp _ _ _,hh⟩
  case skip=>exact ⟨Zp _ _ _,hh⟩
  case defer d=>exact ⟨by rw [Zp],hh⟩
  case enter f args=>
   refine Calls.mono hh fun e w'' he=>?_;cases e with
   | returned u=>exact ⟨Zp _ _ _,he⟩
   | panicked c=>exact he
   | outgrown=>exact he
  case row row args=>exact Rows.mono hh fun u w'' he=>⟨Zp _ _ _,he⟩
 | halt x w'=>cases x <;> simp only [Oper.upon] at hh ⊢;exact hh
theorem zcp {i:Nat} {a:Act} {w:World} {K:Act->World->Prop} {Q:Exit->Act->World->Prop} (hh:wpOp P ops Q i K a w):wpOp P ops Q i (fun a' w'=>a'.tmps.size=a.tmps.size∧K a' w') a w:=by
 unfold wpOp at *;split
 ·rename_i h;rw [h] at hh;exact ⟨rfl,hh⟩
 ·rename_i o h
  rw [h] at hh;dsimp only at hh;split at hh
  ·rename_i hw
   rw [if_pos hw];exact hh.imp zdu id
  ·rename_i hw
   rw [if_neg hw];exact ⟨Zp _ _ _,hh⟩
theorem zbX {N:Nat} (hsel:Region.noSelect ops=true):∀ (pl:List Stp) (listed:Array Bool) (a:Act) (w:World),N<=a.tmps.size->S w->xx ops N pl listed=true ->
   xB P ops S Q pl a w->wpAnyH P .any ops (NoPanic Q) S (yw pl) listed a w
 | [],listed,a,w,_,_,hb,h=>by
  simp only [xx,List.isEmpty_iff] at hb;exact wpAnyH_done (Q:=NoPanic Q) hb h _
 | .rd is :: r,listed,a,w,hN,hS,hb,h=>by
  simp only [xx,zlU] at hb;obtain ⟨A,h1,h2⟩:=h
  have hA:A.tmps.size=a.tmps.size:=by
   have:=h1 w hS (·=A) rfl
   have key:∀ (l:List Oper) (a:Act),wpStill P ops w (·=A) l a->A.tmps.size=a.tmps.size:=by
    intro l;induction l with
    | nil=>intro a h;have:a=A:=h;rw [this]
    | cons o l ih=>
     intro a h;unfold wpStill at h;split at h
     ·unfold Oper.still at h
      generalize (execOp a.eval o).run P w=res at h;cases res with
      | halt x w'=>cases x <;> simp [Oper.stillUpon] at h
      | ok n w'=>
       cases n with
       | value v=>have:=ih _ h.2;rwa [Zp] at this
       | skip=>have:=ih _ h.2;rwa [Zp] at this
       | enter f args=>obtain ⟨_,v,_,hv⟩:=h;have:=ih _ hv;rwa [Zp] at this
       | _=>simp [Oper.stillUpon] at h
     ·have:=ih _ h;rwa [Zp] at this
   exact key _ _ this
  have:=zbX hsel r _ A w (by omega) hS hb.2 h2;have:=zbl (N:=N) hsel hS is listed a hN hb.1.1 hb.1.2 (fun w' hS'=>h1 w' hS' (·=A) rfl) this;rw [show yw (.rd is :: r)=yw r+is.length from Nat.add_comm _ _];exact this
 | .ef i :: r,listed,a,w,hN,hS,hb,h=>by
  simp only [xx,zlU,decide_eq_true_eq,beq_iff_eq] at hb;rw [show yw (.ef i :: r)=yw r+1 from Nat.add_comm _ _];refine wpAnyH_all hb.1.1 (by simp) (fun j hj=>?_);simp at hj;subst hj;exact wpOp_mono (fun a' w' ⟨hs,hS',hp⟩=>⟨hS',zbX hsel r _ a' w' (by omega) hS' hb.2 hp⟩) (zcp h)
theorem zC {id N:Nat} {l:List Oper} {a:Act} {w:World} (pl:List Stp) (S:World->Prop) (hm:P.follows .mixedOrders=true) (hsel:Region.noSelect l.toArray=true)
  (hlen:yw pl=l.toArray.size) (hb:xx l.toArray N pl (Array.replicate l.toArray.size false)=true) (hN:N<=a.tmps.size) (hS:S w.drew)
  (h:xB P l.toArray S Q pl a w.drew):(Code.region id l.toArray true).wp P Q a w:=by
 refine wp_region_noPanic (wp_region_held_drew (S:=S) hm hS fun _=>?_);have:=zbX hsel pl _ a w.drew hN hS hb h;rw [hlen] at this;exact this
def xz (Q:Exit->Act->World->Prop) (next:Act->World->Prop):Exit->Act->World->Prop
 | .normal,a,w=>next a w
 | .outgrown,a,w=>Q .outgrown a w
 | _,_,_=>False
theorem xS {o:Oper} {a:Act} {w:World} {K:Act->World->Prop} {Q Q':Exit->Act->World->Prop} (hq:∀ e a w,e≠.normal->Q e a w->Q' e a w) (hh:o.wp P a w K Q):o.wp P a w K Q':=by
 unfold Oper.wp at *;generalize (execOp a.eval o).run P w=r at *;cases r with
 | ok n w'=>
  cases n <;> simp only [Oper.upon] at hh ⊢ <;> try exact hh
  case enter f args=>
   refine Calls.mono hh fun e w'' he=>?_;cases e with
   | returned u=>exact he
   | panicked c=>exact hq _ _ _ (by simp) he
   | outgrown=>obtain ⟨a,w,h⟩:=he;exact ⟨a,w,hq _ _ _ (by simp) h⟩
 | halt x w'=>cases x <;> simp only [Oper.upon] at hh ⊢;exact hq _ _ _ (by simp) hh
theorem zQ {i:Nat} {o:Oper} {r:List Stp} {a:Act} {w:World} (ho:ops[i]? = some o)
  (h:wpList P ops (xz Q (fun a' w'=>S w'∧xB P ops S Q r a' w')) [o] a w):xB P ops S Q (.ef i :: r) a w:=by
 show wpOp P ops (NoPanic Q) i _ a w;unfold wpOp;rw [ho];dsimp only;unfold wpList at h
 have hq:∀ e a w,e≠.normal->xz Q (fun a' w'=>S w'∧xB P ops S Q r a' w') e a w->NoPanic Q e a w:=by
  intro e a w he h;cases e <;> first | exact absurd rfl he | exact h | exact (h:False).elim
 split at h
 ·rename_i hw
  rw [if_pos hw];refine h.imp (fun h=>?_) (fun ⟨h1,a,w,h2⟩=>⟨h1,a,w,h2⟩);exact Oper.wp_mono (fun a w h=>h) (xS hq h)
 ·rename_i hw
  rw [if_neg hw];exact h
theorem zJ {is:List Nat} {r:List Stp} {a A:Act} {w:World} (h:∀ w',S w'->∀ K:Act->Prop,K A->wpStill P ops w' K (zS ops is) a) (h2:xB P ops S Q r A w):xB P ops S Q (.rd is :: r) a w:=⟨A,h,h2⟩
theorem Za {a:Act} {w:World} (h:Q .normal a w):xB P ops S Q [] a w:=h
end
structure Chg (S:Nat->Prop) (w w':World):Prop where
 os:w'.os=w.os
 tape:w'.tape=w.tape
 output:w'.output=w.output
 size:w.heap.size<=w'.heap.size
 block:∀ k,k < w.heap.size->¬ S k->w'.heap[k]? = w.heap[k]?

theorem Chg.refl (S:Nat->Prop) (w:World):Chg S w w:=⟨rfl,rfl,rfl,zlS _,fun _ _ _=>rfl⟩
theorem Chg.trans {S:Nat->Prop} {a b c:World} (h:Chg S a b) (k:Chg S b c):Chg S a c:=
 ⟨k.os.trans h.os,k.tape.trans h.tape,k.output.trans h.output,Nat.le_trans h.size k.size,
  fun i hi hs=>(k.block i (zlG hi h.size) hs).trans (h.block i hi hs)⟩
theorem Chg.mono {S T:Nat->Prop} {a b:World} (h:Chg S a b) (hs:∀ k,k < a.heap.size->S k->T k):Chg T a b:=
 ⟨h.os,h.tape,h.output,h.size,fun i hi ht=>h.block i hi (fun q=>ht (hs i hi q))⟩
theorem Chg.drewN {S:Nat->Prop} {a b:World} (h:Chg S a b) (n:Nat):Chg S a (b.drewN n):=⟨h.os,h.tape,h.output,h.size,h.block⟩
theorem Chg.drew {S:Nat->Prop} {a b:World} (h:Chg S a b):Chg S a b.drew:=⟨h.os,h.tape,h.output,h.size,h.block⟩
theorem Chg.alloc {S:Nat->Prop} {a b:World} (h:Chg S a b) (o:Obj):Chg S a (b.alloc o):=
 h.trans ⟨rfl,rfl,rfl,by simp,fun k hk _=>Below.heap_alloc _ _ _ (by omega)⟩
theorem Chg.setCell {S:Nat->Prop} {a b:World} (h:Chg S a b) {p:Addr} (hp:p.block < a.heap.size->S p.block) (u:Value):Chg S a (b.setCell p u):=
 ⟨h.os,h.tape,h.output,by simpa [World.setCell] using h.size,fun k hk hs=>by
  rw [Below.heap_setCell _ _ _ _ (by rintro rfl;exact hs (hp hk))];exact h.block k hk hs⟩
theorem zu {w:World} {k:Nat} {o:Obj} (h:w.heap[k]? = some o):k < w.heap.size:=by
 rcases Nat.lt_or_ge k w.heap.size with g | g
 ·exact g
 ·rw [Array.getElem?_eq_none g] at h;cases h
theorem Chg.obj {S:Nat->Prop} {w w':World} {k:Nat} {o:Obj} (h:Chg S w w') (hs:¬ S k) (ho:w.heap[k]? = some o):w'.heap[k]? = some o:=
 (h.block k (zu ho) hs).trans ho
theorem Chg.below {S:Nat->Prop} {w w':World} {B:Nat} (h:Chg S w w') (hs:∀ k,k < B->¬ S k) (hB:B<=w.heap.size):Below B w w':=
 ⟨h.os,h.tape,h.output,h.size,fun k hk=>h.block k (by omega) (hs k hk)⟩
theorem zg {w:World} {b o:Nat} {cs:Array Value} {t:TypeId} {fz:Nat × Nat} {v:Value} (h:w.heap[b]? = some (.cells cs t fz)) (hv:cs[o]? = some v):w.cell? ⟨b,o,none⟩=some v:=by
 simp [World.cell?,h,hv]
theorem zk {w:World} {b o:Nat} {cs:Array Value} {t:TypeId} (h:w.heap[b]? = some (.cells cs t (0,0))):w.frozen? ⟨b,o,none⟩=false:=by
 simp [World.frozen?,h]
theorem zq {w:World} {b o:Nat} {cs:Array Value} {t:TypeId} {fz:Nat × Nat} (h:w.heap[b]? = some (.cells cs t fz)) (v:Value):
  (w.setCell ⟨b,o,none⟩ v).heap[b]? = some (.cells (cs.setIfInBounds o v) t fz):=by
 rw [setCell_eq_setRow w b o cs t fz v h];exact setRow_heap w b cs _ t fz h
theorem xG {w:World} {b k:Nat} (o:Nat) (v:Value) (hne:k≠b):(w.setCell ⟨b,o,none⟩ v).heap[k]? = w.heap[k]?:=
 Below.heap_setCell _ _ _ _ hne
theorem zh (w:World) (o:Obj):(w.alloc o).heap[w.heap.size]? = some o:=heap_alloc_new w o
theorem yc {w:World} {k:Nat} {x:Obj} (o:Obj) (h:w.heap[k]? = some x):(w.alloc o).heap[k]? = some x:=
 (Below.heap_alloc w o k (zu h)).trans h
theorem zA (w:World) (b o:Nat) (v:Value):Chg (fun k=>k=b) w (w.setCell ⟨b,o,none⟩ v):=
 Chg.setCell (S:=fun k=>k=b) (Chg.refl _ _) (fun _=>rfl) _
def yL (c:UInt8):Value:=.int .u8 (c.toNat:Int)
def zE (l:List UInt8):List Value:=l.map yL
def xQ (n:Nat) (z:Value):List Value:=List.replicate n z
theorem zdL (n:Nat) (z:Value):(xQ n z).length=n:=List.length_replicate
structure zbI (g:Nat) (l:List Value) (t:TypeId) (w w':World):Prop where
 row:w'.heap[g]? = some (.cells l.toArray t (0,0))
 chg:Chg (·=g) w w'
theorem yj (g o j:Nat):(⟨g,o,none⟩:Addr).add j=⟨g,o+j,none⟩:=by unfold Addr.add;split <;> simp_all
def Zc (P:Program) (e:TypeId) (size bytes:Nat):Prop:=
 ∃ i z,P.info? e=some i∧i.zero=some z∧i.size=size∧i.bytes=bytes∧z.cells.size=size∧0 < size
theorem zX {P:Program} {e:TypeId} {z:Value} {size bytes:Nat} (h:(P.info? e).map (fun i=>(i.zero,i.size,i.bytes))=some (some z,size,bytes)) (hz:z.cells.size=size) (hs:0 < size):Zc P e size bytes:=by
 cases hq:P.info? e with
 | none=>simp [hq] at h
 | some i=>simp [hq] at h;exact ⟨i,z,hq,h.1,h.2.1,h.2.2,hz,hs⟩
theorem Chg.of_grown {w w':World} {row:Option Nat} (h:w.grownBy w' row):Chg (fun k=>row=some k) w w':=
 ⟨h.os,h.tape,h.output,h.size,fun k hk hs=>h.block k hk (fun e=>hs e.symm)⟩
theorem Chg.grown {S:Nat->Prop} {a w w':World} {row:Option Nat} (h:Chg S a w) (hg:w.grownBy w' row) (hs:∀ k,row=some k->k < a.heap.size->S k):Chg S a w':=
 ⟨hg.os.trans h.os,hg.tape.trans h.tape,hg.output.trans h.output,Nat.le_trans h.size hg.size,fun k hk hn=>by
  rw [hg.block k (zlG hk h.size) (fun e=>hn (hs k e.symm hk))];exact h.block k hk hn⟩
theorem zo {S:Nat->Prop} {w w':World} {base:Nat} {e:TypeId} {size:Nat} {v:Value} {n:Nat} {xs:List Value} (h:w.ownsRow base e size v n xs) (hc:Chg S w w') (hs:∀ k,v.ownBlock=some k->¬ S k):w'.ownsRow base e size v n xs:=by
 obtain ⟨h1,h2⟩:=h;refine ⟨h1,?_⟩;rcases h2 with h2 | ⟨g,cap,cur,rfl,hg,hh,r⟩
 ·exact Or.inl h2
 ·exact Or.inr ⟨g,cap,cur,rfl,hg,hc.obj (hs g rfl) hh,r⟩
theorem YK {w:World} {base base':Nat} {e:TypeId} {size:Nat} {v:Value} {n:Nat} {xs:List Value} (h:w.ownsRow base e size v n xs) (hb:base'<=base):w.ownsRow base' e size v n xs:=by
 obtain ⟨h1,h2⟩:=h;refine ⟨h1,?_⟩;rcases h2 with h2 | ⟨g,cap,cur,rfl,hg,hh,r⟩
 ·exact Or.inl h2
 ·exact Or.inr ⟨g,cap,cur,rfl,by omega,hh,r⟩
theorem zdx {P:Program} {w:World} {ops:Array Oper} {rest:List Oper} {o:Oper} {a:Act} {Q:Exit->Act->World->Prop} (hgd:o.guard=none) (s x:Operand) (t:TypeId)
  (ho:o.op=.call { callee:=.builtin .append,args:=#[s,x],argTypes:=#[t,t] }) (e:TypeId) (size bytes:Nat) (ht:P.underlying t=some (.slice e)) (hE:Zc P e size bytes)
  (base:Nat) (v:Value) (n:Nat) (xs:List Value) (hs:a.eval s=v) (hown:w.ownsRow base e size v n xs)
  (g:Nat) (news:List Value) (tt:TypeId) (fz:Nat × Nat) (hx:a.eval x=.slice (some ⟨g,0,none⟩) 1 1) (hg:w.heap[g]? = some (.cells news.toArray tt fz)) (hl:news.length=size) (h1:∀ u∈news,u.oneCell'=true)
  (hbytes:(n+1)*bytes<=140737488355328) (h63:n+1<=maxLen) (hbase:base<=w.heap.size)
  (h:∀ v' w',w'.ownsRow base e size v' (n+1) (xs++news)->w.grownBy w' v.ownBlock->wpList P ops Q rest (a.put o.dst v') w'):wpList P ops Q (o :: rest) a w:=by
 obtain ⟨i,z,hi,hz,q1,q2,q3,q4⟩:=hE;refine wpList_append_own w hgd s x t ho base e i z size bytes ht hi hz q1 q2 q3 q4 v n xs hs hown ⟨g,0,none⟩ 1 1 news hx (by simpa using hl) ?_ h1 h63 hbytes hbase (fun v' w' h2 h3 _=>h v' w' h2 h3);intro j u hj;rw [yj];exact zg hg (by simpa using hj)
theorem yq (l:List UInt8) (j:Nat) (h:j < l.length):(zE l)[j]? = some (.int .u8 ((l.map fun c=>(c.toNat:Int)).getD j 0)):=by
 unfold zE yL;rw [zlK,zlF,zlK,zlz h];rfl
theorem ZA (l:List UInt8):strOfNums (l.map fun c=>(c.toNat:Int))=⟨l.toArray⟩:=by
 unfold strOfNums
 congr 1
 simp [Function.comp_def]
theorem zP {P:Program} {id:Nat} {Q:Exit->Act->World->Prop} {a:Act} {w:World} {l:List Oper} (hm:P.follows .mixedOrders=true) (hB:Region.lexB .any l.toArray=true)
 (h:wpStill P l.toArray w.drew (fun a'=>Q .normal a' w.drew) l a):(Code.region id l.toArray true).wp P Q a w:=wp_region_still_lit hm hB h
theorem Yc {P:Program} {id:Nat} {Q:Exit->Act->World->Prop} {a:Act} {w:World} {l:List Oper} (n:Nat) (hm:P.follows .mixedOrders=true) (hB:Region.lexTailB .any l.toArray n=true)
 (h:wpStill P l.toArray w.drew (fun a'=>wpList P l.toArray Q (l.drop n) a' w.drew) (l.take n) a):(Code.region id l.toArray true).wp P Q a w:=wp_region_still_tail n hm hB h
theorem zy (S:Nat->Prop) (w:World):Chg S w w.drew:=(Chg.refl S w).drew
theorem zi (S:Nat->Prop) (w:World) (o:Obj):Chg S w (w.alloc o):=(Chg.refl S w).alloc o
def xC (P:Program) (md:Region.Mode) (ops:Array Oper) (Q:Exit->Act->World->Prop) (S:World->Prop) (L:Nat):Nat->Array Bool->Act->World->Prop
 | 0,listed,a,w=>Region.ready md ops listed=[]∧Q .normal a w
 | fuel+1,listed,a,w=>
  (Region.ready md ops listed=[]->Q .normal a w) ∧
  ∀ i∈Region.ready md ops listed,wpOp P ops Q i (fun a' w'=>(i=L∨S w')∧xC P md ops Q S L fuel (listed.setIfInBounds i true) a' w') a w
def Yo (P:Program) (ops:Array Oper) (S:World->Prop) (L:Nat) (Q:Exit->Act->World->Prop):List Stp->Act->World->Prop
 | [],a,w=>Q .normal a w
 | .rd is :: r,a,w=>∃ A,(∀ w',S w'->∀ K:Act->Prop,K A->wpStill P ops w' K (zS ops is) a)∧Yo P ops S L Q r A w
 | .ef i :: r,a,w=>wpOp P ops (NoPanic Q) i (fun a' w'=>(i=L∨S w')∧Yo P ops S L Q r a' w') a w
def zkV (ops:Array Oper) (L i:Nat):Bool:=match ops[L]? with
 | none=>true
 | some o=>o.after.any fun e=>Region.binds .any e && e.on == i
def zfV (ops:Array Oper) (L:Nat):List Stp->Bool
 | []=>true
 | .rd is :: r=>is.all (zkV ops L) && zfV ops L r
 | .ef i :: r=>(!(i == L) || r.isEmpty) && zfV ops L r
section
variable {P:Program} {ops:Array Oper} {Q:Exit->Act->World->Prop} {S:World->Prop} {L:Nat}
theorem za7 {md:Region.Mode}:∀ (fuel:Nat) (listed:Array Bool) (a:Act) (w:World),xC P md ops Q S L fuel listed a w->wpAny P md ops Q fuel listed a w
 | 0,_,_,_,h=>h
 | fuel+1,_,_,_,h=>⟨h.1,fun i hi=>wpOp_mono (fun a' w' h'=>za7 fuel _ a' w' h'.2) (h.2 i hi)⟩
theorem zdy {md:Region.Mode} {listed:Array Bool} {a:Act} {w:World} (hr:Region.ready md ops listed=[]) (h:Q .normal a w):∀ fuel,xC P md ops Q S L fuel listed a w
 | 0=>⟨hr,h⟩
 | _+1=>⟨fun _=>h,fun i hi=>by rw [hr] at hi;cases hi⟩
theorem ze5 {md:Region.Mode} {rs:List Nat} {fuel:Nat} {listed:Array Bool} {a:Act} {w:World} (hr:Region.ready md ops listed=rs) (hne:rs≠[])
  (h:∀ i∈rs,wpOp P ops Q i (fun a' w'=>(i=L∨S w')∧xC P md ops Q S L fuel (listed.setIfInBounds i true) a' w') a w):xC P md ops Q S L (fuel+1) listed a w:=
 ⟨fun e=>absurd (hr ▸ e) hne,fun i hi=>h i (hr ▸ hi)⟩
theorem zcw {md:Region.Mode} {i:Nat} {oi:Oper} {v:Value} {Q:Exit->Act->World->Prop} (hi:ops[i]? = some oi) (hsel:∀ (j:Nat) (o:Oper) cs b,ops[j]? = some o->o.op≠.select cs b)
  (hdep:∀ oL,ops[L]? = some oL->∃ e∈oL.after,Region.binds md e=true∧e.on=i)
  (hQ:∀ c a w,Q (.panic c) (a.put oi.dst v) w->Q (.panic c) a w):
  ∀ (fuel:Nat) (listed:Array Bool) (a:Act) (w:World),
   (∀ (j:Nat) oj,ops[j]? = some oj->j≠i->listed.getD j true=false->(∀ e∈oj.after,Region.binds md e=true->e.on≠i)->oi.apart ops oj=true) ->
   i∈Region.ready md ops listed->yn P ops S oi v a->S w ->
   xC P md ops Q S L fuel (listed.setIfInBounds i true) (a.put oi.dst v) w->xC P md ops Q S L (fuel+1) listed a w:=by
 intro fuel;induction fuel with
 | zero=>
  intro listed a w _ hr hy hS H;refine ⟨fun h=>(by rw [h] at hr;cases hr),fun j hj=>?_⟩;by_cases hji:j=i
  ·subst hji;exact hy.wpOp hi hS ⟨.inr hS,H⟩
  ·have:=ready_mono hj hji
   rw [H.1] at this;cases this
 | succ fuel ih=>
  intro listed a w hfree hr hy hS H;refine ⟨fun h=>(by rw [h] at hr;cases hr),fun j hj=>?_⟩;by_cases hji:j=i
  ·subst hji;exact hy.wpOp hi hS ⟨.inr hS,H⟩
  ·have h1:=H.2 j (ready_mono hj hji)
   obtain ⟨hjun,oj,hoj,hall⟩:=mem_ready.1 hj
   have hnot:∀ e∈oj.after,Region.binds md e=true->e.on≠i:=fun e he hb heq=>by
    have h1:=hall e he hb;have h0:=(mem_ready.1 hr).1;rw [heq] at h1;rcases Nat.lt_or_ge i listed.size with h' | h'
    ·simp [h'] at h0 h1;rw [h0] at h1;cases h1
    ·simp [Array.getElem?_eq_none h'] at h1
   have h2:=zcq hoj (hfree j oj hoj hji hjun hnot) (fun cs b=>hsel i oi cs b hi) (fun cs b=>hsel j oj cs b hoj) hQ hy h1
   have hfree':∀ (k:Nat) ok,ops[k]? = some ok->k≠i->(listed.setIfInBounds j true).getD k true=false ->
     (∀ e∈ok.after,Region.binds md e=true->e.on≠i)->oi.apart ops ok=true:=fun k ok hk hki hun hno=>by
    refine hfree k ok hk hki ?_ hno;by_cases hjk:j=k
    ·subst hjk;exact hjun
    ·rw [getD_set_ne true hjk] at hun;exact hun
   have hjL:j≠L:=fun e=>by
    obtain ⟨e',h1,h2,h3⟩:=hdep oj (by rw [<- e];exact hoj);exact hnot e' h1 h2 h3
   refine wpOp_mono (fun a' w' h3=>⟨h3.2.1,ih (listed.setIfInBounds j true) a' w' hfree' (ready_mono hr (Ne.symm hji)) h3.1 (h3.2.1.resolve_left hjL) ?_⟩) h2;rw [Array.setIfInBounds_comm _ _ hji];exact h3.2.2
theorem zaA {N:Nat} {w:World} (hsel:Region.noSelect ops=true) (hS:S w) {A:Act} {fuel:Nat}:
  ∀ (is:List Nat) (listed:Array Bool) (a:Act),N<=a.tmps.size->zjS ops N is=true->xx.goB ops is listed=true->is.all (zkV ops L)=true ->
   (∀ w',S w'->wpStill P ops w' (·=A) (zS ops is) a) ->
   xC P .any ops (NoPanic Q) S L fuel (is.foldl (fun l i=>l.setIfInBounds i true) listed) A w ->
   xC P .any ops (NoPanic Q) S L (fuel+is.length) listed a w
 | [],listed,a,_,_,_,_,hst,h=>by
  have:a=A:=hst w hS;subst this;exact h
 | i :: is,listed,a,hN,hr,hg,hdp,hst,h=>by
  simp only [List.all_cons,zlU] at hdp;obtain ⟨hdi,hdr⟩:=hdp
  have hdep:∀ oL,ops[L]? = some oL->∃ e∈oL.after,Region.binds .any e=true∧e.on=i:=fun oL hoL=>by
   unfold zkV at hdi;rw [hoL] at hdi;simp only [Array.any_eq_true] at hdi;obtain ⟨x,hx,hb⟩:=hdi;simp only [zlU,beq_iff_eq] at hb;exact ⟨_,Array.getElem_mem hx,hb.1,hb.2⟩
  simp only [xx.goB,zlU,decide_eq_true_eq] at hg;obtain ⟨⟨⟨hi,hrd⟩,hfr⟩,hg'⟩:=hg;simp only [zjS,zlU] at hr;obtain ⟨hd,hr'⟩:=hr;have ho:ops[i]? = some ops[i]:=Array.getElem?_eq_getElem hi;have hop:zS ops (i :: is)=ops[i] :: zS ops is:=by simp [zS,ho]
  obtain ⟨d,hdd,hd2⟩:∃ d,zae ops i=some d∧(decide (d < N) && is.all fun j=>!(zae ops j == some d))=true:=by
   cases hq:zae ops i with
   | none=>rw [hq] at hd;simp at hd
   | some d=>rw [hq] at hd;exact ⟨d,rfl,by simpa using hd⟩
  simp only [zlU,decide_eq_true_eq,zlQ] at hd2;have hdst:ops[i].dst=some d:=by simpa [zae,ho] using hdd
  have hsz:d < a.tmps.size:=zlG hd2.1 hN
  have hne:∀ o∈zS ops is,o.dst≠some d:=by
   intro o ho' e;simp only [zS,List.mem_filterMap] at ho';obtain ⟨j,hj,hjo⟩:=ho';have:=hd2.2 j hj;simp [zae,hjo,e] at this
  -- the value that it leaves,whatever the world
  have key:∃ v,yn P ops S ops[i] v a∧∀ w',S w'->wpStill P ops w' (·=A) (zS ops is) (a.put ops[i].dst v):=by
   by_cases hw:Region.wanted ops[i] (yielded ops a.tmps)=true
   ·have hv:∀ w',S w'->∃ v,asV P w' v ((execOp a.eval ops[i]).run P w')∧wpStill P ops w' (·=A) (zS ops is) (a.put ops[i].dst v):=by
     intro w' hS';have h1:=hst w' hS';rw [hop] at h1;unfold wpStill at h1;rw [if_pos hw] at h1;unfold Oper.still at h1;cases hres:(execOp a.eval ops[i]).run P w' with
     | halt x w''=>rw [hres] at h1;cases x <;> simp [Oper.stillUpon] at h1
     | ok n w''=>
      rw [hres] at h1;cases n with
      | value u=>exact ⟨u,⟨h1.1,rfl⟩,h1.2⟩
      | skip=>exact ⟨undef,⟨h1.1,rfl⟩,h1.2⟩
      | enter f args=>obtain ⟨h2,v,h3,h4⟩:=h1;exact ⟨v,⟨h2,h3⟩,h4⟩
      | _=>simp [Oper.stillUpon] at h1
    refine ⟨A.tmps.getD d undef,.inl ⟨hw,fun w' hS'=>?_⟩,fun w' hS'=>?_⟩
    all_goals
     obtain ⟨v,hv1,hv2⟩:=hv w' hS';have hv3:=hv2;rw [hdst] at hv3;have e:=(xJ (zS ops is) _ hne hv3).1;rw [zeB a d v hsz] at e;rw [e]
     assumption
   ·refine ⟨undef,.inr ⟨by simpa using hw,rfl⟩,fun w' hS'=>?_⟩
    have h1:=hst w' hS';rw [hop] at h1;unfold wpStill at h1;rw [if_neg hw] at h1;exact h1
  obtain ⟨v,hy,hst'⟩:=key;have:=zaA hsel hS is (listed.setIfInBounds i true) (a.put ops[i].dst v) (by rw [Zp];exact hN) hr' hg' hdr hst' h;exact zcw ho (Region.noSelect_spec hsel) hdep zaF (fuel+is.length) listed a w (Region.free_spec ho hfr) (by simpa using hrd) hy hS this
theorem zaz {N:Nat} (hsel:Region.noSelect ops=true):∀ (pl:List Stp) (listed:Array Bool) (a:Act) (w:World),N<=a.tmps.size->(S w∨pl=[])->zfV ops L pl=true->xx ops N pl listed=true ->
   Yo P ops S L Q pl a w->xC P .any ops (NoPanic Q) S L (yw pl) listed a w
 | [],listed,a,w,_,_,_,hb,h=>by
  simp only [xx,List.isEmpty_iff] at hb;exact zdy (Q:=NoPanic Q) hb h _
 | .rd is :: r,listed,a,w,hN,hS,hdp,hb,h=>by
  have hS:S w:=hS.resolve_right (by simp);simp only [zfV,zlU] at hdp;simp only [xx,zlU] at hb;obtain ⟨A,h1,h2⟩:=h
  have hA:A.tmps.size=a.tmps.size:=by
   have:=h1 w hS (·=A) rfl
   have key:∀ (l:List Oper) (a:Act),wpStill P ops w (·=A) l a->A.tmps.size=a.tmps.size:=by
    intro l;induction l with
    | nil=>intro a h;have:a=A:=h;rw [this]
    | cons o l ih=>
     intro a h;unfold wpStill at h;split at h
     ·unfold Oper.still at h
      generalize (execOp a.eval o).run P w=res at h;cases res with
      | halt x w'=>cases x <;> simp [Oper.stillUpon] at h
      | ok n w'=>
       cases n with
       | value v=>have:=ih _ h.2;rwa [Zp] at this
       | skip=>have:=ih _ h.2;rwa [Zp] at this
       | enter f args=>obtain ⟨_,v,_,hv⟩:=h;have:=ih _ hv;rwa [Zp] at this
       | _=>simp [Oper.stillUpon] at h
     ·have:=ih _ h;rwa [Zp] at this
   exact key _ _ this
  have:=zaz hsel r _ A w (by omega) (.inl hS) hdp.2 hb.2 h2;have:=zaA (N:=N) hsel hS is listed a hN hb.1.1 hb.1.2 hdp.1 (fun w' hS'=>h1 w' hS' (·=A) rfl) this;rw [show yw (.rd is :: r)=yw r+is.length from Nat.add_comm _ _];exact this
 | .ef i :: r,listed,a,w,hN,_,hdp,hb,h=>by
  simp only [zfV,zlU,Bool.or_eq_true,Bool.not_eq_true',zlI,List.isEmpty_iff] at hdp;simp only [xx,zlU,decide_eq_true_eq,beq_iff_eq] at hb;rw [show yw (.ef i :: r)=yw r+1 from Nat.add_comm _ _];refine ze5 hb.1.1 (by simp) (fun j hj=>?_);simp at hj;subst hj;refine wpOp_mono (fun a' w' ⟨hs,hS',hp⟩=>⟨hS',zaz hsel r _ a' w' (by omega) ?_ hdp.2 hb.2 hp⟩) (zcp h);rcases hS' with e | e
  ·exact .inr (hdp.1.resolve_left (fun q=>q e))
  ·exact .inl e
theorem Zf {id N:Nat} {l:List Oper} {a:Act} {w:World} (pl:List Stp) (L:Nat) (S:World->Prop) (hm:P.follows .mixedOrders=true) (hsel:Region.noSelect l.toArray=true)
  (hlen:yw pl=l.toArray.size) (hd:zfV l.toArray L pl=true) (hb:xx l.toArray N pl (Array.replicate l.toArray.size false)=true) (hN:N<=a.tmps.size) (hS:S w.drew)
  (h:Yo P l.toArray S L Q pl a w.drew):(Code.region id l.toArray true).wp P Q a w:=by
 refine wp_region_noPanic (wp_region_any hm (za7 (S:=S) (L:=L) _ _ _ _ ?_));have:=zaz hsel pl _ a w.drew hN (.inl hS) hd hb h;rw [hlen] at this;exact this
theorem zG {i:Nat} {o:Oper} {r:List Stp} {a:Act} {w:World} (ho:ops[i]? = some o)
  (h:wpList P ops (xz Q (fun a' w'=>(i=L∨S w')∧Yo P ops S L Q r a' w')) [o] a w):Yo P ops S L Q (.ef i :: r) a w:=by
 show wpOp P ops (NoPanic Q) i _ a w;unfold wpOp;rw [ho];dsimp only;unfold wpList at h
 have hq:∀ e a w,e≠.normal->xz Q (fun a' w'=>(i=L∨S w')∧Yo P ops S L Q r a' w') e a w->NoPanic Q e a w:=by
  intro e a w he h;cases e <;> first | exact absurd rfl he | exact h | exact (h:False).elim
 split at h
 ·rename_i hw
  rw [if_pos hw];refine h.imp (fun h=>?_) (fun ⟨h1,a,w,h2⟩=>⟨h1,a,w,h2⟩);exact Oper.wp_mono (fun a w h=>h) (xS hq h)
 ·rename_i hw
  rw [if_neg hw];exact h
theorem Yg {is:List Nat} {r:List Stp} {a A:Act} {w:World} (h:∀ w',S w'->∀ K:Act->Prop,K A->wpStill P ops w' K (zS ops is) a) (h2:Yo P ops S L Q r A w):Yo P ops S L Q (.rd is :: r) a w:=⟨A,h,h2⟩
theorem ZM {a:Act} {w:World} (h:Q .normal a w):Yo P ops S L Q [] a w:=h
end
def zck (w:World) (g:Nat) (t:TypeId) (xs:List Value):Prop:=∃ rest:List Value,w.heap[g]? = some (.cells (xs++rest).toArray t (0,0))
theorem zck.frozen {w:World} {g:Nat} {t:TypeId} {xs:List Value} (h:zck w g t xs) (i:Nat):w.frozen? ⟨g,i,none⟩=false:=by
 obtain ⟨rest,h⟩:=h;exact zk h
def yJ (w:World) (v v':Value):Prop:=v'.ownBlock=v.ownBlock∨∀ k,v'.ownBlock=some k->w.heap.size<=k
theorem zaa {P:Program} (w:World) (base:Nat) (t ty e:TypeId) (i:TypeInfo) (z:Value) (size bytes:Nat) (ht:P.underlying t=some (.slice e)) (hi:P.info? e=some i) (hz:i.zero=some z)
  (xy:i.size=size) (hby:i.bytes=bytes) (hzs:z.cells.size=size) (hsz:0 < size)
  (v:Value) (n:Nat) (xs:List Value) (hown:w.ownsRow base e size v n xs)
  (a:Addr) (m c:Nat) (news:List Value) (hl:news.length=m*size) (hnews:∀ j u,news[j]? = some u->w.cell? (a.add j)=some u) (h1:∀ u∈news,u.oneCell'=true)
  (h63:n+m<=maxLen) (hbytes:(n+m)*bytes<=140737488355328) (hbase:base<=w.heap.size):
  ∃ v' w',(Builtin.append_ #[t,t] ty #[v,.slice (some a) m c]).run P w=.ok v' w'∧w'.ownsRow base e size v' (n+m) (xs++news)∧w.grownBy w' v.ownBlock∧yJ w v v':=by
 obtain ⟨v',w',hr,r1,r2,_⟩:=run_append_own (P:=P) w base t ty e i z size bytes ht hi hz xy hby hzs hsz v n xs hown a m c news hl hnews h1 h63 hbytes hbase;refine ⟨v',w',hr,r1,r2,?_⟩;have hown0:=hown;rcases hown.2 with ⟨rfl,rfl⟩ | ⟨g,cap,cur,rfl,hbg,hg,hnc,hcm,hcs,htake⟩
 ·have hx:xs=[]:=List.eq_nil_of_length_eq_zero (by simpa using hown.1)
  subst hx;obtain ⟨v2,w2,hr2,q1,_,_⟩:=run_append_own (P:=P) w w.heap.size t ty e i z size bytes ht hi hz xy hby hzs hsz (.slice none 0 0) 0 [] (World.ownsRow_nil _ _ _ _) a m c news hl hnews h1 h63 hbytes (zlS _);rw [hr] at hr2;cases hr2;exact .inr fun k hk=>(q1.lt k hk).1
 ·subst xy
  subst hby;by_cases hroom:n+m<=cap
  ·have hfit:n*i.size+news.length<=cur.size:=by rw [hl,hcs,<- Nat.add_mul];exact Nat.mul_le_mul_right _ hroom
   have hr2:=run_append_room (P:=P) w t ty e i ht hi g n cap cur hg a m c news hl hnews h1 hroom hfit;rw [hr] at hr2;cases hr2;exact .inl rfl
  ·have hr2:=run_append_grow (P:=P) w t ty e i z ht hi hz ⟨g,0,none⟩ n cap xs hown0.1 (hown0.cells (g:=g) rfl) a m c news hl hnews (by omega) (by simp only [maxLen] at h63;omega) (growslice_fits (by omega) hbytes)
   rw [hr] at hr2;cases hr2;exact .inr fun k hk=>by simp [Value.ownBlock] at hk;omega
theorem zK {P:Program} {w:World} {ops:Array Oper} {rest:List Oper} {o:Oper} {a:Act} {Q:Exit->Act->World->Prop} (hgd:o.guard=none) (s x:Operand) (t:TypeId)
  (ho:o.op=.call { callee:=.builtin .append,args:=#[s,x],argTypes:=#[t,t] }) (e:TypeId) (size bytes:Nat) (ht:P.underlying t=some (.slice e)) (hE:Zc P e size bytes)
  (base:Nat) (v:Value) (n:Nat) (xs:List Value) (hs:a.eval s=v) (hown:w.ownsRow base e size v n xs)
  (g:Nat) (news:List Value) (tt:TypeId) (fz:Nat × Nat) (hx:a.eval x=.slice (some ⟨g,0,none⟩) 1 1) (hg:w.heap[g]? = some (.cells news.toArray tt fz)) (hl:news.length=size) (h1:∀ u∈news,u.oneCell'=true)
  (hbytes:(n+1)*bytes<=140737488355328) (h63:n+1<=maxLen) (hbase:base<=w.heap.size)
  (h:∀ v' w',w'.ownsRow base e size v' (n+1) (xs++news)->w.grownBy w' v.ownBlock->yJ w v v'->wpList P ops Q rest (a.put o.dst v') w'):wpList P ops Q (o :: rest) a w:=by
 obtain ⟨i,z,hi,hz,q1,q2,q3,q4⟩:=hE;refine wpList_plain hgd fun K hK=>?_;obtain ⟨v',w',hr,h2,h3,h4⟩:=zaa (P:=P) w base t o.type e i z size bytes ht hi hz q1 q2 q3 q4 v n xs hown ⟨g,0,none⟩ 1 1 news (by simpa using hl) (fun j u hj=>by rw [yj];exact zg hg (by simpa using hj)) h1 h63 hbytes hbase;unfold Oper.wp execOp;simp only [ho,resolve,invoke,builtin,Sem.run_bind,Sem.run_pure,Result.andThen_ok,List.map_toArray,List.map_cons,List.map_nil,hs,hx,hr];exact hK _ _ (h v' w' h2 h3 h4)
theorem Zw {P:Program} {ops:Array Oper} {w:World} {Q:Exit->Act->World->Prop} {a:Act} {o:Oper} {rest:List Oper} (hgd:o.guard=none) (ty:TypeId) (x y:Operand) (ho:o.op=.store ty x y)
  (g off:Nat) (hx:a.eval x=.pointer (some ⟨g,off,none⟩)) (v:Value) (hy:a.eval y=v) (hv:v.cells=#[v]) (h1:v.oneCell'=true) (hi:(P.info? ty).map (·.size)=some 1)
  (old:Value) (hc:w.cell? ⟨g,off,none⟩=some old) (hf:w.frozen? ⟨g,off,none⟩=false)
  (h:∀ w',w'=w.setCell ⟨g,off,none⟩ v->wpList P ops Q rest (a.put o.dst undef) w'):wpList P ops Q (o :: rest) a w:=by
 refine wpList_plain hgd fun K hK=>?_
 have hst:(storeCells ⟨g,off,none⟩ [v] 0).run P w=.ok () (w.setCell ⟨g,off,none⟩ v):=by
  have:(store ⟨g,off,none⟩ v).run P w=.ok () (w.setCell ⟨g,off,none⟩ v):=by rw [run_store P w _ v _ h1,hc];simp [hf]
  simp [storeCells,yj,this]
 cases hq:P.info? ty with
 | none=>simp [hq] at hi
 | some i=>
  have hin:i.size=1:=by simpa [hq] using hi
  unfold Oper.wp execOp;simp only [ho,hx,hy,Instr.storeAt,Instr.sureAddr,storeVar,hv];simp [sizeOf,typeInfo,hq,hin,hst];exact hK _ _ (h _ rfl)
theorem zj {S:Nat->Prop} {w w':World} {b o:Nat} {v:Value} (hc:Chg S w w') (hs:¬ S b) (h:w.cell? ⟨b,o,none⟩=some v):w'.cell? ⟨b,o,none⟩=some v:=by
 rw [<- h];exact World.cell?_of_block (w:=w) (hc.block b (World.block_lt_of_cell? w _ h) hs)
theorem yX (w:World) (base:Nat) (e:TypeId) (size:Nat) (hb:base<=w.heap.size):(w.alloc (.cells #[] e)).ownsRow base e size (.slice (some ⟨w.heap.size,0,none⟩) 0 0) 0 []:=
 ⟨by simp,.inr ⟨w.heap.size,0,#[],rfl,hb,zh _ _,zlS _,by unfold maxLen;omega,by simp,by simp⟩⟩
def ziS (v u:Value):Prop:=∀ x,v.ownBlock=some x->u.ownBlock≠some x
theorem ziS.symm {v u:Value} (h:ziS v u):ziS u v:=fun x h1 h2=>h x h2 h1
theorem zl {w:World} {base:Nat} {e:TypeId} {size n:Nat} {xs:List Value} {v:Value} (h:w.ownsRow base e size v n xs):∃ a c,v=.slice a n c:=by
 obtain ⟨_,⟨rfl,rfl⟩ | ⟨g,cap,cur,rfl,_⟩⟩:=h
 ·exact ⟨_,_,rfl⟩
 ·exact ⟨_,_,rfl⟩
theorem zz (s:ByteArray):s.data.toList.length=s.size:=by rw [Array.length_toList];rfl
theorem Chg.next {S T:Nat->Prop} {a b c:World} (h:Chg S a b) (k:Chg T b c) (hs:∀ i,i < a.heap.size->T i->S i):Chg S a c:=
 ⟨k.os.trans h.os,k.tape.trans h.tape,k.output.trans h.output,Nat.le_trans h.size k.size,fun i hi hn=>(k.block i (zlG hi h.size) (fun e=>hn (hs i hi e))).trans (h.block i hi hn)⟩
theorem Xe {w:World} {base:Nat} {e:TypeId} {size n c m:Nat} {a:Option Addr} {xs:List Value} (h:w.ownsRow base e size (.slice a n c) m xs) (hn:0 < m):∃ g,a=some ⟨g,0,none⟩:=by
 obtain ⟨_,⟨_,rfl⟩ | ⟨g,cap,cur,e,_⟩⟩:=h
 ·omega
 ·cases e;exact ⟨g,rfl⟩
theorem Ye {P:Program} {w:World} {ops:Array Oper} {rest:List Oper} {o:Oper} {a:Act} {Q:Exit->Act->World->Prop} (hgd:o.guard=none) (s x:Operand) (t:TypeId)
  (ho:o.op=.call { callee:=.builtin .append,args:=#[s,x],argTypes:=#[t,t] }) (e:TypeId) (size bytes:Nat) (ht:P.underlying t=some (.slice e)) (hE:Zc P e size bytes)
  (base:Nat) (v:Value) (n:Nat) (xs:List Value) (hs:a.eval s=v) (hown:w.ownsRow base e size v n xs)
  (xa:Option Addr) (m c:Nat) (news:List Value) (hx:a.eval x=.slice xa m c) (hl:news.length=m*size) (hc:∀ (j:Nat) u,news[j]? = some u->∃ g o,xa=some ⟨g,o,none⟩∧w.cell? ⟨g,o+j,none⟩=some u) (hnil:xa=none->m=0∧c=0)
  (h1:∀ u∈news,u.oneCell'=true) (hbytes:(n+m)*bytes<=140737488355328) (h63:n+m<=maxLen) (hbase:base<=w.heap.size)
  (h:∀ v' w',w'.ownsRow base e size v' (n+m) (xs++news)->w.grownBy w' v.ownBlock->wpList P ops Q rest (a.put o.dst v') w'):wpList P ops Q (o :: rest) a w:=by
 obtain ⟨i,z,hi,hz,q1,q2,q3,q4⟩:=hE;cases xa with
 | none=>
  obtain ⟨rfl,rfl⟩:=hnil rfl;have:news=[]:=List.eq_nil_of_length_eq_zero (by rw [hl];omega);subst this;refine wpList_append_own_none hgd s x _ ho base _ i size ht hi v n xs hs hown hx ?_;exact h v w (by simpa using hown) ⟨rfl,rfl,rfl,zlS _,fun _ _ _=>rfl⟩
 | some ad=>
  refine wpList_append_own w hgd s x t ho base e i z size bytes ht hi hz q1 q2 q3 q4 v n xs hs hown ad m c news hx hl ?_ h1 h63 hbytes hbase (fun v' w' h2 h3 _=>h v' w' h2 h3);intro j u hj;obtain ⟨g,oo,e1,hcell⟩:=hc j u hj;cases e1;rw [yj];exact hcell
inductive PT where
 | nil
 | rd (is:List Nat) (n:PT)
 | ef (i:Nat) (n:PT)
 | two (i j:Nat) (a b:PT)
structure WS (P:Program) (ops:Array Oper) (w:World) (Q:Act->Prop) (l:List Oper) (a:Act):Prop where
 out:wpStill P ops w Q l a
theorem Zd {P:Program} {ops:Array Oper} {w:World} {Q:Act->Prop} {a:Act} {o:Oper} {rest:List Oper}
  (h:∀ K:Act->Prop,(∀ a,WS P ops w Q rest a->K a)->if Region.wanted o (yielded ops a.tmps) then o.still P a w K else K (a.put o.dst undef)):WS P ops w Q (o :: rest) a:=
 ⟨wpStill_step fun K hK=>h K (fun a h2=>hK a h2.out)⟩
theorem Zv {P:Program} {ops:Array Oper} {w:World} {Q:Act->Prop} {a:Act} (h:Q a):WS P ops w Q [] a:=⟨wpStill_nil h⟩
end Go.Proofs.YtcilaocknhphnaaGreat
