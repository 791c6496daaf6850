/- HistoryExtends returns true for every input, and the arguments read afterwards as they did, where the table of the kinds of objects and those of package sha256 hold what their initialisers lay (the card ties them). -/
import Derived.Deep.DeepHandedRow
import Derived.ShutString
import Derived.Test.YtphjagkehiklkaaGreatDoorTie
import Derived.Test.YtphjagkehiklkaaGreatDoorWK49
set_option linter.unusedVariables false
set_option linter.unusedSimpArgs false
set_option maxRecDepth 100000
namespace Go.Proofs.YtphjagkehiklkaaGreatDoor.historyExtends
open Go.ChangeShapes Go.WideShapes Go.ChangeAt Go.RowKit
open Go.ChangeMaps(open_string shut_string)
theorem own:ownKnob Tryz.prog.godebug=none:=by kernel_rfl
theorem laidOut:laidOutB Tryz.prog=true:=by kernel_rfl
theorem Ez(H:Type)(enc:TypeId×Value→H)(W:World)(base:Nat)(args:Array Value)(ds gs:List (DataW H))(before:List MemPlace)
  (a:∀(j:Nat)t v,Tryz.f8.params[j]? =some t→args[j]? =some v→Value.okWide Tryz.prog W .any base t v)
  (A:DataW.Whole enc Tryz.prog Tryz.f8.params.toList Rows.historyExtendsSpec.vars false W args.toList ds gs before)(i:laidMetH Tryz.prog Rows.historyExtendsRow.laid W):
  Calls Tryz.prog 8 args W fun e W'=>∃v,e= .returned v∧Rows.historyExtendsSpec.post enc Tryz.prog Tryz.f8 false true false false W args v W':=by
 have k:=A;obtain⟨p,q,d,L,rfl,M,N⟩:=A;have z:DataW.TrodAll enc Tryz.prog W 0 (fun _=>true) true Tryz.f8.params.toList args.toList ds p:=d;rw[Tryz.params8]at z a;obtain⟨v0,U,d0,F,O,aa,l,rfl,rfl,u,R⟩:=trodAll_cons z;obtain⟨v1,V,d1,G,P,ab,rfl,rfl,rfl,w,S⟩:=trodAll_cons R;obtain⟨v2,X,d2,I,Q,ac,rfl,rfl,rfl,y,T⟩:=trodAll_cons S;obtain⟨rfl,rfl,rfl⟩:=trodAll_nil T;obtain rfl:args=#[v0,v1,v2]:=by cases args;simp_all
 obtain⟨rfl,rfl⟩:=trodVars_none L;have B:=u;have Fg:∀x∈O,x.block<W.heap.size:=by obtain⟨m,hm⟩:=B;exact DataW.trod_lt m _ _ _ hm
 obtain⟨a0,f,c,rfl⟩:=okWide_slice Tryz.underlying22 (a 0 22 v0 rfl rfl);obtain⟨g,n⟩:=u;obtain⟨Z,s,o0,b0,Y⟩:=Ce n;have C:=w;have Fh:∀x∈P,x.block<W.heap.size:=by obtain⟨m,hm⟩:=C;exact DataW.trod_lt m _ _ _ hm
 obtain⟨E,rfl,rfl,rfl,w1⟩:=open_int Tryz.underlying3 (a 1 3 v1 rfl rfl) w;have b1:=bounds_i64 w1;have D:=y;have r:∀x∈Q,x.block<W.heap.size:=by obtain⟨m,hm⟩:=D;exact DataW.trod_lt m _ _ _ hm
 obtain⟨a2,rfl,rfl,rfl,w2⟩:=open_int Tryz.underlying3 (a 2 3 v2 rfl rfl) y;have b2:=bounds_i64 w2;clear d;rw[MakeChecks.laidMetH_plain _ _ _ (by kernel_rfl)]at i;have K:eE W:=Jk (show laidMet Tryz.prog (_::_) W from laidMet.tail (laidMet.tail i));have J:bB W:=Jh (show laidMet Tryz.prog (_::_::_) W from i);refine(pC E a2 f a0 c W s K J).mono fun e W'⟨he,o⟩=>?_;have b:=o.IF;subst he;exact⟨_,rfl,_,_,_,[],_,[],k,trodAll_mk1 (shut_bool Tryz.underlying4 _),(trodAll_cons_mk (Below.trod laidOut (by kernel_rfl) (of_decide_eq_true (by kernel_rfl)) B b Fg) (trodAll_cons_mk (Below.trod laidOut (by kernel_rfl) (of_decide_eq_true (by kernel_rfl)) C b Fh) (trodAll_cons_mk (Below.trod laidOut (by kernel_rfl) (of_decide_eq_true (by kernel_rfl)) D b r) trodAll_mk0))),rfl,b.frame _,fun h=>by cases h⟩
def yp(cs:Array Value):Obj→Obj
 | .cells _ t frozen=> .cells cs t frozen
 |a=>a
noncomputable def qd(os:Os):World:=
 {World.holding Tryz.prog os ⟨#[],#[],[]⟩with heap:=((((World.holding Tryz.prog os ⟨#[],#[],[]⟩).heap).modify 1 (yp (Bv.map (Value.int .u32)).toArray)).modify 2 (yp (zA.map (Value.int .u32)).toArray)).modify 0 (yp (ig.flatMap gT.cells).toArray)}
theorem Fb(os:Os):laidMet Tryz.prog Rows.historyExtendsRow.laid ((qd os).forCall (fun _ _=>0) ⟨#[],#[.slice none 0 0, .int .i64 0, .int .i64 0],[]⟩).memory:=
 laidMet_of_run' 8 (by kernel_rfl) (by kernel_rfl)
theorem reads(os:Os){H:Type}(enc:TypeId×Value→H):∃places,DataW.whole enc Tryz.prog ((qd os).forCall (fun _ _=>0) ⟨#[],#[.slice none 0 0, .int .i64 0, .int .i64 0],[]⟩).memory Tryz.f8.params.toList Rows.historyExtendsSpec.vars false (#[(.slice none 0 0:Value),(.int .i64 0:Value),(.int .i64 0:Value)]:Array Value).toList 8=some ([.nil, .lit (.int .i64 0), .lit (.int .i64 0)],[],places):=
 ⟨[],by kernel_rfl⟩
theorem lifted(os:Os)(started:os.Started)(H:Type)(enc:TypeId×Value→H)(F:Stop.Interp):
  ReturnsInHanded {} Tryz.checked os 8 .any ((OpenSpec.ofChange Rows.historyExtendsSpec).preRow enc Tryz.prog Tryz.f8 Rows.historyExtendsRow.domain false Rows.historyExtendsRow.laid) (((OpenSpec.ofChange Rows.historyExtendsSpec).at F).post enc Tryz.prog Tryz.f8 false true false false):=by
 obtain⟨places,e⟩:=reads os enc;refine returnsInHanded_of_row (C:=Tryz.checked) (s:=OpenSpec.ofChange Rows.historyExtendsSpec) own started (by kernel_rfl) Tryz.func8
  (witness_row_at (enc:=enc) (C:=Tryz.checked) false (qd os) #[.slice none 0 0, .int .i64 0, .int .i64 0] rfl (by kernel_rfl) (by kernel_rfl) (by kernel_rfl)
   (OpenSpec.preRow_of_cond 8 e (by kernel_rfl) (fun k d=>by cases d) (by kernel_rfl) (Fb os))) ?_;intro W base args ds gs before a c _ _ _ b _ _;exact Ez H enc W base args ds gs before a c b
theorem said:Rows.HistoryExtendsSaid:=
 OpenClaim.holds_of_cond 8 Tryz.f8 rfl rfl rfl rfl rfl rfl rfl ⟨rfl,rfl,rfl,rfl,rfl⟩ rfl rfl rfl rfl rfl (by kernel_rfl) Tryz.func8 (by kernel_rfl)
  (of_decide_eq_true (by kernel_rfl)) (by unfold Func.isWrapper;first|(rw[if_pos (by decide+kernel)];kernel_rfl)|(rw[if_neg (by decide+kernel)];exact⟨rfl,rfl⟩))
  (fun os started H enc _ F=>by rw[OpenClaim.pre_eq_preRow];exact lifted os started H enc F)
theorem plain(f:FuncId)(fn:Func)(d:Tryz.pinned.checked.prog.funcNamed "replevin/replevinlaw45.HistoryExtends"=some f)(b:Tryz.pinned.checked.prog.funcs[f]? =some fn):
  true=Tryz.pinned.checked.prog.looks []∧∀(j:Nat)t,fn.params[j]? =some t→Tryz.pinned.checked.prog.wantsStandIn t=false:=by
 obtain rfl:f=8:=Option.some.inj ((show Tryz.prog.funcNamed "replevin/replevinlaw45.HistoryExtends"=some 8 by kernel_rfl).symm.trans d)|>.symm;obtain rfl:fn=Tryz.f8:=(Option.some.inj (Tryz.func8.symm.trans b)).symm;refine⟨by kernel_rfl,fun j t c=>?_⟩;rw[Tryz.params8]at c;have hm:=List.mem_of_getElem? (show(_:List TypeId)[j]? =some t by simpa using c);have a:(Tryz.f8.params.toList.all fun u=>!Tryz.prog.wantsStandIn u)=true:=by kernel_rfl
 exact(show Tryz.prog.wantsStandIn t=false by simpa using List.all_eq_true.1 a t (by rw[Tryz.params8];exact hm))
theorem proved:Rows.HistoryExtendsCardSaid:=
 Claim7.holds_tied_plain_at .later [] _ _ _ _ said (fun _ h=>by cases h) (by kernel_rfl) (fun _ h=>by cases h) historyExtends_row_tie rfl ⟨rfl,rfl⟩ (by kernel_rfl) rfl plain (by kernel_rfl)
#print axioms proved
end Go.Proofs.YtphjagkehiklkaaGreatDoor.historyExtends
