/- HistoryAppends returns true for every input, and the arguments read afterwards as they did, where the table of the kinds of objects and those of package sha256 hold what their initialisers lay (the card ties them). -/
import Derived.Deep.DeepHandedRow
import Derived.ShutString
import Derived.Test.YtphjagkehiklkaaGreatDoorTie
import Derived.Test.YtphjagkehiklkaaGreatDoorWK42
set_option linter.unusedVariables false
set_option linter.unusedSimpArgs false
set_option maxRecDepth 100000
namespace Go.Proofs.YtphjagkehiklkaaGreatDoor.historyAppends
open Go.ChangeShapes Go.WideShapes Go.ChangeAt Go.RowKit
open Go.ChangeMaps(open_string shut_string)
theorem own:ownKnob Tryz.prog.godebug=none:=by kernel_rfl
theorem laidOut:laidOutB Tryz.prog=true:=by kernel_rfl
theorem Ez(H:Type)(enc:TypeId×Value→H)(W:World)(base:Nat)(args:Array Value)(ds gs:List (DataW H))(before:List MemPlace)
  (a:∀(j:Nat)t v,Tryz.f7.params[j]? =some t→args[j]? =some v→Value.okWide Tryz.prog W .any base t v)
  (D:DataW.Whole enc Tryz.prog Tryz.f7.params.toList Rows.historyAppendsSpec.vars false W args.toList ds gs before)(n:laidMetH Tryz.prog Rows.historyAppendsRow.laid W):
  Calls Tryz.prog 7 args W fun e W'=>∃v,e= .returned v∧Rows.historyAppendsSpec.post enc Tryz.prog Tryz.f7 false true false false W args v W':=by
 have o:=D;obtain⟨p,q,f,M,rfl,N,O⟩:=D;have C:DataW.TrodAll enc Tryz.prog W 0 (fun _=>true) true Tryz.f7.params.toList args.toList ds p:=f;rw[Tryz.params7]at C a;obtain⟨v0,U,d0,I,Q,aa,r,rfl,rfl,A,S⟩:=trodAll_cons C;obtain⟨v1,V,d1,J,R,ab,rfl,rfl,rfl,B,T⟩:=trodAll_cons S;obtain⟨rfl,rfl,rfl⟩:=trodAll_nil T;obtain rfl:args=#[v0,v1]:=by cases args;simp_all
 obtain⟨rfl,rfl⟩:=trodVars_none M;have E:=A;have Fg:∀x∈Q,x.block<W.heap.size:=by obtain⟨m,hm⟩:=E;exact DataW.trod_lt m _ _ _ hm
 obtain⟨a0,g,c,rfl⟩:=okWide_slice Tryz.underlying55 (a 0 55 v0 rfl rfl);obtain⟨k,s⟩:=A;obtain⟨P,y,o0,b0,X⟩:=zK s;have F:=B;have Fh:∀x∈R,x.block<W.heap.size:=by obtain⟨m,hm⟩:=F;exact DataW.trod_lt m _ _ _ hm
 obtain⟨G,i,d,rfl⟩:=okWide_slice Tryz.underlying22 (a 1 22 v1 rfl rfl);obtain⟨l,u⟩:=B;obtain⟨l1,z,Z,b1,Y⟩:=Ce u;clear f;rw[MakeChecks.laidMetH_plain _ _ _ (by kernel_rfl)]at n;have L:eE W:=Jk (show laidMet Tryz.prog (_::_) W from laidMet.tail (laidMet.tail n));have K:bB W:=Jh (show laidMet Tryz.prog (_::_::_) W from n);refine(KR g P a0 c _ i G d W y (by omega) b0 z L K).mono fun e W'⟨he,w⟩=>?_;have b:=w.IF;subst he;exact⟨_,rfl,_,_,_,[],_,[],o,trodAll_mk1 (shut_bool Tryz.underlying4 _),(trodAll_cons_mk (Below.trod laidOut (by kernel_rfl) (of_decide_eq_true (by kernel_rfl)) E b Fg) (trodAll_cons_mk (Below.trod laidOut (by kernel_rfl) (of_decide_eq_true (by kernel_rfl)) F b Fh) trodAll_mk0)),rfl,b.frame _,fun h=>by cases h⟩
def yp(cs:Array Value):Obj→Obj
 | .cells _ t frozen=> .cells cs t frozen
 |a=>a
noncomputable def qd(os:Os):World:=
 {World.holding Tryz.prog os ⟨#[],#[],[]⟩with heap:=((((World.holding Tryz.prog os ⟨#[],#[],[]⟩).heap).modify 1 (yp (Bv.map (Value.int .u32)).toArray)).modify 2 (yp (zA.map (Value.int .u32)).toArray)).modify 0 (yp (ig.flatMap gT.cells).toArray)}
theorem Fb(os:Os):laidMet Tryz.prog Rows.historyAppendsRow.laid ((qd os).forCall (fun _ _=>0) ⟨#[],#[.slice none 0 0, .slice none 0 0],[]⟩).memory:=
 laidMet_of_run' 8 (by kernel_rfl) (by kernel_rfl)
theorem reads(os:Os){H:Type}(enc:TypeId×Value→H):∃places,DataW.whole enc Tryz.prog ((qd os).forCall (fun _ _=>0) ⟨#[],#[.slice none 0 0, .slice none 0 0],[]⟩).memory Tryz.f7.params.toList Rows.historyAppendsSpec.vars false (#[(.slice none 0 0:Value),(.slice none 0 0:Value)]:Array Value).toList 8=some ([.nil, .nil],[],places):=
 ⟨[],by kernel_rfl⟩
theorem lifted(os:Os)(started:os.Started)(H:Type)(enc:TypeId×Value→H)(F:Stop.Interp):
  ReturnsInHanded {} Tryz.checked os 7 .any ((OpenSpec.ofChange Rows.historyAppendsSpec).preRow enc Tryz.prog Tryz.f7 Rows.historyAppendsRow.domain false Rows.historyAppendsRow.laid) (((OpenSpec.ofChange Rows.historyAppendsSpec).at F).post enc Tryz.prog Tryz.f7 false true false false):=by
 obtain⟨places,e⟩:=reads os enc;refine returnsInHanded_of_row (C:=Tryz.checked) (s:=OpenSpec.ofChange Rows.historyAppendsSpec) own started (by kernel_rfl) Tryz.func7
  (witness_row_at (enc:=enc) (C:=Tryz.checked) false (qd os) #[.slice none 0 0, .slice none 0 0] rfl (by kernel_rfl) (by kernel_rfl) (by kernel_rfl)
   (OpenSpec.preRow_of_cond 8 e (by kernel_rfl) (fun k d=>by cases d) (by kernel_rfl) (Fb os))) ?_;intro W base args ds gs before a c _ _ _ b _ _;exact Ez H enc W base args ds gs before a c b
theorem said:Rows.HistoryAppendsSaid:=
 OpenClaim.holds_of_cond 7 Tryz.f7 rfl rfl rfl rfl rfl rfl rfl ⟨rfl,rfl,rfl,rfl,rfl⟩ rfl rfl rfl rfl rfl (by kernel_rfl) Tryz.func7 (by kernel_rfl)
  (of_decide_eq_true (by kernel_rfl)) (by unfold Func.isWrapper;first|(rw[if_pos (by decide+kernel)];kernel_rfl)|(rw[if_neg (by decide+kernel)];exact⟨rfl,rfl⟩))
  (fun os started H enc _ F=>by rw[OpenClaim.pre_eq_preRow];exact lifted os started H enc F)
theorem plain(f:FuncId)(fn:Func)(d:Tryz.pinned.checked.prog.funcNamed "replevin/replevinlaw45.HistoryAppends"=some f)(b:Tryz.pinned.checked.prog.funcs[f]? =some fn):
  true=Tryz.pinned.checked.prog.looks []∧∀(j:Nat)t,fn.params[j]? =some t→Tryz.pinned.checked.prog.wantsStandIn t=false:=by
 obtain rfl:f=7:=Option.some.inj ((show Tryz.prog.funcNamed "replevin/replevinlaw45.HistoryAppends"=some 7 by kernel_rfl).symm.trans d)|>.symm;obtain rfl:fn=Tryz.f7:=(Option.some.inj (Tryz.func7.symm.trans b)).symm;refine⟨by kernel_rfl,fun j t c=>?_⟩;rw[Tryz.params7]at c;have hm:=List.mem_of_getElem? (show(_:List TypeId)[j]? =some t by simpa using c);have a:(Tryz.f7.params.toList.all fun u=>!Tryz.prog.wantsStandIn u)=true:=by kernel_rfl
 exact(show Tryz.prog.wantsStandIn t=false by simpa using List.all_eq_true.1 a t (by rw[Tryz.params7];exact hm))
theorem proved:Rows.HistoryAppendsCardSaid:=
 Claim7.holds_tied_plain_at .later [] _ _ _ _ said (fun _ h=>by cases h) (by kernel_rfl) (fun _ h=>by cases h) historyAppends_row_tie rfl ⟨rfl,rfl⟩ (by kernel_rfl) rfl plain (by kernel_rfl)
#print axioms proved
end Go.Proofs.YtphjagkehiklkaaGreatDoor.historyAppends
