/- HistoryVerifies returns true for every input, and the arguments read afterwards as they did, where the table of the kinds of objects and those of package sha256 hold what their initialisers lay (the card ties them). -/
import Derived.Deep.DeepHandedRow
import Derived.ShutString
import Derived.Test.YtphjagkehiklkaaGreatDoorTie
import Derived.Test.YtphjagkehiklkaaGreatDoorUK44
set_option linter.unusedVariables false
set_option linter.unusedSimpArgs false
set_option maxRecDepth 100000
namespace Go.Proofs.YtphjagkehiklkaaGreatDoor.historyVerifies
open Go.ChangeShapes Go.WideShapes Go.ChangeAt Go.RowKit
open Go.ChangeMaps(open_string shut_string)
theorem own:ownKnob Tryz.prog.godebug=none:=by kernel_rfl
theorem laidOut:laidOutB Tryz.prog=true:=by kernel_rfl
theorem qo(H:Type)(enc:TypeId×Value→H)(W:World)(base:Nat)(args:Array Value)(ds gs:List (DataW H))(before:List MemPlace)
  (a:∀(j:Nat)t v,Tryz.f4.params[j]? =some t→args[j]? =some v→Value.okWide Tryz.prog W .any base t v)
  (B:DataW.Whole enc Tryz.prog Tryz.f4.params.toList Rows.historyVerifiesSpec.vars false W args.toList ds gs before)(k:laidMetH Tryz.prog Rows.historyVerifiesRow.laid W):
  Calls Tryz.prog 4 args W fun e W'=>∃v,e= .returned v∧Rows.historyVerifiesSpec.post enc Tryz.prog Tryz.f4 false true false false W args v W':=by
 have l:=B;obtain⟨p,q,d,J,rfl,K,L⟩:=B;have z:DataW.TrodAll enc Tryz.prog W 0 (fun _=>true) true Tryz.f4.params.toList args.toList ds p:=d;rw[Tryz.params4]at z a;obtain⟨v0,Q,d0,E,M,T,o,rfl,rfl,w,O⟩:=trodAll_cons z;obtain⟨v1,R,d1,F,N,U,rfl,rfl,rfl,y,P⟩:=trodAll_cons O;obtain⟨rfl,rfl,rfl⟩:=trodAll_nil P;obtain rfl:args=#[v0,v1]:=by cases args;simp_all
 obtain⟨rfl,rfl⟩:=trodVars_none J;have C:=w;have yk:∀x∈M,x.block<W.heap.size:=by obtain⟨m,hm⟩:=C;exact DataW.trod_lt m _ _ _ hm
 obtain⟨g,r⟩:=w;obtain⟨S,rfl,o0⟩:=Al (a 0 38 v0 rfl rfl) r;have D:=y;have yl:∀x∈N,x.block<W.heap.size:=by obtain⟨m,hm⟩:=D;exact DataW.trod_lt m _ _ _ hm
 obtain⟨i,s⟩:=y;obtain⟨c,rfl,f⟩:=yx (a 1 33 v1 rfl rfl) s;clear d;rw[MakeChecks.laidMetH_plain _ _ _ (by kernel_rfl)]at k;have I:dy W:=BO (show laidMet Tryz.prog (_::_) W from laidMet.tail (laidMet.tail k));have G:bp W:=BH (show laidMet Tryz.prog (_::_::_) W from k);refine(mT S o0 c.index c.n c.text c.path c.len c.A c.cap _ W f.path f.le f.text f.cap I G).mono fun e W'⟨he,u⟩=>?_;have b:=u.Bl;subst he;exact⟨_,rfl,_,_,_,[],_,[],l,trodAll_mk1 (shut_bool Tryz.underlying4 _),(trodAll_cons_mk (Below.trod laidOut (by kernel_rfl) (of_decide_eq_true (by kernel_rfl)) C b yk) (trodAll_cons_mk (Below.trod laidOut (by kernel_rfl) (of_decide_eq_true (by kernel_rfl)) D b yl) trodAll_mk0)),rfl,b.frame _,fun h=>by cases h⟩
def mE(cs:Array Value):Obj→Obj
 | .cells _ t frozen=> .cells cs t frozen
 |a=>a
noncomputable def ib(os:Os):World:=
 {World.holding Tryz.prog os ⟨#[],#[],[]⟩with heap:=((((World.holding Tryz.prog os ⟨#[],#[],[]⟩).heap).modify 1 (mE (wT.map (Value.int .u32)).toArray)).modify 2 (mE (IM.map (Value.int .u32)).toArray)).modify 0 (mE (fQ.flatMap fM.cells).toArray)}
theorem qz(os:Os):laidMet Tryz.prog Rows.historyVerifiesRow.laid ((ib os).forCall (fun _ _=>0) ⟨#[],#[Bq,GQ],[]⟩).memory:=
 laidMet_of_run' 8 (by kernel_rfl) (by kernel_rfl)
theorem reads(os:Os){H:Type}(enc:TypeId×Value→H):∃places,DataW.whole enc Tryz.prog ((ib os).forCall (fun _ _=>0) ⟨#[],#[Bq,GQ],[]⟩).memory Tryz.f4.params.toList Rows.historyVerifiesSpec.vars false (#[(Bq:Value),(GQ:Value)]:Array Value).toList 8=some ([Hw,Iu],[],places):=
 ⟨[],by kernel_rfl⟩
theorem lifted(os:Os)(started:os.Started)(H:Type)(enc:TypeId×Value→H)(F:Stop.Interp):
  ReturnsInHanded {} Tryz.checked os 4 .any ((OpenSpec.ofChange Rows.historyVerifiesSpec).preRow enc Tryz.prog Tryz.f4 Rows.historyVerifiesRow.domain false Rows.historyVerifiesRow.laid) (((OpenSpec.ofChange Rows.historyVerifiesSpec).at F).post enc Tryz.prog Tryz.f4 false true false false):=by
 obtain⟨places,e⟩:=reads os enc;refine returnsInHanded_of_row (C:=Tryz.checked) (s:=OpenSpec.ofChange Rows.historyVerifiesSpec) own started (by kernel_rfl) Tryz.func4
  (witness_row_at (enc:=enc) (C:=Tryz.checked) false (ib os) #[Bq,GQ] rfl (by kernel_rfl) (by kernel_rfl) (by kernel_rfl)
   (OpenSpec.preRow_of_cond 8 e (by kernel_rfl) (fun k d=>by cases d) (by kernel_rfl) (qz os))) ?_;intro W base args ds gs before a c _ _ _ b _ _;exact qo H enc W base args ds gs before a c b
theorem said:Rows.HistoryVerifiesSaid:=
 OpenClaim.holds_of_cond 4 Tryz.f4 rfl rfl rfl rfl rfl rfl rfl ⟨rfl,rfl,rfl,rfl,rfl⟩ rfl rfl rfl rfl rfl (by kernel_rfl) Tryz.func4 (by kernel_rfl)
  (of_decide_eq_true (by kernel_rfl)) (by unfold Func.isWrapper;first|(rw[if_pos (by decide+kernel)];kernel_rfl)|(rw[if_neg (by decide+kernel)];exact⟨rfl,rfl⟩))
  (fun os started H enc _ F=>by rw[OpenClaim.pre_eq_preRow];exact lifted os started H enc F)
theorem plain(f:FuncId)(fn:Func)(d:Tryz.pinned.checked.prog.funcNamed "replevin/replevinlaw45.HistoryVerifies"=some f)(b:Tryz.pinned.checked.prog.funcs[f]? =some fn):
  true=Tryz.pinned.checked.prog.looks []∧∀(j:Nat)t,fn.params[j]? =some t→Tryz.pinned.checked.prog.wantsStandIn t=false:=by
 obtain rfl:f=4:=Option.some.inj ((show Tryz.prog.funcNamed "replevin/replevinlaw45.HistoryVerifies"=some 4 by kernel_rfl).symm.trans d)|>.symm;obtain rfl:fn=Tryz.f4:=(Option.some.inj (Tryz.func4.symm.trans b)).symm;refine⟨by kernel_rfl,fun j t c=>?_⟩;rw[Tryz.params4]at c;have hm:=List.mem_of_getElem? (show(_:List TypeId)[j]? =some t by simpa using c);have a:(Tryz.f4.params.toList.all fun u=>!Tryz.prog.wantsStandIn u)=true:=by kernel_rfl
 exact(show Tryz.prog.wantsStandIn t=false by simpa using List.all_eq_true.1 a t (by rw[Tryz.params4];exact hm))
theorem proved:Rows.HistoryVerifiesCardSaid:=
 Claim7.holds_tied_plain_at .later [] _ _ _ _ said (fun _ h=>by cases h) (by kernel_rfl) (fun _ h=>by cases h) historyVerifies_row_tie rfl ⟨rfl,rfl⟩ (by kernel_rfl) rfl plain (by kernel_rfl)
#print axioms proved
end Go.Proofs.YtphjagkehiklkaaGreatDoor.historyVerifies
