/- HistoryRoots returns true for every input, and the arguments read afterwards as they did, where the table of the kinds of objects and those of package sha256 hold what their initialisers lay (the card ties them). -/
import Derived.Deep.DeepHandedRow
import Derived.ShutString
import Derived.Test.YtphjagkehiklkaaGreatDoorTie
import Derived.Test.YtphjagkehiklkaaGreatDoorUK52
set_option linter.unusedVariables false
set_option linter.unusedSimpArgs false
set_option maxRecDepth 100000
namespace Go.Proofs.YtphjagkehiklkaaGreatDoor.historyRoots
open Go.ChangeShapes Go.WideShapes Go.ChangeAt Go.RowKit
open Go.ChangeMaps(open_string shut_string)
theorem own:ownKnob Tryz.prog.godebug=none:=by kernel_rfl
theorem laidOut:laidOutB Tryz.prog=true:=by kernel_rfl
theorem qo(H:Type)(enc:TypeId×Value→H)(W:World)(base:Nat)(args:Array Value)(ds gs:List (DataW H))(before:List MemPlace)
  (a:∀(j:Nat)t v,Tryz.f5.params[j]? =some t→args[j]? =some v→Value.okWide Tryz.prog W .any base t v)
  (F:DataW.Whole enc Tryz.prog Tryz.f5.params.toList Rows.historyRootsSpec.vars false W args.toList ds gs before)(n:laidMetH Tryz.prog Rows.historyRootsRow.laid W):
  Calls Tryz.prog 5 args W fun e W'=>∃v,e= .returned v∧Rows.historyRootsSpec.post enc Tryz.prog Tryz.f5 false true false false W args v W':=by
 have o:=F;obtain⟨p,q,f,Q,rfl,R,S⟩:=F;have E:DataW.TrodAll enc Tryz.prog W 0 (fun _=>true) true Tryz.f5.params.toList args.toList ds p:=f;rw[Tryz.params5]at E a;obtain⟨v0,ab,d0,L,U,ah,r,rfl,rfl,B,Y⟩:=trodAll_cons E;obtain⟨v1,ac,d1,M,V,ai,rfl,rfl,rfl,C,Z⟩:=trodAll_cons Y;obtain⟨v2,ad,d2,N,X,aj,rfl,rfl,rfl,D,aa⟩:=trodAll_cons Z;obtain⟨rfl,rfl,rfl⟩:=trodAll_nil aa;obtain rfl:args=#[v0,v1,v2]:=by cases args;simp_all
 obtain⟨rfl,rfl⟩:=trodVars_none Q;have G:=B;have yk:∀x∈U,x.block<W.heap.size:=by obtain⟨m,hm⟩:=G;exact DataW.trod_lt m _ _ _ hm
 obtain⟨a0,g,c,rfl⟩:=okWide_slice Tryz.underlying55 (a 0 55 v0 rfl rfl);obtain⟨k,s⟩:=B;obtain⟨T,z,o0,b0,ae⟩:=yv s;have I:=C;have yl:∀x∈V,x.block<W.heap.size:=by obtain⟨m,hm⟩:=I;exact DataW.trod_lt m _ _ _ hm
 obtain⟨K,i,d,rfl⟩:=okWide_slice Tryz.underlying22 (a 1 22 v1 rfl rfl);obtain⟨l,u⟩:=C;obtain⟨l1,A,ag,b1,af⟩:=An u;have J:=D;have y:∀x∈X,x.block<W.heap.size:=by obtain⟨m,hm⟩:=J;exact DataW.trod_lt m _ _ _ hm
 obtain⟨a2,rfl,rfl,rfl,w2⟩:=open_int Tryz.underlying3 (a 2 3 v2 rfl rfl) D;have b2:=bounds_i64 w2;clear f;rw[MakeChecks.laidMetH_plain _ _ _ (by kernel_rfl)]at n;have P:dy W:=BO (show laidMet Tryz.prog (_::_) W from laidMet.tail (laidMet.tail n));have O:bp W:=BH (show laidMet Tryz.prog (_::_::_) W from n);refine(Jq g T a0 c _ a2 i K d W z (by omega) b0 A P O).mono fun e W'⟨he,w⟩=>?_;have b:=w.Bl;subst he;exact⟨_,rfl,_,_,_,[],_,[],o,trodAll_mk1 (shut_bool Tryz.underlying4 _),(trodAll_cons_mk (Below.trod laidOut (by kernel_rfl) (of_decide_eq_true (by kernel_rfl)) G b yk) (trodAll_cons_mk (Below.trod laidOut (by kernel_rfl) (of_decide_eq_true (by kernel_rfl)) I b yl) (trodAll_cons_mk (Below.trod laidOut (by kernel_rfl) (of_decide_eq_true (by kernel_rfl)) J b y) trodAll_mk0))),rfl,b.frame _,fun h=>by cases h⟩
def mE(cs:Array Value):Obj→Obj
 | .cells _ t frozen=> .cells cs t frozen
 |a=>a
noncomputable def ib(os:Os):World:=
 {World.holding Tryz.prog os ⟨#[],#[],[]⟩with heap:=((((World.holding Tryz.prog os ⟨#[],#[],[]⟩).heap).modify 1 (mE (wT.map (Value.int .u32)).toArray)).modify 2 (mE (IM.map (Value.int .u32)).toArray)).modify 0 (mE (fQ.flatMap fM.cells).toArray)}
theorem qz(os:Os):laidMet Tryz.prog Rows.historyRootsRow.laid ((ib os).forCall (fun _ _=>0) ⟨#[],#[.slice none 0 0, .slice none 0 0, .int .i64 0],[]⟩).memory:=
 laidMet_of_run' 8 (by kernel_rfl) (by kernel_rfl)
theorem reads(os:Os){H:Type}(enc:TypeId×Value→H):∃places,DataW.whole enc Tryz.prog ((ib os).forCall (fun _ _=>0) ⟨#[],#[.slice none 0 0, .slice none 0 0, .int .i64 0],[]⟩).memory Tryz.f5.params.toList Rows.historyRootsSpec.vars false (#[(.slice none 0 0:Value),(.slice none 0 0:Value),(.int .i64 0:Value)]:Array Value).toList 8=some ([.nil, .nil, .lit (.int .i64 0)],[],places):=
 ⟨[],by kernel_rfl⟩
theorem lifted(os:Os)(started:os.Started)(H:Type)(enc:TypeId×Value→H)(F:Stop.Interp):
  ReturnsInHanded {} Tryz.checked os 5 .any ((OpenSpec.ofChange Rows.historyRootsSpec).preRow enc Tryz.prog Tryz.f5 Rows.historyRootsRow.domain false Rows.historyRootsRow.laid) (((OpenSpec.ofChange Rows.historyRootsSpec).at F).post enc Tryz.prog Tryz.f5 false true false false):=by
 obtain⟨places,e⟩:=reads os enc;refine returnsInHanded_of_row (C:=Tryz.checked) (s:=OpenSpec.ofChange Rows.historyRootsSpec) own started (by kernel_rfl) Tryz.func5
  (witness_row_at (enc:=enc) (C:=Tryz.checked) false (ib os) #[.slice none 0 0, .slice none 0 0, .int .i64 0] rfl (by kernel_rfl) (by kernel_rfl) (by kernel_rfl)
   (OpenSpec.preRow_of_cond 8 e (by kernel_rfl) (fun k d=>by cases d) (by kernel_rfl) (qz os))) ?_;intro W base args ds gs before a c _ _ _ b _ _;exact qo H enc W base args ds gs before a c b
theorem said:Rows.HistoryRootsSaid:=
 OpenClaim.holds_of_cond 5 Tryz.f5 rfl rfl rfl rfl rfl rfl rfl ⟨rfl,rfl,rfl,rfl,rfl⟩ rfl rfl rfl rfl rfl (by kernel_rfl) Tryz.func5 (by kernel_rfl)
  (of_decide_eq_true (by kernel_rfl)) (by unfold Func.isWrapper;first|(rw[if_pos (by decide+kernel)];kernel_rfl)|(rw[if_neg (by decide+kernel)];exact⟨rfl,rfl⟩))
  (fun os started H enc _ F=>by rw[OpenClaim.pre_eq_preRow];exact lifted os started H enc F)
theorem plain(f:FuncId)(fn:Func)(d:Tryz.pinned.checked.prog.funcNamed "replevin/replevinlaw45.HistoryRoots"=some f)(b:Tryz.pinned.checked.prog.funcs[f]? =some fn):
  true=Tryz.pinned.checked.prog.looks []∧∀(j:Nat)t,fn.params[j]? =some t→Tryz.pinned.checked.prog.wantsStandIn t=false:=by
 obtain rfl:f=5:=Option.some.inj ((show Tryz.prog.funcNamed "replevin/replevinlaw45.HistoryRoots"=some 5 by kernel_rfl).symm.trans d)|>.symm;obtain rfl:fn=Tryz.f5:=(Option.some.inj (Tryz.func5.symm.trans b)).symm;refine⟨by kernel_rfl,fun j t c=>?_⟩;rw[Tryz.params5]at c;have hm:=List.mem_of_getElem? (show(_:List TypeId)[j]? =some t by simpa using c);have a:(Tryz.f5.params.toList.all fun u=>!Tryz.prog.wantsStandIn u)=true:=by kernel_rfl
 exact(show Tryz.prog.wantsStandIn t=false by simpa using List.all_eq_true.1 a t (by rw[Tryz.params5];exact hm))
theorem proved:Rows.HistoryRootsCardSaid:=
 Claim7.holds_tied_plain_at .later [] _ _ _ _ said (fun _ h=>by cases h) (by kernel_rfl) (fun _ h=>by cases h) historyRoots_row_tie rfl ⟨rfl,rfl⟩ (by kernel_rfl) rfl plain (by kernel_rfl)
#print axioms proved
end Go.Proofs.YtphjagkehiklkaaGreatDoor.historyRoots
