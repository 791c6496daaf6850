/- HistoryTruncates returns true for every input, and the arguments read afterwards as they did, where the table of the kinds of objects and those of package sha256 hold what their initialisers lay (the card ties them). -/
import Derived.Deep.DeepHandedRow
import Derived.ShutString
import Derived.Test.YtphjagkehiklkaaGreatDoorTie
import Derived.Test.YtphjagkehiklkaaGreatDoorXK27
set_option maxRecDepth 100000
namespace Go.Proofs.YtphjagkehiklkaaGreatDoor.historyTruncates
open Go.ChangeShapes Go.WideShapes Go.ChangeAt Go.RowKit
open Go.ChangeMaps(open_string shut_string)
theorem own:ownKnob Tryz.prog.godebug=none:=by kernel_rfl
theorem laidOut:laidOutB Tryz.prog=true:=by kernel_rfl
theorem FJ(H:Type)(enc:TypeId×Value→H)(W:World)(base:Nat)(args:Array Value)(ds gs:List (DataW H))(before:List MemPlace)
  (a:∀(j:Nat)t v,Tryz.f10.params[j]? =some t→args[j]? =some v→Value.okWide Tryz.prog W .any base t v)
  (y:DataW.Whole enc Tryz.prog Tryz.f10.params.toList Rows.historyTruncatesSpec.vars false W args.toList ds gs before)(i:laidMetH Tryz.prog Rows.historyTruncatesRow.laid W):
  Calls Tryz.prog 10 args W fun e W'=>∃v,e= .returned v∧Rows.historyTruncatesSpec.post enc Tryz.prog Tryz.f10 false true false false W args v W':=by
 have k:=y;obtain⟨p,q,d,G,rfl,I,J⟩:=y;have w:DataW.TrodAll enc Tryz.prog W 0 (fun _=>true) true Tryz.f10.params.toList args.toList ds p:=d;rw[Tryz.params10]at w a;obtain⟨v0,O,d0,C,K,S,l,rfl,rfl,s,M⟩:=trodAll_cons w;obtain⟨v1,P,d1,D,L,T,rfl,rfl,rfl,u,N⟩:=trodAll_cons M;obtain⟨rfl,rfl,rfl⟩:=trodAll_nil N;obtain rfl:args=#[v0,v1]:=by cases args;simp_all
 obtain⟨rfl,rfl⟩:=trodVars_none G;have z:=s;have Dm:∀x∈K,x.block<W.heap.size:=by obtain⟨m,hm⟩:=z;exact DataW.trod_lt m _ _ _ hm
 obtain⟨a0,f,c,rfl⟩:=okWide_slice Tryz.underlying22 (a 0 22 v0 rfl rfl);obtain⟨g,n⟩:=s;obtain⟨R,r,o0,b0,Q⟩:=Dy n;have A:=u;have Dn:∀x∈L,x.block<W.heap.size:=by obtain⟨m,hm⟩:=A;exact DataW.trod_lt m _ _ _ hm
 obtain⟨B,rfl,rfl,rfl,w1⟩:=open_int Tryz.underlying3 (a 1 3 v1 rfl rfl) u;have b1:=bounds_i64 w1;clear d;rw[MakeChecks.laidMetH_plain _ _ _ (by kernel_rfl)]at i;have F:ed W:=Ki (show laidMet Tryz.prog (_::_) W from laidMet.tail (laidMet.tail i));have E:bU W:=Kf (show laidMet Tryz.prog (_::_::_) W from i);refine(oy f a0 c B W r F E).mono fun e W'⟨he,o⟩=>?_;have b:=o.JD;subst he;exact⟨_,rfl,_,_,_,[],_,[],k,trodAll_mk1 (shut_bool Tryz.underlying4 _),(trodAll_cons_mk (Below.trod laidOut (by kernel_rfl) (of_decide_eq_true (by kernel_rfl)) z b Dm) (trodAll_cons_mk (Below.trod laidOut (by kernel_rfl) (of_decide_eq_true (by kernel_rfl)) A b Dn) trodAll_mk0)),rfl,b.frame _,fun h=>by cases h⟩
def yT(cs:Array Value):Obj→Obj
 | .cells _ t frozen=> .cells cs t frozen
 |a=>a
noncomputable def qt(os:Os):World:=
 {World.holding Tryz.prog os ⟨#[],#[],[]⟩with heap:=((((World.holding Tryz.prog os ⟨#[],#[],[]⟩).heap).modify 1 (yT (Dc.map (Value.int .u32)).toArray)).modify 2 (yT (An.map (Value.int .u32)).toArray)).modify 0 (yT (ik.flatMap gX.cells).toArray)}
theorem Gs(os:Os):laidMet Tryz.prog Rows.historyTruncatesRow.laid ((qt os).forCall (fun _ _=>0) ⟨#[],#[.slice none 0 0, .int .i64 0],[]⟩).memory:=
 laidMet_of_run' 8 (by kernel_rfl) (by kernel_rfl)
theorem reads(os:Os){H:Type}(enc:TypeId×Value→H):∃places,DataW.whole enc Tryz.prog ((qt os).forCall (fun _ _=>0) ⟨#[],#[.slice none 0 0, .int .i64 0],[]⟩).memory Tryz.f10.params.toList Rows.historyTruncatesSpec.vars false (#[(.slice none 0 0:Value),(.int .i64 0:Value)]:Array Value).toList 8=some ([.nil, .lit (.int .i64 0)],[],places):=
 ⟨[],by kernel_rfl⟩
theorem lifted(os:Os)(started:os.Started)(H:Type)(enc:TypeId×Value→H)(F:Stop.Interp):
  ReturnsInHanded {} Tryz.checked os 10 .any ((OpenSpec.ofChange Rows.historyTruncatesSpec).preRow enc Tryz.prog Tryz.f10 Rows.historyTruncatesRow.domain false Rows.historyTruncatesRow.laid) (((OpenSpec.ofChange Rows.historyTruncatesSpec).at F).post enc Tryz.prog Tryz.f10 false true false false):=by
 obtain⟨places,e⟩:=reads os enc;refine returnsInHanded_of_row (C:=Tryz.checked) (s:=OpenSpec.ofChange Rows.historyTruncatesSpec) own started (by kernel_rfl) Tryz.func10
  (witness_row_at (enc:=enc) (C:=Tryz.checked) false (qt os) #[.slice none 0 0, .int .i64 0] rfl (by kernel_rfl) (by kernel_rfl) (by kernel_rfl)
   (OpenSpec.preRow_of_cond 8 e (by kernel_rfl) (fun k d=>by cases d) (by kernel_rfl) (Gs os))) ?_;intro W base args ds gs before a c _ _ _ b _ _;exact FJ H enc W base args ds gs before a c b
theorem said:Rows.HistoryTruncatesSaid:=
 OpenClaim.holds_of_cond 10 Tryz.f10 rfl rfl rfl rfl rfl rfl rfl ⟨rfl,rfl,rfl,rfl,rfl⟩ rfl rfl rfl rfl rfl (by kernel_rfl) Tryz.func10 (by kernel_rfl)
  (of_decide_eq_true (by kernel_rfl)) (by unfold Func.isWrapper;first|(rw[if_pos (by decide+kernel)];kernel_rfl)|(rw[if_neg (by decide+kernel)];exact⟨rfl,rfl⟩))
  (fun os started H enc _ F=>by rw[OpenClaim.pre_eq_preRow];exact lifted os started H enc F)
theorem plain(f:FuncId)(fn:Func)(d:Tryz.pinned.checked.prog.funcNamed "replevin/replevinlaw45.HistoryTruncates"=some f)(b:Tryz.pinned.checked.prog.funcs[f]? =some fn):
  true=Tryz.pinned.checked.prog.looks []∧∀(j:Nat)t,fn.params[j]? =some t→Tryz.pinned.checked.prog.wantsStandIn t=false:=by
 obtain rfl:f=10:=Option.some.inj ((show Tryz.prog.funcNamed "replevin/replevinlaw45.HistoryTruncates"=some 10 by kernel_rfl).symm.trans d)|>.symm;obtain rfl:fn=Tryz.f10:=(Option.some.inj (Tryz.func10.symm.trans b)).symm;refine⟨by kernel_rfl,fun j t c=>?_⟩;rw[Tryz.params10]at c;have hm:=List.mem_of_getElem? (show(_:List TypeId)[j]? =some t by simpa using c);have a:(Tryz.f10.params.toList.all fun u=>!Tryz.prog.wantsStandIn u)=true:=by kernel_rfl
 exact(show Tryz.prog.wantsStandIn t=false by simpa using List.all_eq_true.1 a t (by rw[Tryz.params10];exact hm))
theorem proved:Rows.HistoryTruncatesCardSaid:=
 Claim7.holds_tied_plain_at .later [] _ _ _ _ said (fun _ h=>by cases h) (by kernel_rfl) (fun _ h=>by cases h) historyTruncates_row_tie rfl ⟨rfl,rfl⟩ (by kernel_rfl) rfl plain (by kernel_rfl)
#print axioms proved
end Go.Proofs.YtphjagkehiklkaaGreatDoor.historyTruncates
