/- HistoryForged returns true for every input, and the arguments read afterwards as they did, where the table of the kinds of objects and those of package sha256 hold what their initialisers lay (the card ties them). -/
import Derived.Deep.DeepHandedRow
import Derived.ShutString
import Derived.Test.YtphjagkehiklkaaGreatDoorTie
import Derived.Test.YtphjagkehiklkaaGreatDoorYK23
set_option linter.unusedVariables false
set_option linter.unusedSimpArgs false
set_option maxRecDepth 100000
namespace Go.Proofs.YtphjagkehiklkaaGreatDoor.historyForged
open Go.ChangeShapes Go.WideShapes Go.ChangeAt Go.RowKit
open Go.ChangeMaps(open_string shut_string)
theorem own:ownKnob Tryz.prog.godebug=none:=by kernel_rfl
theorem laidOut:laidOutB Tryz.prog=true:=by kernel_rfl
theorem Ft(H:Type)(enc:TypeId×Value→H)(W:World)(base:Nat)(args:Array Value)(ds gs:List (DataW H))(before:List MemPlace)
  (a:∀(j:Nat)t v,Tryz.f6.params[j]? =some t→args[j]? =some v→Value.okWide Tryz.prog W .any base t v)
  (C:DataW.Whole enc Tryz.prog Tryz.f6.params.toList Rows.historyForgedSpec.vars false W args.toList ds gs before)(k:laidMetH Tryz.prog Rows.historyForgedRow.laid W):
  Calls Tryz.prog 6 args W fun e W'=>∃v,e= .returned v∧Rows.historyForgedSpec.post enc Tryz.prog Tryz.f6 false true false false W args v W':=by
 have l:=C;obtain⟨p,q,d,N,rfl,O,P⟩:=C;have B:DataW.TrodAll enc Tryz.prog W 0 (fun _=>true) true Tryz.f6.params.toList args.toList ds p:=d;rw[Tryz.params6]at B a;obtain⟨v0,Y,d0,I,R,ae,n,rfl,rfl,y,U⟩:=trodAll_cons B;obtain⟨v1,Z,d1,J,S,af,rfl,rfl,rfl,z,V⟩:=trodAll_cons U;obtain⟨v2,aa,d2,K,T,ag,rfl,rfl,rfl,A,X⟩:=trodAll_cons V;obtain⟨rfl,rfl,rfl⟩:=trodAll_nil X;obtain rfl:args=#[v0,v1,v2]:=by cases args;simp_all
 obtain⟨rfl,rfl⟩:=trodVars_none N;have D:=y;have Gr:∀x∈R,x.block<W.heap.size:=by obtain⟨m,hm⟩:=D;exact DataW.trod_lt m _ _ _ hm
 obtain⟨a0,f,c,rfl⟩:=okWide_slice Tryz.underlying22 (a 0 22 v0 rfl rfl);obtain⟨g,o⟩:=y;obtain⟨ad,w,o0,b0,ac⟩:=De o;have E:=z;have Gs:∀x∈S,x.block<W.heap.size:=by obtain⟨m,hm⟩:=E;exact DataW.trod_lt m _ _ _ hm
 obtain⟨G,rfl,rfl,rfl,w1⟩:=open_int Tryz.underlying5 (a 1 5 v1 rfl rfl) z;have b1:=bounds_u8 w1;have F:=A;have u:∀x∈T,x.block<W.heap.size:=by obtain⟨m,hm⟩:=F;exact DataW.trod_lt m _ _ _ hm
 obtain⟨i,r⟩:=A;obtain⟨ab,rfl,Q⟩:=yI (a 2 60 v2 rfl rfl) r;clear d;rw[MakeChecks.laidMetH_plain _ _ _ (by kernel_rfl)]at k;have M:eG W:=Kf (show laidMet Tryz.prog (_::_) W from laidMet.tail (laidMet.tail k));have L:bH W:=Kc (show laidMet Tryz.prog (_::_::_) W from k);refine(pW f a0 c G ab W w b1 Q M L).mono fun e W'⟨he,s⟩=>?_;have b:=s.Jz;subst he;exact⟨_,rfl,_,_,_,[],_,[],l,trodAll_mk1 (shut_bool Tryz.underlying4 _),(trodAll_cons_mk (Below.trod laidOut (by kernel_rfl) (of_decide_eq_true (by kernel_rfl)) D b Gr) (trodAll_cons_mk (Below.trod laidOut (by kernel_rfl) (of_decide_eq_true (by kernel_rfl)) E b Gs) (trodAll_cons_mk (Below.trod laidOut (by kernel_rfl) (of_decide_eq_true (by kernel_rfl)) F b u) trodAll_mk0))),rfl,b.frame _,fun h=>by cases h⟩
def yT(cs:Array Value):Obj→Obj
 | .cells _ t frozen=> .cells cs t frozen
 |a=>a
noncomputable def qe(os:Os):World:=
 {World.holding Tryz.prog os ⟨#[],#[],[]⟩with heap:=((((World.holding Tryz.prog os ⟨#[],#[],[]⟩).heap).modify 1 (yT (Cq.map (Value.int .u32)).toArray)).modify 2 (yT (Ad.map (Value.int .u32)).toArray)).modify 0 (yT (ij.flatMap gX.cells).toArray)}
theorem Gp(os:Os):laidMet Tryz.prog Rows.historyForgedRow.laid ((qe os).forCall (fun _ _=>0) ⟨#[],#[.slice none 0 0, .int .u8 0,Ej],[]⟩).memory:=
 laidMet_of_run' 8 (by kernel_rfl) (by kernel_rfl)
theorem reads(os:Os){H:Type}(enc:TypeId×Value→H):∃places,DataW.whole enc Tryz.prog ((qe os).forCall (fun _ _=>0) ⟨#[],#[.slice none 0 0, .int .u8 0,Ej],[]⟩).memory Tryz.f6.params.toList Rows.historyForgedSpec.vars false (#[(.slice none 0 0:Value),(.int .u8 0:Value),(Ej:Value)]:Array Value).toList 8=some ([.nil, .lit (.int .u8 0),KR],[],places):=
 ⟨[],by kernel_rfl⟩
theorem lifted(os:Os)(started:os.Started)(H:Type)(enc:TypeId×Value→H)(F:Stop.Interp):
  ReturnsInHanded {} Tryz.checked os 6 .any ((OpenSpec.ofChange Rows.historyForgedSpec).preRow enc Tryz.prog Tryz.f6 Rows.historyForgedRow.domain false Rows.historyForgedRow.laid) (((OpenSpec.ofChange Rows.historyForgedSpec).at F).post enc Tryz.prog Tryz.f6 false true false false):=by
 obtain⟨places,e⟩:=reads os enc;refine returnsInHanded_of_row (C:=Tryz.checked) (s:=OpenSpec.ofChange Rows.historyForgedSpec) own started (by kernel_rfl) Tryz.func6
  (witness_row_at (enc:=enc) (C:=Tryz.checked) false (qe os) #[.slice none 0 0, .int .u8 0,Ej] rfl (by kernel_rfl) (by kernel_rfl) (by kernel_rfl)
   (OpenSpec.preRow_of_cond 8 e (by kernel_rfl) (fun k d=>by cases d) (by kernel_rfl) (Gp os))) ?_;intro W base args ds gs before a c _ _ _ b _ _;exact Ft H enc W base args ds gs before a c b
theorem said:Rows.HistoryForgedSaid:=
 OpenClaim.holds_of_cond 6 Tryz.f6 rfl rfl rfl rfl rfl rfl rfl ⟨rfl,rfl,rfl,rfl,rfl⟩ rfl rfl rfl rfl rfl (by kernel_rfl) Tryz.func6 (by kernel_rfl)
  (of_decide_eq_true (by kernel_rfl)) (by unfold Func.isWrapper;first|(rw[if_pos (by decide+kernel)];kernel_rfl)|(rw[if_neg (by decide+kernel)];exact⟨rfl,rfl⟩))
  (fun os started H enc _ F=>by rw[OpenClaim.pre_eq_preRow];exact lifted os started H enc F)
theorem plain(f:FuncId)(fn:Func)(d:Tryz.pinned.checked.prog.funcNamed "replevin/replevinlaw45.HistoryForged"=some f)(b:Tryz.pinned.checked.prog.funcs[f]? =some fn):
  true=Tryz.pinned.checked.prog.looks []∧∀(j:Nat)t,fn.params[j]? =some t→Tryz.pinned.checked.prog.wantsStandIn t=false:=by
 obtain rfl:f=6:=Option.some.inj ((show Tryz.prog.funcNamed "replevin/replevinlaw45.HistoryForged"=some 6 by kernel_rfl).symm.trans d)|>.symm;obtain rfl:fn=Tryz.f6:=(Option.some.inj (Tryz.func6.symm.trans b)).symm;refine⟨by kernel_rfl,fun j t c=>?_⟩;rw[Tryz.params6]at c;have hm:=List.mem_of_getElem? (show(_:List TypeId)[j]? =some t by simpa using c);have a:(Tryz.f6.params.toList.all fun u=>!Tryz.prog.wantsStandIn u)=true:=by kernel_rfl
 exact(show Tryz.prog.wantsStandIn t=false by simpa using List.all_eq_true.1 a t (by rw[Tryz.params6];exact hm))
theorem proved:Rows.HistoryForgedCardSaid:=
 Claim7.holds_tied_plain_at .later [] _ _ _ _ said (fun _ h=>by cases h) (by kernel_rfl) (fun _ h=>by cases h) historyForged_row_tie rfl ⟨rfl,rfl⟩ (by kernel_rfl) rfl plain (by kernel_rfl)
#print axioms proved
end Go.Proofs.YtphjagkehiklkaaGreatDoor.historyForged
