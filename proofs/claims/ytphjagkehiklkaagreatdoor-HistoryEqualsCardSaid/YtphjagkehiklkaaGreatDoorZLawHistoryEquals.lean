/- HistoryEquals returns true for every input, and the arguments read afterwards as they did, where the table of the kinds of objects and those of package sha256 hold what their initialisers lay (the card ties them). -/
import Derived.Deep.DeepHandedRow
import Derived.ShutString
import Derived.Test.YtphjagkehiklkaaGreatDoorTie
import Derived.Test.YtphjagkehiklkaaGreatDoorZK29
set_option linter.unusedVariables false
set_option linter.unusedSimpArgs false
set_option maxRecDepth 100000
namespace Go.Proofs.YtphjagkehiklkaaGreatDoor.historyEquals
open Go.ChangeShapes Go.WideShapes Go.ChangeAt Go.RowKit
open Go.ChangeMaps(open_string shut_string)
theorem own:ownKnob Tryz.prog.godebug=none:=by kernel_rfl
theorem laidOut:laidOutB Tryz.prog=true:=by kernel_rfl
theorem Ic(H:Type)(enc:TypeId×Value→H)(W:World)(base:Nat)(args:Array Value)(ds gs:List (DataW H))(before:List MemPlace)
  (a:∀(j:Nat)t v,Tryz.f11.params[j]? =some t→args[j]? =some v→Value.okWide Tryz.prog W .any base t v)
  (L:DataW.Whole enc Tryz.prog Tryz.f11.params.toList Rows.historyEqualsSpec.vars false W args.toList ds gs before)(s:laidMetH Tryz.prog Rows.historyEqualsRow.laid W):
  Calls Tryz.prog 11 args W fun e W'=>∃v,e= .returned v∧Rows.historyEqualsSpec.post enc Tryz.prog Tryz.f11 false true false false W args v W':=by
 have u:=L;obtain⟨p,q,g,V,rfl,X,Y⟩:=L;have K:DataW.TrodAll enc Tryz.prog W 0 (fun _=>true) true Tryz.f11.params.toList args.toList ds p:=g;rw[Tryz.params11]at K a;obtain⟨v0,ag,d0,Q,aa,ao,w,rfl,rfl,G,ad⟩:=trodAll_cons K;obtain⟨v1,ah,d1,R,ab,ap,rfl,rfl,rfl,I,ae⟩:=trodAll_cons ad;obtain⟨v2,ai,d2,S,ac,aq,rfl,rfl,rfl,J,af⟩:=trodAll_cons ae;obtain⟨rfl,rfl,rfl⟩:=trodAll_nil af;obtain rfl:args=#[v0,v1,v2]:=by cases args;simp_all
 obtain⟨rfl,rfl⟩:=trodVars_none V;have M:=G;have EF:∀x∈aa,x.block<W.heap.size:=by obtain⟨m,hm⟩:=M;exact DataW.trod_lt m _ _ _ hm
 obtain⟨a0,i,c,rfl⟩:=okWide_slice Tryz.underlying55 (a 0 55 v0 rfl rfl);obtain⟨n,y⟩:=G;obtain⟨Z,D,o0,b0,aj⟩:=xb y;have N:=I;have EG:∀x∈ab,x.block<W.heap.size:=by obtain⟨m,hm⟩:=N;exact DataW.trod_lt m _ _ _ hm
 obtain⟨P,k,d,rfl⟩:=okWide_slice Tryz.underlying22 (a 1 22 v1 rfl rfl);obtain⟨o,z⟩:=I;obtain⟨l1,E,am,b1,ak⟩:=xc z;have O:=J;have C:∀x∈ac,x.block<W.heap.size:=by obtain⟨m,hm⟩:=O;exact DataW.trod_lt m _ _ _ hm
 obtain⟨a2,l,f,rfl⟩:=okWide_slice Tryz.underlying22 (a 2 22 v2 rfl rfl);obtain⟨r,A⟩:=J;obtain⟨l2,F,an,b2,al⟩:=xc A;clear g;rw[MakeChecks.laidMetH_plain _ _ _ (by kernel_rfl)]at s;have U:eh W:=My (show laidMet Tryz.prog (_::_) W from laidMet.tail (laidMet.tail s));have T:bT W:=Mv (show laidMet Tryz.prog (_::_::_) W from s);refine(qO i Z a0 c _ k P d l a2 f W D (by omega) b0 E F U T).mono fun e W'⟨he,B⟩=>?_;have b:=B.LS;subst he;exact⟨_,rfl,_,_,_,[],_,[],u,trodAll_mk1 (shut_bool Tryz.underlying4 _),(trodAll_cons_mk (Below.trod laidOut (by kernel_rfl) (of_decide_eq_true (by kernel_rfl)) M b EF) (trodAll_cons_mk (Below.trod laidOut (by kernel_rfl) (of_decide_eq_true (by kernel_rfl)) N b EG) (trodAll_cons_mk (Below.trod laidOut (by kernel_rfl) (of_decide_eq_true (by kernel_rfl)) O b C) trodAll_mk0))),rfl,b.frame _,fun h=>by cases h⟩
def Aj(cs:Array Value):Obj→Obj
 | .cells _ t frozen=> .cells cs t frozen
 |a=>a
noncomputable def re(os:Os):World:=
 {World.holding Tryz.prog os ⟨#[],#[],[]⟩with heap:=((((World.holding Tryz.prog os ⟨#[],#[],[]⟩).heap).modify 1 (Aj (Ew.map (Value.int .u32)).toArray)).modify 2 (Aj (Cb.map (Value.int .u32)).toArray)).modify 0 (Aj (iP.flatMap iC.cells).toArray)}
theorem IL(os:Os):laidMet Tryz.prog Rows.historyEqualsRow.laid ((re os).forCall (fun _ _=>0) ⟨#[],#[.slice none 0 0, .slice none 0 0, .slice none 0 0],[]⟩).memory:=
 laidMet_of_run' 8 (by kernel_rfl) (by kernel_rfl)
theorem reads(os:Os){H:Type}(enc:TypeId×Value→H):∃places,DataW.whole enc Tryz.prog ((re os).forCall (fun _ _=>0) ⟨#[],#[.slice none 0 0, .slice none 0 0, .slice none 0 0],[]⟩).memory Tryz.f11.params.toList Rows.historyEqualsSpec.vars false (#[(.slice none 0 0:Value),(.slice none 0 0:Value),(.slice none 0 0:Value)]:Array Value).toList 8=some ([.nil, .nil, .nil],[],places):=
 ⟨[],by kernel_rfl⟩
theorem lifted(os:Os)(started:os.Started)(H:Type)(enc:TypeId×Value→H)(F:Stop.Interp):
  ReturnsInHanded {} Tryz.checked os 11 .any ((OpenSpec.ofChange Rows.historyEqualsSpec).preRow enc Tryz.prog Tryz.f11 Rows.historyEqualsRow.domain false Rows.historyEqualsRow.laid) (((OpenSpec.ofChange Rows.historyEqualsSpec).at F).post enc Tryz.prog Tryz.f11 false true false false):=by
 obtain⟨places,e⟩:=reads os enc;refine returnsInHanded_of_row (C:=Tryz.checked) (s:=OpenSpec.ofChange Rows.historyEqualsSpec) own started (by kernel_rfl) Tryz.func11
  (witness_row_at (enc:=enc) (C:=Tryz.checked) false (re os) #[.slice none 0 0, .slice none 0 0, .slice none 0 0] rfl (by kernel_rfl) (by kernel_rfl) (by kernel_rfl)
   (OpenSpec.preRow_of_cond 8 e (by kernel_rfl) (fun k d=>by cases d) (by kernel_rfl) (IL os))) ?_;intro W base args ds gs before a c _ _ _ b _ _;exact Ic H enc W base args ds gs before a c b
theorem said:Rows.HistoryEqualsSaid:=
 OpenClaim.holds_of_cond 11 Tryz.f11 rfl rfl rfl rfl rfl rfl rfl ⟨rfl,rfl,rfl,rfl,rfl⟩ rfl rfl rfl rfl rfl (by kernel_rfl) Tryz.func11 (by kernel_rfl)
  (of_decide_eq_true (by kernel_rfl)) (by unfold Func.isWrapper;first|(rw[if_pos (by decide+kernel)];kernel_rfl)|(rw[if_neg (by decide+kernel)];exact⟨rfl,rfl⟩))
  (fun os started H enc _ F=>by rw[OpenClaim.pre_eq_preRow];exact lifted os started H enc F)
theorem plain(f:FuncId)(fn:Func)(d:Tryz.pinned.checked.prog.funcNamed "replevin/replevinlaw45.HistoryEquals"=some f)(b:Tryz.pinned.checked.prog.funcs[f]? =some fn):
  true=Tryz.pinned.checked.prog.looks []∧∀(j:Nat)t,fn.params[j]? =some t→Tryz.pinned.checked.prog.wantsStandIn t=false:=by
 obtain rfl:f=11:=Option.some.inj ((show Tryz.prog.funcNamed "replevin/replevinlaw45.HistoryEquals"=some 11 by kernel_rfl).symm.trans d)|>.symm;obtain rfl:fn=Tryz.f11:=(Option.some.inj (Tryz.func11.symm.trans b)).symm;refine⟨by kernel_rfl,fun j t c=>?_⟩;rw[Tryz.params11]at c;have hm:=List.mem_of_getElem? (show(_:List TypeId)[j]? =some t by simpa using c);have a:(Tryz.f11.params.toList.all fun u=>!Tryz.prog.wantsStandIn u)=true:=by kernel_rfl
 exact(show Tryz.prog.wantsStandIn t=false by simpa using List.all_eq_true.1 a t (by rw[Tryz.params11];exact hm))
theorem proved:Rows.HistoryEqualsCardSaid:=
 Claim7.holds_tied_plain_at .later [] _ _ _ _ said (fun _ h=>by cases h) (by kernel_rfl) (fun _ h=>by cases h) historyEquals_row_tie rfl ⟨rfl,rfl⟩ (by kernel_rfl) rfl plain (by kernel_rfl)
#print axioms proved
end Go.Proofs.YtphjagkehiklkaaGreatDoor.historyEquals
