/- HistoryEncodes returns true for every input, and the arguments read afterwards as they did, where the table of the kinds of objects and those of package sha256 hold what their initialisers lay (the card ties them). -/
import Derived.Deep.DeepHandedRow
import Derived.ShutString
import Derived.Test.YtphjagkehiklkaaGreatDoorTie
import Derived.Test.YtphjagkehiklkaaGreatDoorEK25
set_option linter.unusedVariables false
set_option linter.unusedSimpArgs false
set_option maxRecDepth 100000
namespace Go.Proofs.YtphjagkehiklkaaGreatDoor.historyEncodes
open Proofs.Tryz Go.ChangeShapes Go.WideShapes Go.ChangeAt Go.RowKit
open Go.ChangeMaps(open_string shut_string)
theorem own:ownKnob prog.godebug=none:=by kernel_rfl
theorem laidOut:laidOutB prog=true:=by kernel_rfl
theorem Hl(H:Type)(enc:TypeId×Value->H)(W:World)(base:Nat)(args:Array Value)(ds gs:List (DataW H))(before:List MemPlace)
  (a:∀(j:Nat)t v,Tryz.f12.params[j]? =some t->args[j]? =some v->Value.okWide prog W .any base t v)
  (I:DataW.Whole enc prog Tryz.f12.params.toList Rows.historyEncodesSpec.vars false W args.toList ds gs before)(n:laidMetH prog Rows.historyEncodesRow.laid W):
  Calls prog 12 args W λe W'=>∃v,e= .returned v/\Rows.historyEncodesSpec.post enc prog Tryz.f12 false true false false W args v W':=by
 have o:=I;obtain⟨p,q,f,T,rfl,U,V⟩:=I;have G:DataW.TrodAll enc prog W 0 (λ_=>true) true Tryz.f12.params.toList args.toList ds p:=f;rw[Tryz.params12]at G a;obtain⟨v0,ag,d0,O,Y,an,r,rfl,rfl,C,ac⟩:=trodAll_cons G;obtain⟨v1,ah,d1,P,Z,ao,rfl,rfl,rfl,D,ad⟩:=trodAll_cons ac;obtain⟨v2,ai,d2,Q,aa,ap,rfl,rfl,rfl,E,ae⟩:=trodAll_cons ad;obtain⟨v3,aj,d3,R,ab,aq,rfl,rfl,rfl,F,af⟩:=trodAll_cons ae;obtain⟨rfl,rfl,rfl⟩:=trodAll_nil af;obtain rfl:args=#[v0,v1,v2,v3]:=by cases args;simp_all
 obtain⟨rfl,rfl⟩:=trodVars_none T;have J:=C;have ED:∀x∈Y,x.block<W.heap.size:=by obtain⟨m,hm⟩:=J;exact DataW.trod_lt m _ _ _ hm
 obtain⟨a0,g,c,rfl⟩:=okWide_slice underlying55 (a 0 55 v0 rfl rfl);obtain⟨k,s⟩:=C;obtain⟨X,A,o0,b0,ak⟩:=wD s;have K:=D;have EE:∀x∈Z,x.block<W.heap.size:=by obtain⟨m,hm⟩:=K;exact DataW.trod_lt m _ _ _ hm
 obtain⟨N,i,d,rfl⟩:=okWide_slice underlying22 (a 1 22 v1 rfl rfl);obtain⟨l,u⟩:=D;obtain⟨l1,B,am,b1,al⟩:=EO u;have L:=E;have y:∀x∈aa,x.block<W.heap.size:=by obtain⟨m,hm⟩:=L;exact DataW.trod_lt m _ _ _ hm
 obtain⟨a2,rfl,rfl,rfl,w2⟩:=open_int underlying100 (a 2 100 v2 rfl rfl) E;have b2:=bounds_u16 w2;have M:=F;have z:∀x∈ab,x.block<W.heap.size:=by obtain⟨m,hm⟩:=M;exact DataW.trod_lt m _ _ _ hm
 obtain⟨a3,rfl,rfl,rfl,w3⟩:=open_int underlying5 (a 3 5 v3 rfl rfl) F;have b3:=bounds_u8 w3;clear f;rw[MakeChecks.laidMetH_plain _ _ _ (by kernel_rfl)]at n;have hT:dO W:=Mi (show laidMet prog (_::_) W from laidMet.tail (laidMet.tail n));have S:bU W:=Mf (show laidMet prog (_::_::_) W from n);refine(qq g X a0 c _ i N d a2 a3 W A (by omega) b0 B b2 b3 hT S).mono λe W'⟨he,w⟩=>?_;have b:=w.Lm;subst he;exact⟨_,rfl,_,_,_,[],_,[],o,trodAll_mk1 (shut_bool underlying4 _),(trodAll_cons_mk (Below.trod laidOut (by kernel_rfl) (of_decide_eq_true (by kernel_rfl)) J b ED) (trodAll_cons_mk (Below.trod laidOut (by kernel_rfl) (of_decide_eq_true (by kernel_rfl)) K b EE) (trodAll_cons_mk (Below.trod laidOut (by kernel_rfl) (of_decide_eq_true (by kernel_rfl)) L b y) (trodAll_cons_mk (Below.trod laidOut (by kernel_rfl) (of_decide_eq_true (by kernel_rfl)) M b z) trodAll_mk0)))),rfl,b.frame _,λh=>by cases h⟩
def zY(cs:Array Value):Obj->Obj
 | .cells _ t frozen=> .cells cs t frozen
 |a=>a
noncomputable def qS(os:Os):World:=
 {World.holding prog os ⟨#[],#[],[]⟩with heap:=((((World.holding prog os ⟨#[],#[],[]⟩).heap).modify 1 (zY (Eu.map (Value.int .u32)).toArray)).modify 2 (zY (Bv.map (Value.int .u32)).toArray)).modify 0 (zY (iO.flatMap iE.cells).toArray)}
theorem Ir(os:Os):laidMet prog Rows.historyEncodesRow.laid ((qS os).forCall (λ_ _=>0) ⟨#[],#[.slice none 0 0, .slice none 0 0, .int .u16 0, .int .u8 0],[]⟩).memory:=
 laidMet_of_run' 8 (by kernel_rfl) (by kernel_rfl)
theorem reads(os:Os){H:Type}(enc:TypeId×Value->H):∃places,DataW.whole enc prog ((qS os).forCall (λ_ _=>0) ⟨#[],#[.slice none 0 0, .slice none 0 0, .int .u16 0, .int .u8 0],[]⟩).memory Tryz.f12.params.toList Rows.historyEncodesSpec.vars false (#[(.slice none 0 0:Value),(.slice none 0 0:Value),(.int .u16 0:Value),(.int .u8 0:Value)]:Array Value).toList 8=some ([.nil, .nil, .lit (.int .u16 0), .lit (.int .u8 0)],[],places):=
 ⟨[],by kernel_rfl⟩
theorem lifted(os:Os)(started:os.Started)(H:Type)(enc:TypeId×Value->H)(F:Stop.Interp):
  ReturnsInHanded {} Tryz.checked os 12 .any ((OpenSpec.ofChange Rows.historyEncodesSpec).preRow enc prog Tryz.f12 Rows.historyEncodesRow.domain false Rows.historyEncodesRow.laid) (((OpenSpec.ofChange Rows.historyEncodesSpec).at F).post enc prog Tryz.f12 false true false false):=by
 obtain⟨places,e⟩:=reads os enc;refine returnsInHanded_of_row (C:=Tryz.checked) (s:=OpenSpec.ofChange Rows.historyEncodesSpec) own started (by kernel_rfl) func12
  (witness_row_at (enc:=enc) (C:=Tryz.checked) false (qS os) #[.slice none 0 0, .slice none 0 0, .int .u16 0, .int .u8 0] rfl (by kernel_rfl) (by kernel_rfl) (by kernel_rfl)
   (OpenSpec.preRow_of_cond 8 e (by kernel_rfl) (λk d=>by cases d) (by kernel_rfl) (Ir os))) ?_;intro W base args ds gs before a c _ _ _ b _ _;exact Hl H enc W base args ds gs before a c b
theorem said:Rows.HistoryEncodesSaid:=
 OpenClaim.holds_of_cond 12 Tryz.f12 rfl rfl rfl rfl rfl rfl rfl ⟨rfl,rfl,rfl,rfl,rfl⟩ rfl rfl rfl rfl rfl (by kernel_rfl) func12 (by kernel_rfl)
  (of_decide_eq_true (by kernel_rfl)) (by unfold Func.isWrapper;first|(rw[if_pos (by decide+kernel)];kernel_rfl)|(rw[if_neg (by decide+kernel)];exact⟨rfl,rfl⟩))
  (λos started H enc _ F=>by rw[OpenClaim.pre_eq_preRow];exact lifted os started H enc F)
theorem plain(f:FuncId)(fn:Func)(d:Tryz.pinned.checked.prog.funcNamed "replevin/replevinlaw45.HistoryEncodes"=some f)(b:Tryz.pinned.checked.prog.funcs[f]? =some fn):
  true=Tryz.pinned.checked.prog.looks []/\∀(j:Nat)t,fn.params[j]? =some t->Tryz.pinned.checked.prog.wantsStandIn t=false:=by
 obtain rfl:f=12:=Option.some.inj ((show prog.funcNamed "replevin/replevinlaw45.HistoryEncodes"=some 12 by kernel_rfl).symm.trans d)|>.symm;obtain rfl:fn=Tryz.f12:=(Option.some.inj (func12.symm.trans b)).symm;refine⟨by kernel_rfl,λj t c=>?_⟩;rw[Tryz.params12]at c;have hm:=List.mem_of_getElem? (show(_:List TypeId)[j]? =some t by simpa using c);have a:(Tryz.f12.params.toList.all λu=>!prog.wantsStandIn u)=true:=by kernel_rfl
 exact(show prog.wantsStandIn t=false by simpa using List.all_eq_true.1 a t (by rw[Tryz.params12];exact hm))
theorem proved:Rows.HistoryEncodesCardSaid:=
 Claim7.holds_tied_plain_at .later [] _ _ _ _ said (λ_ h=>by cases h) (by kernel_rfl) (λ_ h=>by cases h) historyEncodes_row_tie rfl ⟨rfl,rfl⟩ (by kernel_rfl) rfl plain (by kernel_rfl)
#print axioms proved
end Go.Proofs.YtphjagkehiklkaaGreatDoor.historyEncodes
