/- Texts. -/
import Derived.Test.YtphjagkehiklkaaGreatDoorZK19
import Derived.Test.YtphjagkehiklkaaGreatDoorZK24
set_option linter.unusedVariables false
set_option linter.unusedSimpArgs false
set_option maxRecDepth 100000
set_option maxHeartbeats 8000000
namespace Go.Proofs.YtphjagkehiklkaaGreatDoor
open Go.RowKit Go.Shelf
def Mod(w:World)(cs:List Value)(b:Nat)(E:List Ent)(L:List ActV):Prop:=∃(A:Option Addr)(n c:Nat),cs=[Value.pointer (some ⟨b,0,none⟩), .slice A n c]∧n=L.length∧n≤c∧eJ w b E∧jZ w (.slice A n c) L
theorem Mod.ao{w w':World}{cs:List Value}{b:Nat}{E:List Ent}{L:List ActV}(h:Mod w cs b E L)(a:Fr ag w w'):Mod w' cs b E L:=by
 obtain⟨A,n,c,d,e,f,g,i⟩:=h;exact⟨A,n,c,d,e,f,g.ao a,i.ao a⟩
def DQ(w:World)(X:List Ent)(e:Ending)(w':World):Prop:=∃s,e= .returned (.pointer (some ⟨s,0,none⟩))∧eJ w' s X∧Fr ag w w'
theorem xD(cs:List Value)(b:Nat)(E:List Ent)(L:List ActV)(k:Nat)(w:World)(aj:Mod w cs b E L)(T:eh w)(S:cE 24 E)(K:eH L)(am:k≤L.length):
  Calls Tryz.prog 41 #[.agg cs.toArray, .int .i64 (k:Int)] w (DQ w (fj (L.take k) E)):=by
 obtain⟨A,n,c,rfl,N,al,U,ai,h,B⟩:=aj;have I:Hid (∀j,j<L.length→∃r f a,A=some r∧L[j]? =some a∧cF w f a∧f.length=6∧∀i x,f[i]? =some x→w.cell? ((r.add (j*6)).add i)=some x):=fun j G=>lE h B N G;have u:Hid (k≤n∧n≤16∧n=L.length):=by have:=K.len;exact⟨by omega,by omega,N⟩
 have ac:=af T;have Z:=af S;have v:=af K;have HB:=af U;clear h B N al T S K U am;go_enter Tryz.func41,Tryz.ntmps41;go_wp2_with(refine aB rfl 28 (.tmp 0) rfl _ rfl ?_);intro w1 n1;have t:=af n1.fr;have P:=af n1.aE;clear n1;generalize w.heap.size=g1 at*;have aq:w1.cell? ⟨g1,0,none⟩=some (.pointer (some ⟨b,0,none⟩)):=P.out.cell 0;have ae:=af (HB.out.ao t.out);go_wp2;go_loopw[5,6](fun s i wr=>∃(j F:Nat),j≤k∧s= .pointer (some ⟨F,0,none⟩)∧i= .int .i64 (j:Int)∧eJ wr F (fj (L.take j) E)∧Fr ag w1 wr)(fun _ i _=>k-(intOf i).toNat);case atStart=>exact⟨0,b,Nat.zero_le _,rfl,rfl,by rw[List.take_zero];exact ae.out,az⟩
 case round=>
  obtain⟨j,s,G,rfl,rfl,W,V⟩:=hrel;have aa:=af G;have R:=af W;have o:=af V;clear G W V;by_cases an:j<k
  ·have t0:decide ((j:Int)<(k:Int))=true:=de (by omega);obtain⟨r,f,a,rfl,l,y,z,d⟩:=I.out j (by have:=u.out;omega);have ap:wr.cell? ⟨g1,1,none⟩=some (.slice (some r) n c):=(P.out.fr o.out (fun x=>x)).cell 1;have i0:(j:Int)<(n:Int):=by have:=u.out;omega
   have i1:(0:Int)≤(j:Int):=by omega
   have ad:Hid ((Tryz.prog.info? 46).map (·.size)=some f.length):=by rw[Hid,z];exact bL
   have H:Hid (∀i x,f[i]? =some x→wr.cell? ((r.add (j*6)).add i)=some x):=fun i x O=>(t.out.trans o.out).ak (d i x O) (fun x=>x);have Y:Hid (cE (24+6*j) (fj (L.take j) E)):=by
    have:=jG (L.take j) E 24 Z.out (fun a M=>v.out.ok a (List.mem_of_mem_take M)) (fun a M=>v.out.small a (List.mem_of_mem_take M));rw[List.length_take,Nat.min_eq_left (by have:=u.out;omega)]at this;exact this
   have g:=List.mem_of_getElem? l;have Q:Hid (Calls Tryz.prog 86 #[.agg f.toArray, .pointer (some ⟨s,0,none⟩)] wr (nE wr (fj (L.take j) E) a.writes)):=kJ _ a f _ s wr (y.ao (t.out.trans o.out)) R.out (ac.out.ao (t.out.trans o.out)) Y.out (v.out.small a g).writes (by have:=(v.out.small a g).nw;have:=u.out;omega);have ab:=af (Fs l E);have J:=af (rj (v.out.ok a g));have ar:IntKind.i64.wrap ((j:Int)+1)=(j:Int)+1:=IntWalk.i64_in _ (by have:=u.out;omega);clear d l y z g;go_wp2_with(refine aC rfl 46 (.tmp 18) rfl (r.add (j*6)) rfl f _ ?zA Tryz.underlying46 rfl ad.out (aR.go ?zB));case zA=>exact H.out
   unfold aR;go_wp2_with fail;refine Q.out.mono ?_;rintro e w3⟨p,q,rfl,f3,m⟩;rcases m with⟨_,rfl,F,rfl,C⟩|⟨⟨x,O,D⟩,_⟩
   ·have X:=af (o.out.trans f3);have ah:Hid (eJ w3 F (fj (L.take (j+1)) E)):=by rw[Hid,ab.out];exact C
    clear f3 C Q ap;go_wp2;go_roundw;case rel=>exact⟨j+1,F,by omega,rfl,by go_num,ah.out,X.out⟩
    case measure=>simp[intOf];omega
   ·rw[J.out x O]at D;cases D
  ·obtain rfl:j=k:=by have:=aa.out;omega
   have t0:decide ((j:Int)<(j:Int))=false:=cD (by omega);go_wp2;go_ret;exact⟨s,rfl,R.out,t.out.trans o.out⟩
def kS(E:List Ent)(L:List ActV)(k:Nat):List UInt8:=aV (dO E)++enc L.length++(L.take k).flatMap (fun a=>aV (cC a))
def nK(E:List Ent)(L:List ActV):List UInt8:=kS E L L.length
theorem vP(E:List Ent)(L:List ActV):kS E L 0=aV (dO E)++enc L.length:=by simp[kS]
theorem Em{E:List Ent}{L:List ActV}{k:Nat}{a:ActV}(h:L[k]? =some a):kS E L (k+1)=kS E L k++aV (cC a):=by
 simp[kS,List.take_add_one,h]
theorem Kd(E:List Ent)(L:List ActV)(k:Nat):(kS E L k).length≤(nK E L).length:=by
 unfold nK kS;rw[List.take_length];have h:((L.take k).flatMap (fun a=>aV (cC a))).length≤(L.flatMap (fun a=>aV (cC a))).length:=by
  rw[←List.take_append_drop k L,List.flatMap_append,aS,List.take_append_drop];omega
 simp only[aS];omega
structure AD(E:List Ent)(L:List ActV):Prop where
 base:uH E
 text:(dO E).length≤16777216
 jq:∀a∈L,fY a=true∧Hk a∧(cC a).length≤16777216
 len:L.length≤65536
 all:(nK E L).length≤1099511627776
theorem Lp(l:List UInt8):(⟨l.toArray⟩:ByteArray).size=l.length:=rfl
theorem DX{w w':World}{l:List UInt8}{e:Ending}(h:nF w l e w'):∃A n c,e= .returned (.slice A n c)∧Fr ag w w'∧(convert 61 9 (.slice A n c)).run Tryz.prog w'= .ok (.string ⟨l.toArray⟩) w':=by
 obtain⟨v,rfl,a⟩:=h;obtain⟨A,n,c,rfl,H,_⟩:=aG a.own;exact⟨A,n,c,rfl,a.ao,kx w' _ A n c _ (oX.rd a.own H.out)⟩
theorem AY{w W:World}{b:Nat}{l:List UInt8}(h:Wi w W b l)(k:l.length≤1099511627776):
  Calls Tryz.prog 103 #[.pointer (some ⟨b,0,none⟩)] W (fun e W'=>∃A n c,e= .returned (.tuple #[.slice A n c, .int .i64 0])∧Fr ag w W'∧(convert 61 9 (.slice A n c)).run Tryz.prog W'= .ok (.string ⟨l.toArray⟩) W'):=by
 obtain⟨v,j,o⟩:=h.wr;refine(nd b v l 0 W j k).mono ?_;rintro e w1⟨_,m⟩;obtain⟨p,rfl,a⟩:=m rfl;obtain⟨d,g,f,rfl,i,_⟩:=aG a.own;exact⟨d,g,f,rfl,h.fr.trans a.ao,kx w1 _ d g f _ (oX.rd a.own i.out)⟩
theorem IA{a:List Value}(h:a.length=6):Hid ((Tryz.prog.info? 46).map (·.size)=some a.length∧(Tryz.prog.info? 46).map (·.size)=some a.toArray.size∧6=a.toArray.size):=by
 refine⟨by rw[h];exact bL,by rw[List.size_toArray,h];exact bL,by rw[List.size_toArray,h]⟩
theorem rF(h:Nat)(E:List Ent)(L:List ActV)(T:Nat→Prop)(w:World)(aI:ez w h E L T)(aa:eh w)(hF:AD E L):
  Calls Tryz.prog 45 #[.pointer (some ⟨h,0,none⟩)] w (aH w (.string ⟨(nK E L).toArray⟩)):=by
 obtain⟨b,s,g,va,vk,K,aM,aP,mb,u,rfl⟩:=aI;obtain⟨aF,ab,D⟩:=u.jq;obtain⟨A,n,c,rfl,N,_⟩:=aG ab;have P:Hid (∀j,j<L.length→∃B d a,A=some B∧L[j]? =some a∧cF w d a∧d.length=6∧∀i x,d[i]? =some x→w.cell? ((B.add (j*6)).add i)=some x):=fun j aJ=>lE ab D N.out aJ;have z:Hid (n=L.length∧n≤65536):=⟨N.out,by have:=hF.len;have:=N.out;omega⟩;have aj:=af (jf w h b (u.aE.cell 0));have HB:Hid (∀W,Fr ag w W→W.cell? ⟨h,0,none⟩=some (.pointer (some ⟨b,0,none⟩))∧W.cell? ⟨h,1,none⟩=some (.slice A n c)):=fun W f=>⟨(u.aE.fr f (fun x=>x)).cell 0,(u.aE.fr f (fun x=>x)).cell 1⟩;have ai:Hid (∀w',Fr ag w w'→Calls Tryz.prog 102 #[.pointer (some ⟨b,0,none⟩)] w' (nF w' (dO E))):=fun w' f=>ym E b w' (u.base.ao f) (aa.ao f) hF.base;have ay:=af aa;have al:=af hF;have p:Hid (∀k,(kS E L k).length≤1099511627776):=fun k=>Nat.le_trans (Kd E L k) hF.all;have aA:Hid (aV (dO E)++enc n=kS E L 0):=by rw[Hid,vP,z.out.1]
 have V:Hid ((aV (dO E)).length≤1099511627776):=by have:=p.out 0;rw[vP,aS]at this;simp only[Hid];omega
 have Q:Hid (nK E L=kS E L n):=by rw[Hid,z.out.1];rfl
 clear u ab D N aa hF;go_enter Tryz.func45,Tryz.ntmps45;go_wp2_with fail;refine aj.out.mono ?_;rintro e w'⟨rfl,rfl⟩;clear aj;go_wp2_with fail;refine(Wi.start az).mono ?_;rintro e w1⟨rfl,hw,f1⟩;have am:=af hw;have O:=af f1;clear hw f1;generalize w.heap.size=M at*;have aL:w1.cell? ⟨h,0,none⟩=some (.pointer (some ⟨b,0,none⟩)):=(HB.out _ O.out).1;go_wp2_with fail;refine(ai.out _ O.out).mono ?_;rintro e w2 he;obtain⟨aN,aT,aQ,rfl,f2,F⟩:=DX he;have an:=af (am.out.later f2);clear he f2 am O aL ai;go_wp2_with fail;refine(an.out.text ⟨(dO E).toArray⟩ (by simp) (by rw[Lp];exact al.out.text)).mono ?_;rintro e w3⟨rfl,hw,_⟩;have Y:Hid (Wi w w3 M (aV (dO E))):=hw;clear hw F an;have ae:w3.cell? ⟨h,1,none⟩=some (.slice A n c):=(HB.out _ Y.out.fr).2;go_wp2_with fail;refine(Y.out.number n V.out (by have:=z.out;omega)).mono ?_;rintro e au⟨rfl,hw,_⟩;have Z:Hid (Wi w au M (kS E L 0)):=by rw[Hid,←aA.out];exact hw
 clear hw ae Y;have ae:au.cell? ⟨h,1,none⟩=some (.slice A n c):=(HB.out _ Z.out.fr).2;go_wp2;clear ae;go_loopw[33](fun i wr=>∃k:Nat,k≤n∧i= .int .i64 (k:Int)∧Wi w wr M (kS E L k))(fun i _=>n-(intOf i).toNat);case atStart=>exact⟨0,Nat.zero_le _,rfl,Z.out⟩
 case round=>
  obtain⟨k,ar,rfl,aq⟩:=hrel;have J:=af aq;have ax:=af ar;clear aq ar Z;by_cases G:k<n
  ·have t0:decide ((k:Int)<(n:Int))=true:=de (by omega);obtain⟨B,d,a,rfl,t,r,C,m⟩:=P.out k (by have:=z.out;omega);have i1:(k:Int)<(n:Int):=by omega
   have i2:(0:Int)≤(k:Int):=by omega
   have H:=IA C;have v:Hid (∀i x,d[i]? =some x→wr.cell? ((B.add (k*6)).add i)=some x):=fun i x ac=>J.out.fr.ak (m i x ac) (fun x=>x);have aB:=af (ActV.one r);have aw:Hid (∀W,Fr ag w W→cF W d a):=fun W f=>r.ao f;have U:=af (Em (E:=E) t);have o:=af (al.out.jq a (List.mem_of_getElem? t));have R:Hid (j4 a= .tuple #[.string ⟨(cC a).toArray⟩, .int .i64 0]):=by rw[Hid,j4,if_pos o.out.1]
   have aW:IntKind.i64.wrap ((k:Int)+1)=(k:Int)+1:=IntWalk.i64_in _ (by have:=z.out;omega);have y:=af G;clear m r C t G;go_wp2_with(refine aC rfl 46 (.tmp 35) rfl (B.add (k*6)) rfl d _ ?zA Tryz.underlying46 rfl H.out.1 (aR.go ?zC));case zA=>exact v.out
   unfold aR;go_wp2_with(refine rz rfl rfl 46 5 rfl rfl _ rfl ep kC bX.toArray rfl d.toArray (fun _=>rfl) (fun _=>rfl) H.out.2.1 H.out.2.2 aB.out ?_);intro ad g5 _ _ b5 f5;have ah:=af b5;have I:=af (J.out.later f5);clear b5 f5 v J;have X:Hid (∀j x,d[j]? =some x→ad.cell? ((⟨g5,0,none⟩:Addr).add j)=some x):=kX ah.out;go_wp2_with(refine aC rfl 46 (.tmp 5) rfl ⟨g5,0,none⟩ rfl d _ ?zB Tryz.underlying46 rfl H.out.1 (aR.go ?zD));case zB=>first|exact X.out|exact fun j x ac=>by have q:=X.out j x ac;rw[Addr.add_mid,Nat.zero_add]at q;exact q
   unfold aR;go_wp2_with fail;refine(p9 a d ad (ay.out.ao I.out.fr) (aw.out _ I.out.fr) o.out.2.1).mono ?_;rintro e aU⟨rfl,f6⟩;have ap:=af (I.out.later f6);rw[R.out];clear f6 I ah X;go_wp2_with fail;refine(ap.out.text ⟨(cC a).toArray⟩ (p.out k) (by rw[Lp];exact o.out.2.2)).mono ?_;rintro e aK⟨rfl,hw,_⟩;have aD:Hid (Wi w aK M (kS E L (k+1))):=by rw[Hid,U.out];exact hw
   clear hw ap;go_wp2;go_roundw;case rel=>exact⟨k+1,by have:=y.out;omega,by go_num,aD.out⟩
   case measure=>simp[intOf];have:=y.out;omega
  ·obtain rfl:k=n:=by have:=ax.out;omega
   have t0:decide ((k:Int)<(k:Int))=false:=cD (by omega);have S:=af (p.out k);generalize kS E L k=l at*;go_wp2_with fail;refine(AY J.out S.out).mono ?_;rintro e ad⟨aO,n5,c5,rfl,f5,F⟩;have av:=af f5;clear f5;go_wp2;go_ret;rw[Q.out];exact⟨rfl,av.out⟩
theorem fZ{P:Program}{fn:Func}{p q:Tmp}{ty:TypeId}(h:fn.results=#[.tmp q, .cell p ty])(tmps:Array Value)(w:World)(g:Nat)(t:TypeId)(cs:Array Value)(fr:Nat×Nat)(d:TypeDesc)
  (i:tmps.getD p undef= .pointer (some ⟨g,0,none⟩))(e:w.heap[g]? =some (.cells cs t fr))
  (hu:P.underlying ty=some d)(c:(match d with| .struct _| .array _ _=>true|_=>false)=true)(f:(P.info? ty).map (·.size)=some cs.size)(v:Value)(j:tmps.getD q undef=v):
  (results fn tmps).run P w= .ok (.tuple #[v, .agg cs]) w:=by
 have a:tmps[p]?.getD undef= .pointer (some ⟨g,0,none⟩):=by simpa using i
 have b:tmps[q]?.getD undef=v:=by simpa using j
 simp[results,h,a,b,asAddr,run_loadVar_row w g t ty cs fr d e hu c f]
def rB:List Value:=[.pointer none, .slice none 0 0]
theorem Js(w:World):(zeroValue 28).run Tryz.prog w= .ok (.agg rB.toArray) w:=by kernel_rfl
theorem iw:(Tryz.prog.info? 28).map (·.size)=some 2:=by kernel_rfl
theorem LU(b:Nat)(A:Option Addr)(n c:Nat):Tryz.prog.built 28 [(0, .pointer (some ⟨b,0,none⟩)),(1, .slice A n c)]=some [Value.pointer (some ⟨b,0,none⟩), .slice A n c].toArray:=by kernel_rfl
theorem eI.sz{a:ActV}(h:eI a):Hk a:=⟨by have:=h.fV;omega,fun c b=>(h.reads c b).cv,fun c b=>(h.writes c b).cv,by have:=h.nr;omega,by have:=h.nw;omega⟩
def Gk(w:World)(ms:List Value)(b:Nat)(E:List Ent)(L:List ActV)(a:ActV)(e:Ending)(w':World):Prop:=∃c:List Value,e= .returned (.tuple #[.int .i64 (eS L a).1, .agg c.toArray])∧Mod w' c b E (eS L a).2∧Fr ag w w'∧∀v∈c,∀k,v.ownBlock=some k→w.heap.size≤k∨∃u∈ms,u.ownBlock=some k
theorem AR(ms cs:List Value)(b:Nat)(E:List Ent)(L:List ActV)(a:ActV)(w:World)(bf:Mod w ms b E L)(aN:cF w cs a)(bs:eh w)(aO:cE 24 E)(g:eH L)(aT:eI a):
  Calls Tryz.prog 31 #[.agg ms.toArray, .agg cs.toArray] w (Gk w ms b E L a):=by
 obtain⟨A,n,c,rfl,av,ck,bZ,r,S,aQ⟩:=id bf;obtain⟨i0,ad,aU,T,bl⟩:=info_parts qv;have bS:Hid (¬1*i0.size>2^24):=by simp only[Hid];rw[T];omega
 have bT:Hid (¬1*i0.size=0):=by simp only[Hid];rw[T];omega
 have bU:Hid (∀ds:List Value,ds.length=6→Instr.fill (fun i=>some (i*i0.size,i0.size)) ((Array.range (1*i0.size)).map (ep.cells[· %ep.cells.size]!)) [(0, .agg ds.toArray)]=some ds.toArray):=fun ds cI=>by rw[T];exact Lt.ql _ _ 6 (by simpa using cI) (by simp[ep,Value.cells])
 obtain⟨q,b2⟩:∃q,L.length-1=q:=⟨_,rfl⟩;obtain⟨Y,d,O⟩:∃(Y:Addr)(d:ActV),Hid (0<L.length→A=some Y∧L[q]? =some d∧∀j x,d.key.cells[j]? =some x→w.cell? ((Y.add (q*6)).add j)=some x):=by
  by_cases h:0<L.length;·obtain⟨Y,cS,cA,cB,bK,bM,cg,ap⟩:=lE S aQ av (k:=q) (by omega);refine⟨Y,cA,fun _=>⟨cB,bK,fun j x C=>ap j x ?_⟩⟩;obtain⟨cP,cQ,rfl,_,_⟩:=bM;rw[List.getElem?_append_left (List.getElem?_eq_some_iff.1 C).1];exact C
  ·exact⟨⟨0,0,none⟩,a,fun cD=>absurd cD h⟩
 have al:Hid (n=L.length∧n≤16∧n≤c):=by have:=g.len;exact⟨av,by omega,ck⟩
 have bn:Hid (0<L.length→(n:Int)-1=(q:Int)∧q<n):=fun h=>by have:=al.out;exact⟨by omega,by omega⟩
 have bx:Hid (0<L.length→∀w',Calls Tryz.prog 85 #[.agg d.key.cells.toArray, .agg a.key.cells.toArray] w' (aH w' (.int .i64 (ew d.key a.key)))):=fun h w'=>oW _ _ w' (by have:=(g.small d (List.mem_of_getElem? (O.out h).2.1)).fV;omega) (by have:=aT.fV;omega);have aA:Hid (fY a=true→∀B:Bool,B=(decide (0<L.length)&&decide (0≤ew d.key a.key))→eS L a=if B=true then(32,L)else(0,L++[a])):=fun b1 B br=>AQ b1 B q d (fun h=>⟨b2.symm,(O.out h).2.1⟩) (by
  rw[br];have:=jA.lY d.key a.key;congr 1;exact decide_eq_decide.2 (by omega));have b7:Hid (∀w',Fr ag w w'→Calls Tryz.prog 18 #[.agg cs.toArray] w' (aH w' (j4 a))):=fun w' f=>p9 a cs w' (bs.ao f) (aN.ao f) aT.sz;have bm:Hid (∀w',Fr ag w w'→Calls Tryz.prog 41 #[.agg [Value.pointer (some ⟨b,0,none⟩), .slice A n c].toArray, .int .i64 (n:Int)] w' (DQ w' (fj L E))):=fun w' f=>by
  have h:=xD _ b E L n w' (bf.ao f) (bs.ao f) aO g (by omega);rw[av,List.take_length]at h;rw[av];exact h
 have bw:Hid (fY a=true→∀w' s,Fr ag w w'→eJ w' s (fj L E)→Calls Tryz.prog 86 #[.agg cs.toArray, .pointer (some ⟨s,0,none⟩)] w' (fun e b3=>∃p,e= .returned (.tuple #[.pointer p, .int .i64 0])∧Fr ag w' b3)):=fun b1 w' s f h=>by
  have G:=jG L E 24 aO g.ok g.small;refine(kJ _ a cs _ s w' (aN.ao f) h (bs.ao f) G aT.writes (by have:=aT.nw;have:=g.len;omega)).mono ?_;rintro e w2⟨p,k,rfl,f2,aP⟩;rcases aP with⟨_,rfl,_⟩|⟨⟨x,C,bk⟩,_⟩;·exact⟨_,rfl,f2⟩
  ·rw[rj b1 x C]at bk;cases bk
 have cR:=af bf;have cc:=af aN;have HB:=af bZ;have bC:=af aQ;have cy:=af S;have aK:Hid ((Tryz.prog.info? 46).map (·.size)=some cs.length):=by rw[Hid,aN.len];exact bL
 have bB:=af (ActV.one aN);have a4:=af aN.len;have y:Hid (∀w' bR,eS L a=(bR,L)→Fr ag w w'→Gk w [Value.pointer (some ⟨b,0,none⟩), .slice A n c] b E L a (.returned (.tuple #[.int .i64 bR, .agg [Value.pointer (some ⟨b,0,none⟩), .slice A n c].toArray])) w'):=fun w' bR e f=>⟨_,by rw[e],by rw[e];exact bf.ao f,f,fun v a0 k o=> .inr ⟨v,a0,o⟩⟩;have M:Hid (∀w' a1 aV aY,eS L a=(0,L++[a])→Fr ag w w'→aV=L.length+1→aV≤aY→jZ w' (.slice a1 aV aY) (L++[a])→(∀k,(Value.slice a1 aV aY).ownBlock=some k→w.heap.size≤k)→Gk w [Value.pointer (some ⟨b,0,none⟩), .slice A n c] b E L a (.returned (.tuple #[.int .i64 0, .agg [Value.pointer (some ⟨b,0,none⟩), .slice a1 aV aY].toArray])) w'):=fun w' a1 aV aY e f bW bd be bX=>⟨_,by rw[e],by rw[e];exact⟨a1,aV,aY,rfl,by rw[aS];exact bW,bd,bZ.ao f,be⟩,f,fun v a0 k o=>by
  rw[List.mem_cons,List.mem_singleton]at a0;rcases a0 with rfl|rfl;·cases o
  ·exact .inl (bX k o)⟩;generalize Gk w [Value.pointer (some ⟨b,0,none⟩), .slice A n c] b E L a=PP at*;clear bf aN bs aO g aT bZ S aQ av ck b2;go_enter Tryz.func31,Tryz.ntmps31;go_wp2_with(refine aB rfl 28 (.tmp 0) rfl _ rfl ?_);intro w1 n1;have b9:=af n1.fr;have b4:=af n1.aE;clear n1;generalize bg:w.heap.size=g2 at*;have bF:=af bg;clear bg;go_wp2_with(refine aB rfl 46 (.tmp 1) rfl cs.toArray rfl ?_);intro w2 cq;have bp:=af cq;clear cq;generalize bh:w1.heap.size=g3 at*;have bG:=af bh;clear bh;have b6:Hid (aq w2 g3 46 cs.toArray):=by have h:=bp.out.aE;rw[bG.out]at h;exact h
 have b5:=af (b4.out.fr bp.out.fr (fun x=>x));have bz:=af (b9.out.trans bp.out.fr);clear bp b4 b9;go_wp2_with(refine an rfl 28 rfl (.agg rB.toArray) Js #[.pointer none, .slice none 0 0] rfl ?_);intro w3 n3;have ba:=af n3;clear n3;generalize bi:w2.heap.size=g5 at*;have a7:=af bi;clear bi;have bq:Hid (aq w3 g5 28 #[.pointer none, .slice none 0 0]):=by have h:=ba.out.aE;rw[a7.out]at h;exact h
 have M2:=af (b5.out.fr ba.out.fr (fun x=>x));have cu:=af (b6.out.fr ba.out.fr (fun x=>x));have aj:=af (bz.out.trans ba.out.fr);have aI:Hid (w.heap.size≤g5):=by have:=bz.out.size;have:=a7.out;simp only[Hid];omega
 clear ba b5 b6 bz;have bH:Hid (∀W,Fr ag w3 W→∀j x,[Value.pointer (some ⟨b,0,none⟩), .slice A n c][j]? =some x→W.cell? ((⟨g2,0,none⟩:Addr).add j)=some x):=fun W f j x C=>by rw[←bP]at C;rw[Addr.add_mid,Nat.zero_add,(M2.out.fr f (fun x=>x)).cell j];exact C
 have bo:Hid (∀W,Fr ag w3 W→∀j x,cs[j]? =some x→W.cell? ((⟨g3,0,none⟩:Addr).add j)=some x):=fun W f j x C=>by rw[Addr.add_mid,Nat.zero_add,(cu.out.fr f (fun x=>x)).cell j,bP];exact C
 have cw:Hid (∀W,Fr ag w3 W→∀j x,a.key.cells[j]? =some x→W.cell? ((⟨g3,0,none⟩:Addr).add j)=some x):=fun W f j x C=>bo.out W f j x (by
  obtain⟨cP,cQ,e,_,_⟩:=cc.out;rw[e,List.getElem?_append_left (List.getElem?_eq_some_iff.1 C).1];exact C);have ce:Hid ([Value.pointer (some ⟨b,0,none⟩), .slice A n c].toArray.all (·.oneCell')=true):=by simp[Hid,Value.oneCell']
 go_wp2_with(refine aC rfl 46 (.tmp 3) rfl ⟨g3,0,none⟩ rfl cs _ ?zG Tryz.underlying46 rfl aK.out (aR.go ?zH));case zG=>exact bo.out _ az
 unfold aR;go_wp2_with fail;refine(b7.out _ aj.out).mono ?_;rintro e bt⟨rfl,f4⟩;have ay:=af f4;clear f4 b7;by_cases D:fY a=true
 ·have a6:Hid (j4 a= .tuple #[.string ⟨(cC a).toArray⟩, .int .i64 0]):=by rw[Hid,j4,D];rfl
  rw[a6.out];have ax:=af (bw.out D);have I:=af (aA.out D);generalize(⟨(cC a).toArray⟩:ByteArray)=cW at*;clear a6 D bw aA;obtain⟨P,bO⟩:∃z:Bool,decide (0<L.length)=z:=⟨_,rfl⟩;have aX:=af bO;have a8:Hid (decide (0<n)=P):=by rw[Hid,←aX.out];exact decide_eq_decide.2 (by have:=al.out;omega)
  obtain⟨Q,bQ⟩:∃z:Bool,decide (0≤ew d.key a.key)=z:=⟨_,rfl⟩;have EQ:=af bQ;rw[bO,bQ]at I;clear bO bQ;have aJ:Hid (0<L.length→A=some Y):=fun h=>(O.out h).1;have cO:bt.cell? ⟨g2,1,none⟩=some (.slice A n c):=(M2.out.fr ay.out (fun x=>x)).cell 1;obtain⟨B,br⟩:∃z:Bool,(bif P then Q else false)=z:=⟨_,rfl⟩;have aD:=af br;clear br;go_upto_region 5 with fail;refine jn 15 [.int .i64 (n:Int), .bool P, .bool P,bif P then .pointer (some ⟨g2,1,none⟩)else undef,bif P then .slice A n c else undef,bif P then .int .i64 (n:Int)else undef,bif P then .int .i64 (q:Int)else undef,bif P then .pointer (some (Y.add (q*6)))else undef,bif P then .pointer (some (Y.add (q*6)))else undef,bif P then .agg d.key.cells.toArray else undef,bif P then .pointer (some ⟨g3,0,none⟩)else undef,bif P then .agg a.key.cells.toArray else undef,bif P then .int .i64 (ew d.key a.key)else undef,bif P then .bool Q else undef, .bool B] ?zI ?_;case zI=>
   refine⟨?yQ,?zN,?zO,?zP,?zQ,?zR,?zS,?zT,?zU,?zV,?zA,?zB,?zC,?zD,?zE,trivial⟩;all_goals intro u w' m g
   all_goals simp only[z1,z2,z3,z4,ar,Act.put,z5,z6,z7,Nat.reduceAdd,Nat.zero_add]
   case zN=>
    simp only[show u 0=_ from g 0];refine aF ?_;have t1:=a8.out;go_simp;exact aM
   case' zO=>simp only[show u 1=_ from g 1]
   case' zP=>
    simp only[show u 2=_ from g 2];cases P;case false=>exact bV
   case zQ=>
    simp only[show u 3=_ from g 3,show u 2=_ from g 2];cases P;case false=>exact bV
    refine aF ?_;have cU:_=some _:=(M2.out.fr (ay.out.trans m) (fun x=>x)).cell 1;go_simp;exact aM
   case' zR=>
    simp only[show u 2=_ from g 2];cases P;case false=>exact bV
   case zS=>
    simp only[show u 5=_ from g 5,show u 2=_ from g 2];cases P;case false=>exact bV
    refine aF ?_;have o:=of_decide_eq_true aX.out;have ap:(n:Int)-1=(q:Int):=(bn.out o).1;have bN:IntKind.i64.wrap (q:Int)=(q:Int):=IntWalk.i64_in _ (by have:=al.out;have:=bn.out o;omega);go_simp;exact aM
   case zT=>
    simp only[show u 4=_ from g 4,show u 6=_ from g 6,show u 2=_ from g 2];cases P;case false=>exact bV
    refine aF ?_;have o:=of_decide_eq_true aX.out;have ap:A=some Y:=aJ.out o;have bN:(q:Int)<(n:Int):=by have:=bn.out o;omega
    have ch:(0:Int)≤(q:Int):=by omega
    clear aJ;subst ap;go_simp;exact aM
   case' zU=>
    simp only[show u 7=_ from g 7,show u 2=_ from g 2];cases P;case false=>exact bV
   case zV=>
    simp only[show u 8=_ from g 8,show u 2=_ from g 2];cases P;case false=>exact bV
    refine aF ?_;have o:=of_decide_eq_true aX.out;exact au _ _ rfl (Y.add (q*6)) rfl d.key.cells _ (fun cm v a0=>(aj.out.trans (ay.out.trans m)).ak ((O.out o).2.2 cm v a0) (fun x=>x)) Tryz.underlying43 rfl gH aM
   case' zA=>
    simp only[show u 2=_ from g 2];cases P;case false=>exact bV
   case zB=>
    simp only[show u 10=_ from g 10,show u 2=_ from g 2];cases P;case false=>exact bV
    refine aF ?_;exact au _ _ rfl ⟨g3,0,none⟩ rfl a.key.cells _ (cw.out _ (ay.out.trans m)) Tryz.underlying43 rfl gH aM
   case zC=>
    simp only[show u 9=_ from g 9,show u 11=_ from g 11,show u 2=_ from g 2];cases P;case false=>exact bV
    refine aF ?_;have o:=of_decide_eq_true aX.out;go_simp;refine(bx.out o _).mono ?_;rintro e bt⟨rfl,f4⟩;exact⟨rfl,f4⟩
   case zD=>
    simp only[show u 12=_ from g 12,show u 2=_ from g 2];cases P;case false=>exact bV
    refine aF ?_;have t:=EQ.out;go_simp;exact aM
   case zE=>
    simp only[show u 2=_ from g 2,show u 13=_ from g 13];cases P<;>exact aF (by go_simp;exact⟨by rw[←aD.out];rfl,az⟩)
   all_goals
    try simp only[cond]
    refine aF ?_;go_simp;exact aM
  intro w' m;simp only[z1,z2,z3,z4,ar,Act.put,z5,z6,z7,z8,z9,jX,jY,Nat.reduceAdd,Nat.zero_add];have H:=af (ay.out.trans m);clear m ay cO bx EQ;generalize w'=ct at*;have a5:Hid (B=(P&&Q)):=by have:=aD.out;rw[Hid,←this];cases P<;>rfl
  have K:=af (I.out B a5.out);clear I a5 aD aJ aX a8 O bn;cases B
  ·have J:Hid (eS L a=(0,L++[a])):=K.out;go_upto_region 7 with fail;refine xJ 10 [iS (.agg cs.toArray),iS (.agg [Value.pointer (some ⟨b,0,none⟩), .slice A n c].toArray),iS (.int .i64 (n:Int)),⟨fun v X=>∃s:Nat,v= .pointer (some ⟨s,0,none⟩)∧eJ X s (fj L E),fun _ _ _ f⟨s,e,h⟩=>⟨s,e,h.ao f⟩⟩,⟨fun v _=>∃p:Option Addr,v= .tuple #[.pointer p, .int .i64 0],fun _ _ _ _ h=>h⟩,⟨fun v _=>∃p:Option Addr,v= .tuple #[.pointer p, .int .i64 0],fun _ _ _ _ h=>h⟩,⟨fun v _=>∃p:Option Addr,v= .pointer p,fun _ _ _ _ h=>h⟩,iS (.int .i64 0),⟨fun v _=>∃p:Option Addr,v= .pointer p,fun _ _ _ _ h=>h⟩,iS (.int .i64 0)] ?zL ?_;case zL=>
    refine⟨?zZ,?yA,?yT,?yB,?yC,?yD,?yE,?yF,?yG,?yH,trivial⟩;all_goals intro u w' m g
    all_goals simp only[z1,z2,z3,z4,ar,Act.put,z5,z6,z7,Nat.reduceAdd,Nat.zero_add]
    case zZ=>
     refine aF ?_;exact au _ _ rfl ⟨g3,0,none⟩ rfl cs _ (bo.out _ (H.out.trans m)) Tryz.underlying46 rfl aK.out ⟨_,rfl,az,rfl⟩
    case yA=>
     refine aF ?_;exact au _ _ rfl ⟨g2,0,none⟩ rfl [Value.pointer (some ⟨b,0,none⟩), .slice A n c] _ (bH.out _ (H.out.trans m)) Tryz.underlying28 rfl iw ⟨_,rfl,az,rfl⟩
    case yB=>
     simp only[show u 1=_ from g 1,show u 2=_ from g 2];refine aF ?_;go_simp;refine(bm.out _ (aj.out.trans (H.out.trans m))).mono ?_;rintro e bt⟨s,rfl,aT,f4⟩;exact⟨_,rfl,f4,⟨s,rfl,aT⟩⟩
    case yC=>
     obtain⟨cV,bM,be⟩:=g 3;simp only[show u 0=_ from g 0,bM];refine aF ?_;go_simp;refine(ax.out _ _ (aj.out.trans (H.out.trans m)) be).mono ?_;rintro e bt⟨p,rfl,f4⟩;exact⟨_,rfl,f4,⟨p,rfl⟩⟩
    case yD=>
     obtain⟨cL,cg⟩:=g 4;simp only[cg];refine aF ?_;go_simp;exact⟨_,rfl,az,⟨cL,rfl⟩⟩
    case yE=>
     obtain⟨cr,ap⟩:=g 5;simp only[ap];refine aF ?_;go_simp;exact⟨_,rfl,az,⟨cr,rfl⟩⟩
    case yF=>
     obtain⟨cr,ap⟩:=g 5;simp only[ap];refine aF ?_;go_simp;exact⟨_,rfl,az,rfl⟩
    case yG=>
     obtain⟨cM,bN⟩:=g 6;simp only[bN];refine aF ?_;go_simp;exact⟨_,rfl,az,⟨cM,rfl⟩⟩
    case yH=>
     simp only[show u 7=_ from g 7];refine aF ?_;go_simp;exact⟨_,rfl,az,rfl⟩
    all_goals
     refine aF ?_;go_simp;exact⟨_,rfl,az,rfl⟩
   intro u w' m g;obtain⟨cT,bc⟩:=g 8 (by omega);simp only[z1,z2,z3,z4,ar,Act.put,z5,z6,z7,z8,z9,Nat.reduceAdd,Nat.zero_add,show u 9=_ from g 9 (by omega)];clear g;simp only[bc];clear bc;have F:=af (H.out.trans m);clear m bm ax H y;generalize w'=bu at*;have ac:=af (aj.out.trans F.out);have bv:Hid (∀W,Fr ag w W→dG W r L):=fun W f=>bC.out.cN f (fM.nothing _);have bb:Hid (∀W,Fr ag w W→Rd W (fun _=>True) 6 A n r.flatten):=fun W f=>by
    have h:W.ownsRow 0 46 6 (.slice A n c) L.length r.flatten:=aL cy.out f (fun _ _ x=>x);rw[←al.out.1]at h;exact(Rd.gR h).any
   go_upto_region 10 with fail;refine Gd 11 ag (fun i=>i==8) (fun i j=>(i==8&&(j==2||j==5||j==7))) [iS (.pointer (some ⟨g2,0,none⟩)),iS (.pointer (some ⟨b,0,none⟩)),⟨fun V ah=>∃i:Nat,V= .slice (some ⟨i,0,none⟩) 0 0∧ah.ownsRow 0 46 6 (.slice (some ⟨i,0,none⟩) 0 0) 0 []∧bu.heap.size≤i,fun _ _ _ f⟨i,e,h,l⟩=>⟨i,e,aL h f (fun _ _ x=>x),l⟩⟩,iS (.pointer (some ⟨g2,1,none⟩)),iS (.slice A n c),⟨fun V ah=>ah.ownsRow 0 46 6 V n r.flatten∧∀k,V.ownBlock=some k→bu.heap.size≤k,fun _ _ _ f h=>⟨aL h.1 f (fun _ _ x=>x),h.2⟩⟩,iS (.agg cs.toArray),⟨fun V ah=>∃i:Nat,V= .slice (some ⟨i,0,none⟩) 1 1∧aq ah i 46 cs.toArray,fun _ _ _ f⟨i,e,h⟩=>⟨i,e,h.fr f (fun x=>x)⟩⟩,⟨fun V ah=>ah.ownsRow 0 46 6 V (L.length+1) (r.flatten++cs)∧∀k,V.ownBlock=some k→bu.heap.size≤k,fun _ _ _ f h=>⟨aL h.1 f (fun _ _ x=>x),h.2⟩⟩,⟨fun V ah=>∃(ab:Option Addr)(U Z:Nat),V= .agg [Value.pointer (some ⟨b,0,none⟩), .slice ab U Z].toArray∧U=L.length+1∧U≤Z∧ah.ownsRow 0 46 6 (.slice ab U Z) (L.length+1) (r.flatten++cs)∧∀k,(Value.slice ab U Z).ownBlock=some k→bu.heap.size≤k,fun _ _ _ f⟨ab,U,Z,e,bW,bd,be,bX⟩=>⟨ab,U,Z,e,bW,bd,aL be f (fun _ _ x=>x),bX⟩⟩,iS (.int .i64 0)] ?zM ?_;case zM=>
    refine⟨?yU,?yI,?yJ,?yV,?yK,?yL,?yM,?yN,?yO,?yP,?zF,trivial⟩;all_goals intro u w' m g b2
    all_goals simp only[z1,z2,z3,z4,ar,Act.put,z5,z6,z7,Nat.reduceAdd,Nat.zero_add]
    case yI=>
     simp only[show u 0=_ from g 0];refine aF ?_;have q:_=some _:=(M2.out.fr (F.out.trans m) (fun x=>x)).cell 0;go_simp;exact⟨_,rfl,az,rfl⟩
    case yJ=>
     refine aF ?_;refine jW 26 46 rfl i0 Tryz.underlying26 ad ?_;intro ct av;exact⟨_,rfl,av.fr,⟨w'.heap.size,rfl,av.Cq,m.size⟩⟩
    case yK=>
     simp only[show u 3=_ from g 3];refine aF ?_;have q:_=some _:=(M2.out.fr (F.out.trans m) (fun x=>x)).cell 1;go_simp;exact⟨_,rfl,az,rfl⟩
    case yL=>
     obtain⟨i2,bK,bd,l2⟩:=g 2;simp only[bK,show u 4=_ from g 4];refine aF ?_;refine Dl (.tmp 53) (.tmp 55) 26 rfl 46 i0 ep 6 88 Tryz.underlying26 ad aU T bl rfl (by decide) i2 rfl bd (fun _=>True) A n c r.flatten rfl (bb.out _ (ac.out.trans m)) (by have:=al.out;omega) (by have:=al.out;omega) ?_;intro v5 ct cK b0 cJ;exact⟨_,rfl,b0,cK,fun k o=>(cJ k o).elim (fun e=>by omega) (fun e=>Nat.le_trans m.size e)⟩
    case yM=>
     refine aF ?_;exact au _ _ rfl ⟨g3,0,none⟩ rfl cs _ (bo.out _ (F.out.trans m)) Tryz.underlying46 rfl aK.out ⟨_,rfl,az,rfl⟩
    case yN=>
     simp only[show u 6=_ from g 6];refine aF ?_;refine wp_buildSlice 26 46 1 #[(0, .tmp 57)] rfl cs.toArray i0 ep Tryz.underlying26 ad aU bS.out bT.out ?_ ?_;·simp only[List.map_toArray,List.map_cons,List.map_nil];exact bU.out cs a4.out
     ·exact⟨_,rfl,az.alloc _,⟨w'.heap.size,rfl,aq.new _ _ _⟩⟩
    case yO=>
     obtain⟨cG,cn⟩:=g 5;obtain⟨i7,ch,cH⟩:=g 7;simp only[ch];refine aF ?_;refine uP _ (.tmp 56) (.tmp 58) 26 rfl 46 i0 ep 6 88 Tryz.underlying26 ad aU T bl rfl (by decide) _ _ _ rfl cG (fun _=>True) (some ⟨i7,0,none⟩) 1 1 cs rfl ⟨by have:=a4.out;omega,fun _=>⟨_,rfl,trivial,fun cm x C=>by rw[Addr.add_mid,Nat.zero_add,cH.cell,bP];exact C⟩⟩ (fun u hu=>by have h:=bB.out;rw[Array.all_eq_true_iff_forall_mem]at h;exact h u (by simpa using hu)) (by have:=al.out;omega) (by decide) ?_;intro cX cY aO;refine⟨_,rfl,⟨m.aw aO.fr (fun k o e=>by have:=cn k e;omega),?_⟩,?_,fun k o=>(aO.eG k o).elim (cn k) (fun h=>Nat.le_trans m.size h)⟩;·exact⟨fun _ h=>h,fun _ h=>h,nP,fun _ h=>h,fun _ h=>h,nP,fun _ h=>h,nP,nP,nP,nP,trivial⟩
     ·rw[←al.out.1];exact aO.own
    case yP=>
     obtain⟨bY,co⟩:=g 8;obtain⟨ab,U,Z,bc,cv,bA⟩:=aG bY;rw[bc]at bY co;simp only[show u 1=_ from g 1,bc];refine aF ?_;exact iA 28 _ rfl [Value.pointer (some ⟨b,0,none⟩), .slice ab U Z].toArray _ (by simp only[List.map_toArray,List.map_cons,List.map_nil];rfl) (LU b ab U Z) ⟨_,rfl,az,⟨ab,U,Z,rfl,cv.out,bA.out,bY,co⟩⟩
    case zF=>
     refine aF ?_;go_simp;exact⟨_,rfl,az,rfl⟩
    all_goals
     refine aF ?_;go_simp;exact⟨_,rfl,az,rfl⟩
   intro u w' m g;obtain⟨a2,aW,aZ,ci,cb,a3,cj,cp⟩:=g 9 (by omega);simp only[z1,z2,z3,z4,ar,Act.put,z5,z6,z7,z8,z9,Nat.reduceAdd,Nat.zero_add,show u 10=_ from g 10 (by omega)];clear g;simp only[ci];have bj:=af m;have ca:=af (F.out.trans m);have cf:=af (bq.out.fr ca.out (fun x=>x));have cz:=af cj;have cd:=af cp;have cx:Hid ([Value.pointer (some ⟨b,0,none⟩), .slice a2 aW aZ].toArray.all (·.oneCell')=true):=by simp[Hid,Value.oneCell']
   have b8:Hid (aW=L.length+1∧aW≤aZ):=⟨cb,a3⟩;clear m cj cp ci cb a3 bb;refine ai rfl 28 (.tmp 5) _ rfl g5 [Value.pointer (some ⟨b,0,none⟩), .slice a2 aW aZ].toArray rfl rfl _ _ cf.out iw rfl cx.out ?_;intro ae am aa;have a9:=af am;have bE:Hid (fM w' (fun k=>k=g5)):=fM.of (fun k o=>⟨28,(show k=g5 from o)▸cf.out.ty,by decide,by decide,by decide⟩);have bD:Hid (jZ ae (.slice a2 aW aZ) (L++[a])):=by
    refine⟨r++[cs],?_,?_⟩
    ·rw[aS,List.length_singleton,List.flatten_append,List.flatten_singleton];exact aL cz.out aa (fun k o e=>by
      have bJ:k=g5:=e;have:=cd.out k o;have:=(bq.out.fr F.out (fun x=>x)).lt;omega)
    ·exact((bv.out _ (ac.out.trans (by exact bj.out))).snoc (cc.out.ao (ac.out.trans bj.out))).cN aa bE.out
   have N:=af (M.out ae a2 aW aZ J.out ((aj.out.trans ca.out).aw aa (fun i cl e=>by have bJ:i=g5:=e;have:=aI.out;omega)) b8.out.1 b8.out.2 bD.out (fun k o=>by have:=cd.out k o;have:=ac.out.size;have:=bF.out;omega));clear am aa;go_wp2;exact bodyPost_ret (fZ (fn:=Tryz.f31) (p:=5) (q:=4) (ty:=28) Tryz.results31 _ ae _ 28 [Value.pointer (some ⟨b,0,none⟩), .slice a2 aW aZ].toArray (0,0) _ rfl a9.out Tryz.underlying28 rfl iw _ rfl) rfl N.out
  ·have J:Hid (eS L a=(32,L)):=K.out;clear K M ax bm;go_upto_region 6 with fail;refine jn 2 [.agg [Value.pointer (some ⟨b,0,none⟩), .slice A n c].toArray, .int .i64 32] ?zJ ?_;case zJ=>
    refine⟨?zW,?yR,trivial⟩;all_goals intro u w' m g
    all_goals simp only[z1,z2,z3,z4,ar,Act.put,z5,z6,z7,Nat.reduceAdd,Nat.zero_add]
    case zW=>
     refine aF ?_;exact au _ _ rfl ⟨g2,0,none⟩ rfl [Value.pointer (some ⟨b,0,none⟩), .slice A n c] _ (bH.out _ (H.out.trans m)) Tryz.underlying28 rfl iw aM
    all_goals
     refine aF ?_;go_simp;exact aM
   intro w' m;simp only[z1,z2,z3,z4,ar,Act.put,z5,z6,z7,z8,z9,jX,jY,Nat.reduceAdd,Nat.zero_add];have F:=af (H.out.trans m);have bI:=af (bq.out.fr F.out (fun x=>x));clear m;refine ai rfl 28 (.tmp 5) _ rfl g5 [Value.pointer (some ⟨b,0,none⟩), .slice A n c].toArray rfl rfl _ _ bI.out iw rfl ce.out ?_;intro ae am aa;have a9:=af am;have N:=af (y.out ae 32 J.out ((aj.out.trans F.out).aw aa (fun i cl e=>by have bJ:i=g5:=e;have:=aI.out;omega)));clear am aa;go_wp2;exact bodyPost_ret (fZ (fn:=Tryz.f31) (p:=5) (q:=4) (ty:=28) Tryz.results31 _ ae _ 28 [Value.pointer (some ⟨b,0,none⟩), .slice A n c].toArray (0,0) _ rfl a9.out Tryz.underlying28 rfl iw _ rfl) rfl N.out
 ·have R:fY a=false:=by simpa using D
  have a6:Hid (j4 a= .tuple #[.string ByteArray.empty, .int .i64 3]):=by rw[Hid,j4,R];rfl
  have J:=af (yo (L:=L) R);rw[a6.out];clear D R a6 M bw bm aA bx;go_upto_region 3 with fail;have H:=ay;refine jn 3 [.int .i64 3, .agg [Value.pointer (some ⟨b,0,none⟩), .slice A n c].toArray, .int .i64 3] ?zK ?_;case zK=>
   refine⟨?yS,?zX,?zY,trivial⟩;all_goals intro u w' m g
   all_goals simp only[z1,z2,z3,z4,ar,Act.put,z5,z6,z7,Nat.reduceAdd,Nat.zero_add]
   case zX=>
    refine aF ?_;exact au _ _ rfl ⟨g2,0,none⟩ rfl [Value.pointer (some ⟨b,0,none⟩), .slice A n c] _ (bH.out _ (H.out.trans m)) Tryz.underlying28 rfl iw aM
   case' zY=>simp only[show u 0=_ from g 0]
   all_goals
    refine aF ?_;go_simp;exact aM
  intro w' m;simp only[z1,z2,z3,z4,ar,Act.put,z5,z6,z7,z8,z9,jX,jY,Nat.reduceAdd,Nat.zero_add];have F:=af (H.out.trans m);have bI:=af (bq.out.fr F.out (fun x=>x));clear m;refine ai rfl 28 (.tmp 5) _ rfl g5 [Value.pointer (some ⟨b,0,none⟩), .slice A n c].toArray rfl rfl _ _ bI.out iw rfl ce.out ?_;intro ae am aa;have a9:=af am;have N:=af (y.out ae 3 J.out ((aj.out.trans F.out).aw aa (fun i cl e=>by have bJ:i=g5:=e;have:=aI.out;omega)));clear am aa;go_wp2;exact bodyPost_ret (fZ (fn:=Tryz.f31) (p:=5) (q:=4) (ty:=28) Tryz.results31 _ ae _ 28 [Value.pointer (some ⟨b,0,none⟩), .slice A n c].toArray (0,0) _ rfl a9.out Tryz.underlying28 rfl iw _ rfl) rfl N.out
theorem Dx(w:World)(h b:Nat)(c:w.cell? ⟨h,0,none⟩=some (.pointer (some ⟨b,0,none⟩))):Calls Tryz.prog 47 #[.pointer (some ⟨h,0,none⟩)] w (bm w (.pointer (some ⟨b,0,none⟩))):=by
 have a:=af (jf w h b c);go_enter Tryz.func47,Tryz.ntmps47;go_wp2_with fail;refine a.out.mono ?_;rintro e w'⟨rfl,rfl⟩;go_wp2;go_ret;exact⟨rfl,rfl⟩
def Az(w:World)(L:List ActV)(e:Ending)(w':World):Prop:=∃g,e= .returned (.slice (some ⟨g,0,none⟩) L.length L.length)∧jZ w' (.slice (some ⟨g,0,none⟩) L.length L.length) L∧Fr ag w w'∧w.heap.size≤g
structure Dp(w wr:World)(g n k:Nat)(L:List ActV):Prop where
 fr:Fr ag w wr
 lt:w.heap.size≤g
 row:∃(cs:List (List Value))(Z:List Value),aq wr g 46 (cs.flatten++Z).toArray∧cs.flatten.length=k*6∧Z.length=(n-k)*6∧dG wr cs (L.take k)
theorem xM(h:Nat)(E:List Ent)(L:List ActV)(T:Nat→Prop)(w:World)(aV:ez w h E L T)(aW:L.length≤65536)(aI:∀a∈L,a.reads.length≤1099511627776∧a.writes.length≤1099511627776):
  Calls Tryz.prog 48 #[.pointer (some ⟨h,0,none⟩)] w (Az w L):=by
 obtain⟨b,s,g0,va,vk,K,A,c,mb,Q,rfl⟩:=aV;obtain⟨d,p,J⟩:=Q.jq;obtain⟨V,n1,zB,rfl,H1,_⟩:=aG p;obtain⟨i0,O,ar,U,au⟩:=info_parts qv;have aa:Hid (∀j,j<L.length→∃I m a,V=some I∧L[j]? =some a∧cF w m a∧m.length=6∧∀i x,m[i]? =some x→w.cell? ((I.add (j*6)).add i)=some x):=fun j an=>lE p J H1.out an;have G:Hid (n1=L.length∧n1≤65536):=by have:=H1.out;exact⟨this,by omega⟩
 have ay:=af (jf w h b (Q.aE.cell 0));have a0:w.cell? ⟨h,1,none⟩=some (.slice V n1 zB):=Q.aE.cell 1;have ah:Hid (∀W,Fr ag w W→W.cell? ⟨h,1,none⟩=some (.slice V n1 zB)):=fun W f=>(Q.aE.fr f (fun x=>x)).cell 1;have aN:=af aI;clear Q p J H1 aW aI;go_enter Tryz.func48,Tryz.ntmps48;go_wp2_with fail;refine ay.out.mono ?_;rintro e w'⟨rfl,rfl⟩;clear ay;go_wp2_with(at_make;refine wpList_make_full _ rfl _ _ 26 rfl 0 46 i0 ep 6 Tryz.underlying26 O ar U _ _ _ _ n1 rfl rfl rfl rfl ?zB ?zH (Nat.zero_le _) ?_);case zB=>rw[au];have:=G.out;omega
 case zH=>unfold maxLen;have:=G.out;omega
 intro w1 S N;have ac:Hid (Fr ag w w1):=(Fr.grown N).mono (fun k _ X=>by cases X);have aA:Hid (∃Z:List Value,aq w1 w.heap.size 46 Z.toArray∧Z.length=n1*6):=by
  rcases S.2 with⟨R,_⟩|⟨a2,cap,cur,R,_,u,_,_,ap,_⟩;·cases R
  ·cases R;exact⟨cur.toList,by rw[Array.toArray_toList];exact u,by rw[Array.length_toList];exact ap⟩
 have n:Hid (w.heap.size≤w.heap.size):=Nat.le_refl _;generalize aH:w.heap.size=g at*;have aB:Hid (Dp w w1 g n1 0 L):=by
  obtain⟨Z,u,aY⟩:=aA.out;exact⟨ac.out,by rw[aH];exact Nat.le_refl _,[],Z,by simpa using u,by simp,by simpa using aY,by simp[dG]⟩
 have av:w1.cell? ⟨h,1,none⟩=some (.slice V n1 zB):=ah.out _ ac.out;clear S N aA ac a0 aH n;go_wp2;go_loopw[19](fun i wr=>∃k:Nat,k≤n1∧i= .int .i64 (k:Int)∧Dp w wr g n1 k L)(fun i _=>n1-(intOf i).toNat);case atStart=>exact⟨0,Nat.zero_le _,rfl,aB.out⟩
 case round=>
  obtain⟨k,X,rfl,aF⟩:=hrel;have r:=af aF;have aM:=af X;clear aF X aB av;by_cases C:k<n1
  ·have t0:decide ((k:Int)<(n1:Int))=true:=de (by omega);obtain⟨I,m,a,rfl,B,z,l,o⟩:=aa.out k (by have:=G.out;omega);have i1:(k:Int)<(n1:Int):=by omega
   have i2:(0:Int)≤(k:Int):=by omega
   have aD:Hid ((Tryz.prog.info? 46).map (·.size)=some m.length):=by rw[Hid,l];exact bL
   have aj:Hid ((Tryz.prog.info? 46).map (·.size)=some m.toArray.size):=by rw[Hid,List.size_toArray,l];exact bL
   have ai:Hid (6=m.toArray.size):=by rw[Hid,List.size_toArray,l]
   have F:Hid (∀i x,m[i]? =some x→wr.cell? ((I.add (k*6)).add i)=some x):=fun i x zC=>r.out.fr.ak (o i x zC) (fun x=>x);have aQ:=af (ActV.one z);have aJ:Hid (∀W,Fr ag w W→cF W m a):=fun W f=>z.ao f;have aO:Hid (L.take (k+1)=L.take k++[a]):=by rw[Hid,List.take_add_one,B,Option.toList_some]
   have H:=af (aN.out a (List.mem_of_getElem? B));have a5:IntKind.i64.wrap ((k:Int)+1)=(k:Int)+1:=IntWalk.i64_in _ (by have:=G.out;omega);have n:=af C;clear o z l B C;go_wp2_with(refine aC rfl 46 (.tmp 22) rfl (I.add (k*6)) rfl m _ ?zA Tryz.underlying46 rfl aD.out (aR.go ?zF));case zA=>exact F.out
   unfold aR;go_wp2_with(refine nf rfl rfl rfl 46 5 rfl rfl (.tmp 21) rfl _ rfl ep kC #[.int .i64 0, .int .i64 0, .int .i64 0, .string ByteArray.empty, .slice none 0 0, .slice none 0 0] rfl (.int .i64 (k:Int)) m.toArray (fun _=>rfl) (fun _=>rfl) (fun _=>rfl) aj.out ai.out aQ.out ?_);intro w2 g5 M _ b2 f2;have ax:=af b2;have az:=af f2;have aL:=af M;clear b2 f2 M F;have al:Hid (∀j x,m[j]? =some x→w2.cell? ((⟨g5,0,none⟩:Addr).add j)=some x):=kX ax.out;go_wp2_with(refine aC rfl 46 (.tmp 5) rfl ⟨g5,0,none⟩ rfl m _ ?zD Tryz.underlying46 rfl aD.out (aR.go ?zG));case zD=>first|exact al.out|exact fun j x zC=>by have q:=al.out j x zC;rw[Addr.add_mid,Nat.zero_add]at q;exact q
   unfold aR;go_wp2_with fail;refine(pD a m w2 (aJ.out _ (r.out.fr.trans az.out)) H.out.1 H.out.2).mono ?_;rintro e w3⟨cs,rfl,t,f3,P⟩;have aK:=af t;have Y:=af (az.out.trans f3);obtain⟨d,Z,u,l,D,zA⟩:=r.out.row;have HB:=af (u.fr Y.out (fun x=>x));have ab:=af (dG.cN Y.out (fM.nothing _) zA);have ae:Hid (d.flatten.length=k*6∧Z.length=(n1-k)*6∧cs.length=6):=⟨l,D,t.len⟩;have am:Hid (∀v∈cs,v.oneCell'=true):=fun v R=>by
    have q:=ActV.one t;rw[List.all_toArray,List.all_eq_true]at q;exact q v R
   have ad:Hid (k*6+cs.length≤(d.flatten++Z).length):=by
    have:=ae.out;have:=n.out;simp only[Hid,aS];omega
   clear t f3 P u l D zA al ax;go_wp2_with(refine pe rfl 46 (.tmp 28) (.tmp 27) rfl g (k*6) ?zC i0 O cs rfl (by rw[ae.out.2.2,U]) am.out 46 (d.flatten++Z) HB.out ad.out (aR.go ?zE));case zC=>first|rfl|simp[Addr.add_mid]
   unfold aR;intro aZ b4 f4;have aP:Hid (Dp w aZ g n1 (k+1) L):=by
    have a4:=ae.out;have y:fM w3 (fun j=>j=g):=fM.of (fun j an=>⟨46,(show j=g from an)▸HB.out.ty,by decide,by decide,by decide⟩);refine⟨(r.out.fr.trans Y.out).aw f4 (fun i a3 e=>by have a1:i=g:=e;have:=r.out.lt;omega),r.out.lt,d++[cs],Z.drop 6,?_,?_,?_,?_⟩
    ·have aT:(d.flatten++Z).take (k*6)=d.flatten:=by rw[List.take_append_of_le_length (by omega),List.take_of_length_le (by omega)]
     have aU:(d.flatten++Z).drop (k*6+cs.length)=Z.drop 6:=by
      rw[List.drop_append,List.drop_of_length_le (by omega),List.nil_append];congr 1;omega
     have e:(d.flatten++Z).take (k*6)++(cs++(d.flatten++Z).drop (k*6+cs.length))=(d++[cs]).flatten++Z.drop 6:=by
      rw[aT,aU];simp
     first|rw[e]at b4|rw[List.append_assoc,e]at b4
     exact b4
    ·simp only[List.flatten_append,aS,List.flatten_cons,List.flatten_nil,List.append_nil];omega
    ·rw[List.length_drop];omega
    ·rw[aO.out];exact dG.snoc (dG.cN f4 y ab.out) (aK.out.cN f4 y)
   clear b4 f4;go_wp2;go_roundw;case rel=>exact⟨k+1,by have:=n.out;omega,by go_num,aP.out⟩
   case measure=>simp[intOf];have:=n.out;omega
  ·have t0:decide ((k:Int)<(n1:Int))=false:=cD (by omega);obtain rfl:k=n1:=by have:=aM.out;omega
   clear C;go_wp2;go_ret;obtain⟨d,Z,u,l,D,zA⟩:=r.out.row;obtain rfl:Z=[]:=List.length_eq_zero_iff.1 (by omega);rw[List.append_nil]at u;have aX:=G.out;rw[List.take_of_length_le (by omega)]at zA;have e:=aX.1;subst e;exact⟨g,rfl,⟨d,⟨by rw[l], .inr ⟨g,L.length,d.flatten.toArray,rfl,Nat.zero_le _,u,Nat.le_refl _,by unfold maxLen;omega,by rw[List.size_toArray,l],by rw[List.toList_toArray];exact List.take_of_length_le (by omega)⟩⟩,zA⟩,r.out.fr,r.out.lt⟩
def xj(rt:List UInt8)(i n:Int)(l:List UInt8)(path:List (List UInt8)):Bool:=decide ((Lt.dp (ef l) (i+1) (n+1) path).2.2=0)&&decide ((Lt.dp (ef l) (i+1) (n+1) path).1=rt)
def sx(rt:List UInt8)(i n:Int)(l:List UInt8)(path:List (List UInt8)):Int:=
 if n<1∨65536<n∨i<0∨n≤i then 2 else if nI l=none then 3 else if xj rt i n l path=true then 0 else 35
def nZ(w:World)(rt:List UInt8)(i n:Int)(l:List UInt8)(path:List (List UInt8))(e:Ending)(w':World):Prop:=
 ∃cs a b,e= .returned (.tuple #[.agg cs.toArray, .int .i64 b])∧cF w' cs a∧Fr ag w w'∧b=sx rt i n l path∧(b=0→nI l=some a)∧(b≠0→a=oV)
theorem ze(rt:List UInt8)(ay:rt.length=32)(i n:Int)(d:ByteArray)(path:List (List UInt8))(len:Nat)(A:Option Addr)(c:Nat)(S:Nat→Prop)(w:World)(bA:Lt.gv w S A len path)(V:len≤1048576)(ch:eh w)(bJ:bT w)(ci:d.size≤16777216):
  Calls Tryz.prog 17 #[aY rt, .agg [Value.int .i64 i, .int .i64 n, .string d, .slice A len c].toArray] w (nZ w rt i n (aQ d) path):=by
 have D:Hid (sx rt i n (aQ d) path=if n<1∨65536<n∨i<0∨n≤i then 2 else if nI (aQ d)=none then 3 else if xj rt i n (aQ d) path=true then 0 else 35):=rfl;have b3:Hid (∀w',Fr ag w w'→Calls Tryz.prog 20 #[.string d] w' (y8 w' (aQ d))):=fun w' f=>Ha d w' (ch.ao f) ci;have CL:Hid (∀w',Fr ag w w'→Calls Tryz.prog 59 #[.string d] w' (aH w' (aY (ef (aQ d))))):=fun w' f=>vZ d w' (bJ.ao f) (by omega);have Y:Hid (∀(k m:Nat)w',Fr ag w w'→m≤65536→Calls Tryz.prog 58 #[aY (ef (aQ d)), .int .i64 ((k:Int)+1), .int .i64 ((m:Int)+1), .slice A len c] w' (aH w' (.tuple #[aY (Lt.dp (ef (aQ d)) ((k:Int)+1) ((m:Int)+1) path).1, .int .i64 (Lt.dp (ef (aQ d)) ((k:Int)+1) ((m:Int)+1) path).2.2]))):=fun k m w' f hm=>
  Lt.Hd (ef (aQ d)) (kl _) _ _ (by omega) path len A c S w' (bA.ao f) V (bJ.ao f);have aS:Hid (∀k m:Int,(Lt.dp (ef (aQ d)) k m path).1.length=32):=fun k m=>Lt.pN (ef (aQ d)) (kl _) k m path bA.each;have l:Hid (∀ae:Int,sx rt i n (aQ d) path=ae→ae≠0→∀w',Fr ag w w'→nZ w rt i n (aQ d) path (.returned (.tuple #[.agg bX.toArray, .int .i64 ae])) w'):=fun ae R T w' f=>⟨_,_,_,rfl,rA w',f,R.symm,fun h=>absurd h T,fun _=>rfl⟩;have r:Hid (∀cs a w',sx rt i n (aQ d) path=0→nI (aQ d)=some a→cF w' cs a→Fr ag w w'→nZ w rt i n (aQ d) path (.returned (.tuple #[.agg cs.toArray, .int .i64 0])) w'):=fun cs a w' R T ak f=>⟨_,_,_,rfl,ak,f,R.symm,fun _=>T,fun h=>absurd rfl h⟩;have aV:Hid (∀k m:Nat,xj rt (k:Int) (m:Int) (aQ d) path=(decide ((Lt.dp (ef (aQ d)) ((k:Int)+1) ((m:Int)+1) path).2.2=0)&&decide ((Lt.dp (ef (aQ d)) ((k:Int)+1) ((m:Int)+1) path).1=rt))):=fun _ _=>rfl;have co:Hid (Lt.dI (rt.map bN).toArray):=Lt.dI.of ay;have bj:=af ay;have cn:Hid (Lt.dI ((ef (aQ d)).map bN).toArray):=Lt.dI.of (kl _);unfold aY at CL Y⊢;generalize bB:(ef (aQ d)).map bN=ct at*;generalize a4:rt.map bN=aG at*;have bk:=af a4;generalize nZ w rt i n (aQ d) path=PP at*;clear bA V ch bJ ci ay bB a4;go_enter Tryz.func17,Tryz.ntmps17;go_wp2_with(refine aB rfl 38 (.tmp 0) rfl aG.toArray rfl ?_);intro w1 n1;have bb:=af n1;clear n1;generalize av:w.heap.size=g2 at*;have bY:Hid (aq w1 g2 38 aG.toArray):=by have q:=bb.out.aE;rw[av]at q;exact q
 have cq:Hid (w.heap.size≤g2):=by rw[Hid,av];exact Nat.le_refl _
 clear av;go_wp2_with(refine aB rfl 33 (.tmp 1) rfl [Value.int .i64 i, .int .i64 n, .string d, .slice A len c].toArray rfl ?_);intro w2 cj;have aX:=af cj;clear cj;generalize a8:w1.heap.size=H at*;have cc:Hid (aq w2 H 33 [Value.int .i64 i, .int .i64 n, .string d, .slice A len c].toArray):=by have q:=aX.out.aE;rw[a8]at q;exact q
 clear a8;go_wp2_with(refine an rfl 46 rfl ep kC bX.toArray rfl ?_);intro w3 n3;have a0:=af n3;clear n3;generalize a6:w2.heap.size=g4 at*;have aI:Hid (aq w3 g4 46 bX.toArray):=by have q:=a0.out.aE;rw[a6]at q;exact q
 have Z:Hid (Fr ag w w3):=(bb.out.fr.trans aX.out.fr).trans a0.out.fr;have E:Hid (w.heap.size≤g4):=by have:=(bb.out.fr.trans aX.out.fr).size;simp only[Hid];omega
 clear a6;have bZ:=af ((bY.out.fr aX.out.fr (fun x=>x)).fr a0.out.fr (fun x=>x));have a1:=af (cc.out.fr a0.out.fr (fun x=>x));clear bb aX a0 bY cc;have M:Hid (∀W,Fr ag w3 W→W.cell? {block:=H,off:=0}=some (.int .i64 i)∧W.cell? {block:=H,off:=1}=some (.int .i64 n)∧W.cell? {block:=H,off:=2}=some (.string d)∧W.cell? {block:=H,off:=3}=some (.slice A len c)):=fun W f=>⟨(a1.out.fr f (fun x=>x)).cell 0,(a1.out.fr f (fun x=>x)).cell 1,(a1.out.fr f (fun x=>x)).cell 2,(a1.out.fr f (fun x=>x)).cell 3⟩;obtain⟨cM,cO,cP,x3⟩:=M.out _ az;by_cases R:n<1;·have t1:decide (n<1)=true:=decide_eq_true R;have G:=af (l.out 2 (by rw[D.out,if_pos (by omega)]) (by decide));clear l r;go_wp2_with(first|(refine wpList_buildTo rfl 46 #[] rfl bX.toArray gG ?_)|(refine ai rfl 46 (.tmp 4) _ rfl g4 bX.toArray rfl rfl _ _ aI.out bL rfl gL ?_));intro t C y;have I:=af C;have J:Hid (Fr ag w t):=Z.out.aw y (fun i ax e=>by have ad:i=g4:=e;have:=E.out;omega);clear C y;go_wp2;exact bodyPost_ret (bh (fn:=Tryz.f17) (p:=4) (q:=5) (ty:=46) Tryz.results17 _ t _ 46 bX.toArray (0,0) _ rfl I.out Tryz.underlying46 rfl bL _ rfl) rfl (G.out t J.out)
 have t1:decide (n<1)=false:=decide_eq_false R;by_cases T:65536<n;·have t2:decide (65536<n)=true:=decide_eq_true T;have G:=af (l.out 2 (by rw[D.out,if_pos (by omega)]) (by decide));clear l r;go_wp2_with(first|(refine wpList_buildTo rfl 46 #[] rfl bX.toArray gG ?_)|(refine ai rfl 46 (.tmp 4) _ rfl g4 bX.toArray rfl rfl _ _ aI.out bL rfl gL ?_));intro t C y;have I:=af C;have J:Hid (Fr ag w t):=Z.out.aw y (fun i ax e=>by have ad:i=g4:=e;have:=E.out;omega);clear C y;go_wp2;exact bodyPost_ret (bh (fn:=Tryz.f17) (p:=4) (q:=5) (ty:=46) Tryz.results17 _ t _ 46 bX.toArray (0,0) _ rfl I.out Tryz.underlying46 rfl bL _ rfl) rfl (G.out t J.out)
 have t2:decide (65536<n)=false:=decide_eq_false T;by_cases ak:i<0;·have t3:decide (i<0)=true:=decide_eq_true ak;have G:=af (l.out 2 (by rw[D.out,if_pos (by omega)]) (by decide));clear l r;go_wp2_with(first|(refine wpList_buildTo rfl 46 #[] rfl bX.toArray gG ?_)|(refine ai rfl 46 (.tmp 4) _ rfl g4 bX.toArray rfl rfl _ _ aI.out bL rfl gL ?_));intro t C y;have I:=af C;have J:Hid (Fr ag w t):=Z.out.aw y (fun i ax e=>by have ad:i=g4:=e;have:=E.out;omega);clear C y;go_wp2;exact bodyPost_ret (bh (fn:=Tryz.f17) (p:=4) (q:=5) (ty:=46) Tryz.results17 _ t _ 46 bX.toArray (0,0) _ rfl I.out Tryz.underlying46 rfl bL _ rfl) rfl (G.out t J.out)
 have t3:decide (i<0)=false:=decide_eq_false ak;by_cases a2:n≤i;·have t4:decide (n≤i)=true:=decide_eq_true a2;have G:=af (l.out 2 (by rw[D.out,if_pos (by omega)]) (by decide));clear l r;go_wp2_with(first|(refine wpList_buildTo rfl 46 #[] rfl bX.toArray gG ?_)|(refine ai rfl 46 (.tmp 4) _ rfl g4 bX.toArray rfl rfl _ _ aI.out bL rfl gL ?_));intro t C y;have I:=af C;have J:Hid (Fr ag w t):=Z.out.aw y (fun i ax e=>by have ad:i=g4:=e;have:=E.out;omega);clear C y;go_wp2;exact bodyPost_ret (bh (fn:=Tryz.f17) (p:=4) (q:=5) (ty:=46) Tryz.results17 _ t _ 46 bX.toArray (0,0) _ rfl I.out Tryz.underlying46 rfl bL _ rfl) rfl (G.out t J.out)
 have t4:decide (n≤i)=false:=decide_eq_false a2;have ac:Hid (¬(n<1∨65536<n∨i<0∨n≤i)):=by simp only[Hid];omega
 go_wp2_with fail;refine(b3.out _ Z.out).mono ?_;rintro e X⟨cs,a,ae,rfl,am,f4,K⟩;have b9:=af (Z.out.trans f4);have bc:=af am;have bp:=af (aI.out.fr f4 (fun x=>x));have b0:=af (bZ.out.fr f4 (fun x=>x));have aL:Hid (∀W,Fr ag X W→W.cell? {block:=H,off:=0}=some (.int .i64 i)∧W.cell? {block:=H,off:=1}=some (.int .i64 n)∧W.cell? {block:=H,off:=2}=some (.string d)∧W.cell? {block:=H,off:=3}=some (.slice A len c)):=fun W f=>M.out W (f4.trans f);have N:=af K;have a9:=am.len;have F:=af a9;clear K am f4 cM cO cP x3 M a1 Z aI bZ b3 a9;go_wp2_with(refine an rfl 46 rfl ep kC bX.toArray rfl ?_);intro cK n5;have bn:=af n5;clear n5;generalize a7:X.heap.size=g6 at*;have b5:Hid (aq cK g6 46 bX.toArray):=by have q:=bn.out.aE;rw[a7]at q;exact q
 have bg:Hid (X.heap.size≤g6∧g4<g6∧w.heap.size≤g6):=by have:=bp.out.lt;have:=b9.out.size;simp only[Hid];omega
 clear a7;go_wp2_with(refine ai rfl 46 (.tmp 6) _ rfl g6 cs.toArray rfl rfl _ _ b5.out (qq _ F.out) (by rw[List.size_toArray,List.size_toArray,F.out];rfl) (ActV.one bc.out) ?_);intro cL ce f6;have b6:=af ce;have aA:Hid (Fr ag X cL):=bn.out.fr.aw f6 (fun i ax e=>by have ad:i=g6:=e;have:=bg.out;omega);have aN:=af (b9.out.trans aA.out);have aO:=af aA.out;have bS:=af (bc.out.ao aA.out);have bq:=af (bp.out.fr aA.out (fun x=>x));have b1:=af (b0.out.fr aA.out (fun x=>x));clear ce f6 bn b5 aA bp b0 bc;by_cases ap:ae=0;case neg=>
  obtain⟨rfl,a5,_⟩:ae=3∧nI (aQ d)=none∧a=oV:=by
   rcases N.out with⟨h,_⟩|h;·exact absurd h ap
   ·exact h
  have bd:=af a5;have t5:((3:Int)!=0)=true:=rfl;clear ap a5 N;have G:=af (l.out 3 (by rw[D.out,if_neg ac.out,if_pos bd.out]) (by decide));clear l r;go_wp2_with(first|(refine wpList_buildTo rfl 46 #[] rfl bX.toArray gG ?_)|(refine ai rfl 46 (.tmp 4) _ rfl g4 bX.toArray rfl rfl _ _ bq.out bL rfl gL ?_));intro t C y;have I:=af C;have J:Hid (Fr ag w t):=aN.out.aw y (fun i ax e=>by have ad:i=g4:=e;have:=E.out;omega);clear C y;go_wp2;exact bodyPost_ret (bh (fn:=Tryz.f17) (p:=4) (q:=5) (ty:=46) Tryz.results17 _ t _ 46 bX.toArray (0,0) _ rfl I.out Tryz.underlying46 rfl bL _ rfl) rfl (G.out t J.out)
 subst ap;have t5:((0:Int)!=0)=false:=rfl;have aa:Hid (nI (aQ d)=some a):=by
  rcases N.out with⟨_,h⟩|⟨h,_⟩;·exact h
  ·cases h
 clear N;obtain⟨m,rfl⟩:∃m:Nat,n=m:=⟨n.toNat,by omega⟩;obtain⟨k,rfl⟩:∃k:Nat,i=k:=⟨i.toNat,by omega⟩;have bi:Hid (m≤65536∧k≤65536):=by simp only[Hid];omega
 have cv:Hid (IntKind.i64.wrap ((k:Int)+1)=(k:Int)+1):=IntWalk.i64_in _ (by have:=bi.out;omega);have cw:Hid (IntKind.i64.wrap ((m:Int)+1)=(m:Int)+1):=IntWalk.i64_in _ (by have:=bi.out;omega);have aK:=af (fun w' f=>Y.out k m w' f bi.out.1);have aT:=af (aS.out ((k:Int)+1) ((m:Int)+1));have aU:=af (aV.out k m);have ba:Hid (Lt.dI ((Lt.dp (ef (aQ d)) ((k:Int)+1) ((m:Int)+1) path).1.map bN).toArray):=Lt.dI.of aT.out;generalize(Lt.dp (ef (aQ d)) ((k:Int)+1) ((m:Int)+1) path).2.2=U at*;generalize(Lt.dp (ef (aQ d)) ((k:Int)+1) ((m:Int)+1) path).1=fr at*;generalize a3:fr.map bN=L at*;have bf:=af a3;clear a3 Y aS aV t1 t2 t3 t4 R T ak a2;have M:=af (fun W f=>aL.out W f);have bo:Hid (∀w:World,(binOp .neq 38 (.agg L.toArray) (.agg aG.toArray)).run Tryz.prog w= .ok (.bool (!decide (fr=rt))) w):=fun w=>by
  rw[←bf.out,←bk.out];exact Lf w _ Tryz.underlying38 fr rt aT.out bj.out
 have bl:Hid ((Tryz.prog.info? 38).map (·.size)=some L.length):=by have q:=ba.out.info;rw[List.size_toArray]at q;exact q
 have bm:Hid ((Tryz.prog.info? 38).map (·.size)=some aG.length):=by have q:=co.out.info;rw[List.size_toArray]at q;exact q
 go_upto_region 6 with fail;refine xK 18 38 [fun v=>v= .pointer (some ⟨H,2,none⟩),fun v=>v= .string d,fun v=>v= .agg ct.toArray,fun v=>v= .pointer (some ⟨H,0,none⟩),fun v=>v= .int .i64 (k:Int),fun v=>v= .int .i64 ((k:Int)+1),fun v=>v= .pointer (some ⟨H,1,none⟩),fun v=>v= .int .i64 (m:Int),fun v=>v= .int .i64 ((m:Int)+1),fun v=>v= .pointer (some ⟨H,3,none⟩),fun v=>v= .slice A len c,fun v=>v= .tuple #[.agg L.toArray, .int .i64 U],fun v=>v= .tuple #[.agg L.toArray, .int .i64 U],fun v=>v= .agg L.toArray,fun v=>v= .int .i64 U,fun _=>True,fun _=>True,fun v=>v= .int .i64 U] [] [(15,aD)] [(16,15,L.toArray)] (by kernel_rfl) (by kernel_rfl) (by kernel_rfl) trivial ?_ ?_
 ·refine⟨fun u w' o b s=>?_,fun u w' o b s=>?_,fun u w' o b s=>?_,fun u w' o b s=>?_,fun u w' o b s=>?_,fun u w' o b s=>?_,fun u w' o b s=>?_,fun u w' o b s=>?_,fun u w' o b s=>?_,fun u w' o b s=>?_,fun u w' o b s=>?_,fun u w' o b s=>?_,fun u w' o b s=>?_,fun u w' o b s=>?_,fun u w' o b s=>?_,fun u w' o b=>?_,fun u w' g o b cH bK=>?_,fun u w' o b s=>?_,trivial⟩;all_goals simp only[bw,bC,bD,bE,ar,Act.put,bF,bG,bH,Nat.reduceAdd,Nat.zero_add]
  ·clear b s;refine aj ?_;go_simp;exact⟨_,rfl,gO⟩
  ·have cz:u 0=_:=b 0 (by kernel_rfl);clear b s;simp only[cz];refine aj ?_;have q:=M.out _ (aO.out.trans o);obtain⟨bM,bO,bQ,bR⟩:=q;go_simp;exact⟨_,rfl,gO⟩
  ·have R:u 1=_:=b 1 (by kernel_rfl);clear b s;simp only[R];refine aj ?_;go_simp;refine(CL.out _ (aN.out.trans o)).mono ?_;rintro e X⟨rfl,f4⟩;exact⟨_,rfl,rfl,trivial,f4⟩
  ·clear b s;refine aj ?_;go_simp;exact⟨_,rfl,gO⟩
  ·have ak:u 3=_:=b 3 (by kernel_rfl);clear b s;simp only[ak];refine aj ?_;have q:=M.out _ (aO.out.trans o);obtain⟨bM,bO,bQ,bR⟩:=q;go_simp;exact⟨_,rfl,gO⟩
  ·have a2:u 4=_:=b 4 (by kernel_rfl);clear b s;simp only[a2];refine aj ?_;have cS:=cv.out;go_simp;exact⟨_,rfl,gO⟩
  ·clear b s;refine aj ?_;go_simp;exact⟨_,rfl,gO⟩
  ·have cB:u 6=_:=b 6 (by kernel_rfl);clear b s;simp only[cB];refine aj ?_;have q:=M.out _ (aO.out.trans o);obtain⟨bM,bO,bQ,bR⟩:=q;go_simp;exact⟨_,rfl,gO⟩
  ·have cC:u 7=_:=b 7 (by kernel_rfl);clear b s;simp only[cC];refine aj ?_;have cT:=cw.out;go_simp;exact⟨_,rfl,gO⟩
  ·clear b s;refine aj ?_;go_simp;exact⟨_,rfl,gO⟩
  ·have cE:u 9=_:=b 9 (by kernel_rfl);clear b s;simp only[cE];refine aj ?_;have q:=M.out _ (aO.out.trans o);obtain⟨bM,bO,bQ,bR⟩:=q;go_simp;exact⟨_,rfl,gO⟩
  ·have T:u 2=_:=b 2 (by kernel_rfl);have cA:u 5=_:=b 5 (by kernel_rfl);have cD:u 8=_:=b 8 (by kernel_rfl);have bs:u 10=_:=b 10 (by kernel_rfl);clear b s;simp only[T,cA,cD,bs];refine aj ?_;go_simp;refine(aK.out _ (aN.out.trans o)).mono ?_;rintro e X⟨rfl,f4⟩;exact⟨_,rfl,rfl,trivial,f4⟩
  ·have bt:u 11=_:=b 11 (by kernel_rfl);clear b s;simp only[bt];refine aj ?_;go_simp;exact⟨_,rfl,gO⟩
  ·have ah:u 12=_:=b 12 (by kernel_rfl);clear b s;simp only[ah];refine aj ?_;go_simp;exact⟨_,rfl,gO⟩
  ·have ah:u 12=_:=b 12 (by kernel_rfl);clear b s;simp only[ah];refine aj ?_;go_simp;exact⟨_,rfl,gO⟩
  ·clear b;refine aj ?_;refine lP 38 rfl aZ iR aD rfl ?_;intro X n4;exact⟨_,rfl,trivial,trivial,rfl,n4⟩
  ·have bu:u 13=_:=b 13 (by kernel_rfl);clear b;simp only[bu,cH];refine aj ?_;obtain⟨cs,hm,bK⟩:=bK;obtain rfl:cs=aD:=by simpa using hm
   refine Lt.oU 38 (.tmp 8) (.tmp 53) rfl g L.toArray rfl rfl _ _ bK ba.out.info ba.out.zero ba.out.one ?_;intro X b4 f4;exact⟨_,rfl,trivial,b4,f4⟩
  ·have bv:u 14=_:=b 14 (by kernel_rfl);clear b s;simp only[bv];refine aj ?_;go_simp;exact⟨_,rfl,gO⟩
 intro u w' o b cf cG;have bz:u 17=_:=b 17 (by omega);obtain⟨g8,bx,cJ,b8⟩:=cf 15 aD (by simp);have b2:Hid (aq w' g8 38 L.toArray):=b8;have cQ:=af o;have ca:=af (aN.out.trans o);have aJ:=af (b1.out.fr o (fun x=>x));have cd:=af (bq.out.fr o (fun x=>x));have b7:=af (b6.out.fr o (fun x=>x));have bU:=af (bS.out.ao o);clear b cf cG o b8 cJ CL aK M aL aO aN b1 bq b6 bS;simp only[bw,bC,bD,bE,ar,Act.put,bF,bG,bH,dj,dk,Nat.reduceAdd,Nat.zero_add,bz,bx];generalize w'=cR at*;obtain⟨P,cg⟩:∃P,(U !=0)=P:=⟨_,rfl⟩;have ab:=af cg;obtain⟨Q,bI⟩:∃Q,(!decide (fr=rt))=Q:=⟨_,rfl⟩;have aW:=af bI;rw[bI]at bo;clear cg bI;obtain⟨B,al⟩:∃z:Bool,(bif P then true else Q)=z:=⟨_,rfl⟩;have HB:=af al;clear al;go_upto_region 7 with fail;refine ln 7 [.int .i64 U, .bool P, .bool P,bif P then undef else .agg L.toArray,bif P then undef else .agg aG.toArray,bif P then undef else .bool Q, .bool B] ?zC ?_;case zC=>
  refine⟨?zJ,?zD,?zE,?zF,?zG,?zH,?zI,trivial⟩;all_goals intro u w' o b
  all_goals simp only[z1,z2,z3,z4,ar,Act.put,z5,z6,z7,Nat.reduceAdd,Nat.zero_add]
  case zD=>
   simp only[show u 0=_ from b 0];refine aF ?_;have t1:=ab.out;go_simp;exact aM
  case' zE=>simp only[show u 1=_ from b 1]
  case zF=>
   simp only[show u 2=_ from b 2];cases P;case true=>exact bV
   refine aF ?_;exact au _ _ rfl ⟨g8,0,none⟩ rfl L _ (kX (b2.out.fr o (fun x=>x))) Tryz.underlying38 rfl bl.out aM
  case zG=>
   simp only[show u 2=_ from b 2];cases P;case true=>exact bV
   refine aF ?_;exact au _ _ rfl ⟨g2,0,none⟩ rfl aG _ (kX (aJ.out.fr o (fun x=>x))) Tryz.underlying38 rfl bm.out aM
  case zH=>
   simp only[show u 3=_ from b 3,show u 4=_ from b 4,show u 2=_ from b 2];cases P;case true=>exact bV
   refine aF ?_;exact mF _ _ _ _ _ rfl _ _ rfl rfl Tryz.eqGuardType38 _ (bo.out _) aM
  case zI=>
   simp only[show u 2=_ from b 2,show u 5=_ from b 5];cases P<;>exact aF (by go_simp;exact⟨by rw[←HB.out];rfl,az⟩)
  all_goals
   try simp only[cond]
   refine aF ?_;go_simp;exact aM
 intro w' o;simp only[z1,z2,z3,z4,ar,Act.put,z5,z6,z7,z8,z9,jX,jY,Nat.reduceAdd,Nat.zero_add];have cb:=af (ca.out.trans o);have br:=af (cd.out.fr o (fun x=>x));have cm:=af (b7.out.fr o (fun x=>x));have bW:=af (bU.out.ao o);have O:Hid (xj rt (k:Int) (m:Int) (aQ d) path=!B):=by
  rw[Hid,aU.out,←HB.out];have cx:decide (U=0)=!P:=by
   rw[←ab.out,bne,Bool.not_not];by_cases h:U=0<;>simp[h]
  have cy:decide (fr=rt)=!Q:=by rw[←aW.out,Bool.not_not]
  rw[cx,cy];cases P<;>cases Q<;>rfl
 clear o HB aU ab aW bo ca cd b7 bU b2 aJ;cases al:B;case true=>
  have aP:Hid (sx rt (k:Int) (m:Int) (aQ d) path=35):=by
   rw[D.out,if_neg ac.out,if_neg (by rw[aa.out];simp),O.out,al];rfl
  clear al O D;have G:=af (l.out 35 aP.out (by decide));clear l r;go_wp2_with(first|(refine wpList_buildTo rfl 46 #[] rfl bX.toArray gG ?_)|(refine ai rfl 46 (.tmp 4) _ rfl g4 bX.toArray rfl rfl _ _ br.out bL rfl gL ?_));intro t C y;have I:=af C;have J:Hid (Fr ag w t):=cb.out.aw y (fun i ax e=>by have ad:i=g4:=e;have:=E.out;omega);clear C y;go_wp2;exact bodyPost_ret (bh (fn:=Tryz.f17) (p:=4) (q:=5) (ty:=46) Tryz.results17 _ t _ 46 bX.toArray (0,0) _ rfl I.out Tryz.underlying46 rfl bL _ rfl) rfl (G.out t J.out)
 have be:Hid (sx rt (k:Int) (m:Int) (aQ d) path=0):=by
  rw[D.out,if_neg ac.out,if_neg (by rw[aa.out];simp),O.out,al];rfl
 clear al O D l;have cr:Hid ((Tryz.prog.info? 46).map (·.size)=some cs.length):=by rw[Hid,F.out];exact bL
 have cu:Hid (cs.toArray.all (·.oneCell')=true):=ActV.one bW.out;go_wp2_with(refine aC rfl 46 (.tmp 6) rfl ⟨g6,0,none⟩ rfl cs _ ?zA Tryz.underlying46 rfl cr.out (aR.go ?zB));case zA=>
  intro j x cI;rw[Addr.add_mid,Nat.zero_add,cm.out.cell j,bP];exact cI
 unfold aR;go_wp2_with(refine ai rfl 46 (.tmp 4) _ rfl g4 cs.toArray rfl rfl _ _ br.out (qq _ F.out) (by rw[List.size_toArray,List.size_toArray,F.out];rfl) cu.out ?_);intro t C y;have cl:=af C;have cp:Hid (Fr ag w t):=cb.out.aw y (fun i ax e=>by have ad:i=g4:=e;have:=E.out;omega);have ck:Hid (cF t cs a):=bW.out.cN y (pI br.out (by decide) (by decide) (by decide));have G:=af (r.out cs a t be.out aa.out ck.out cp.out);clear C y;go_wp2;exact bodyPost_ret (bh (fn:=Tryz.f17) (p:=4) (q:=5) (ty:=46) Tryz.results17 _ t _ 46 cs.toArray (0,0) _ rfl cl.out Tryz.underlying46 rfl (qq _ F.out) _ rfl) rfl G.out
def uX(L:List ActV)(k:dJ)(i:Int)(b:Bool):Prop:=(b=true∧∃(j:Nat)(a:ActV),i=(j:Int)∧L[j]? =some a∧a.key=k)∨(b=false∧∀a∈L,a.key≠k)
def sE(L:List ActV)(k:dJ)(lo b:Nat):Prop:=(∀t a,t<lo→L[t]? =some a→ew a.key k<0)∧(∀t a,b≤t→L[t]? =some a→0≤ew a.key k)
open Classical in
noncomputable def Gu(L:List ActV)(k:dJ):Nat:=if h:∃m,m≤L.length∧sE L k m m then h.choose else 0
theorem Gv{L:List ActV}{k:dJ}{m n:Nat}(hm:m≤L.length)(b:sE L k m m)(c:sE L k n n):m≤n:=by
 rcases Nat.lt_or_ge n m with h|h
 ·have a:n<L.length:=by omega
  have:=b.1 n _ h (List.getElem?_eq_getElem a);have:=c.2 n _ (Nat.le_refl _) (List.getElem?_eq_getElem a);omega
 ·exact h
theorem LX{L:List ActV}{k:dJ}{m:Nat}(hm:m≤L.length)(h:sE L k m m):Gu L k=m:=by
 have a:∃m,m≤L.length∧sE L k m m:=⟨m,hm,h⟩;unfold Gu;rw[dif_pos a];exact Nat.le_antisymm (Gv a.choose_spec.1 a.choose_spec.2 h) (Gv hm h a.choose_spec.2)
def Gz(L:List ActV)(k:dJ):Bool:=L.any (fun a=>ew a.key k==0)
theorem Ma{L:List ActV}{k:dJ}{i:Int}{b:Bool}(h:uX L k i b):Gz L k=b:=by
 rcases h with⟨rfl,j,a,_,d,rfl⟩|⟨rfl,h⟩;·exact List.any_eq_true.2 ⟨a,List.mem_of_getElem? d,beq_iff_eq.2 (jA.refl _)⟩
 ·rw[Gz,List.any_eq_false];intro a c e;exact h a c (jA.eq _ _ (beq_iff_eq.1 e))
def sK(w:World)(L:List ActV)(k:dJ)(e:Ending)(w':World):Prop:=e= .returned (.tuple #[.int .i64 (Gu L k:Int), .bool (Gz L k)])∧Fr ag w w'∧uX L k (Gu L k) (Gz L k)
theorem sK.of{w w':World}{L:List ActV}{k:dJ}{m:Nat}{b:Bool}(hm:m≤L.length)(a:sE L k m m)(c:Fr ag w w')(h:uX L k (m:Int) b):sK w L k (.returned (.tuple #[.int .i64 (m:Int), .bool b])) w':=by
 rw[sK,LX hm a,Ma h];exact⟨rfl,c,h⟩
def Gj(w:World)(E:List Ent)(e:Ending)(w':World):Prop:=∃h T,e= .returned (.tuple #[.pointer (some ⟨h,0,none⟩), .int .i64 0])∧ez w' h E [] T∧Fr ag w w'∧∀k,T k→w.heap.size≤k
theorem Jk{w:World}{p:Nat}(h:aq w p 180 #[.slice none 0 0, .map none]):Lt.dZ w p none 0 0 none [] (Lt.bp 0):=
 ⟨h,⟨rfl, .inl ⟨rfl,rfl⟩⟩,rfl,(fun _ b=>by cases b), .inr ⟨rfl,fun l i a=>by
  have c:=a.2;have:1≤(i+1)*2^l:=Nat.mul_pos (by omega) (Nat.two_pow_pos l);omega⟩⟩
theorem yi(E:List Ent)(b:Nat)(w:World)(ad:eJ w b E)(aV:eh w)(z:bT w)(aT:cE 24 E):
  Calls Tryz.prog 29 #[.pointer (some ⟨b,0,none⟩)] w (Gj w E):=by
 have aC:=af ad;have bc:=af z;have L:Hid (∀w',Fr ag w w'→Calls Tryz.prog 75 #[.pointer (some ⟨b,0,none⟩)] w' (aH w' (aY (eT (dO E))))):=fun w' f=>Hj E b w' (ad.ao f) (aV.ao f) (z.ao f) aT;have a:=iy (dO E);have c:=af a;have CL:Hid (∀w',Fr ag w w'→Calls Tryz.prog 76 #[.string ({data:=#[0]}++⟨(eT (dO E)).toArray⟩)] w' (aH w' (aY (oF E)))):=fun w' f=>by
  have aS:eV ({data:=#[0]}++⟨(eT (dO E)).toArray⟩)=0::eT (dO E):=by
   have h:aQ ({data:=#[0]}++⟨(eT (dO E)).toArray⟩)=aQ ⟨#[0]⟩++aQ ⟨(eT (dO E)).toArray⟩:=yV _ _;have a7:aQ ⟨(eT (dO E)).toArray⟩=eT (dO E):=tp _;rw[a7]at h;exact h
  have h:=Lt.yj ({data:=#[0]}++⟨(eT (dO E)).toArray⟩) w' (z.ao f) (by
   have:=dQ ({data:=#[0]}++⟨(eT (dO E)).toArray⟩);rw[aS,List.length_cons,a]at this;omega);rw[aS]at h;exact h
 have a3:Hid (Lt.dI ((oF E).map bN).toArray):=Lt.dI.of (rf E);have l:Hid (Lt.dI ((eT (dO E)).map bN).toArray):=Lt.dI.of a;have au:Hid (∀p w',w.heap.size≤p→Lt.dZ w' p none 0 0 none [] (Lt.bp 0)→Fr ag w w'→Calls Tryz.prog 84 #[.pointer (some ⟨p,0,none⟩),aY (oF E)] w' (Lt.nC w' p none 0 0 none [] (oF E))):=fun p w' ah aj f=>
  Lt.tD p none 0 0 none [] (oF E) w' aj (rf E) (by omega) (z.ao f) (fun k B aj=>by
   have a9:k<w.heap.size:=by first|(rcases B with rfl|rfl;exact z.EF;exact z.EG)
   rcases aj with rfl|h|h;·omega
   ·cases h
   ·simp[Value.ownBlock]at h);have W:Hid (db E []=[oF E]):=rfl;have aN:Hid (∀j v,((eT (dO E)).map bv)[j]? =some v→(((eT (dO E)).map bN).toArray)[j]? =some v):=fun j v h=>by rw[bP];exact h
 obtain⟨dl,I⟩:∃dl,eT (dO E)=dl:=⟨_,rfl⟩;rw[I]at L c CL l aN;obtain⟨xs,n⟩:∃x:ByteArray,x=⟨dl.toArray⟩:=⟨_,rfl⟩;have aa:=af n;rw[←n]at CL;have ab:Hid (xs.size=32):=by rw[Hid,n];simp only[ByteArray.size,List.size_toArray];exact c.out
 generalize oF E=bb at*;unfold aY at L CL;generalize G:(dl.map bN).toArray=a5 at*;have a4:=af G;generalize H:(bb.map bN).toArray=a6 at*;have Y:=af H;clear ad aV z aT I n a G H;go_enter Tryz.func29,Tryz.ntmps29;go_wp2_with fail;refine(Lt.rJ _).mono ?_;rintro e w1⟨rfl,m⟩;have t:Hid (aq w1 w.heap.size 180 #[.slice none 0 0, .map none]):=by rw[m];exact aq.new _ _ _
 have ay:Hid (Fr ag w w1):=by rw[m];exact az.alloc _
 have s:Hid (w1.heap.size=w.heap.size+1):=by rw[m];simp[Hid]
 clear m;have X:Hid (w.heap.size≤w.heap.size):=Nat.le_refl _;generalize ah:w.heap.size=p at t s⊢;have N:=af ah;clear ah X;go_wp2_with(refine aB rfl 111 (.tmp 12) rfl #[.pointer (some ⟨b,0,none⟩), .slice none 0 0, .slice none 0 0, .pointer (some ⟨b,0,none⟩), .pointer (some ⟨p,0,none⟩)] rfl ?_);intro w2 aX;have O:=af aX;clear aX;generalize aW:w1.heap.size=h at*;have am:Hid (aq w2 h 111 #[.pointer (some ⟨b,0,none⟩), .slice none 0 0, .slice none 0 0, .pointer (some ⟨b,0,none⟩), .pointer (some ⟨p,0,none⟩)]):=by have q:=O.out.aE;rw[aW]at q;exact q
 have aG:Hid (p<h):=by have:=s.out;simp only[Hid];omega
 clear aW;have R:=af (ay.out.trans O.out.fr);have aJ:=af (t.out.fr O.out.fr (fun x=>x));clear O ay t s;go_wp2_with fail;refine(L.out _ R.out).mono ?_;rintro e w3⟨rfl,f3⟩;have S:=af (R.out.trans f3);have P:=af (am.out.fr f3 (fun x=>x));have ac:=af (aJ.out.fr f3 (fun x=>x));clear f3 L R am aJ;go_wp2_with(refine an rfl 37 rfl aZ MU aD rfl ?_);intro a0 n4;have F:=af n4;clear n4;generalize J:w3.heap.size=g5 at*;have av:Hid (aq a0 g5 37 aD):=by have q:=F.out.aE;rw[J]at q;exact q
 have r:Hid (w.heap.size≤g5∧p<g5∧h<g5):=by have:=S.out.size;have:=P.out.lt;have:=ac.out.lt;simp only[Hid];omega
 clear J;go_wp2_with(refine ai rfl 37 (.tmp 5) _ rfl g5 a5 rfl rfl _ _ av.out l.out.Nn l.out.zero l.out.one ?_);intro ak b5 f5;have ax:=af b5;have Q:=af ((P.out.fr F.out.fr (fun x=>x)).fr f5 (fun e=>by have aR:h=g5:=e;have:=r.out;omega));have aK:=af ((ac.out.fr F.out.fr (fun x=>x)).fr f5 (fun e=>by have aR:p=g5:=e;have:=r.out;omega));have T:Hid (Fr ag w ak):=(S.out.trans F.out.fr).aw f5 (fun i a8 e=>by have aR:i=g5:=e;have:=r.out;omega);clear b5 f5 F av S P ac;have aP:Hid (∀w',Fr ag ak w'→w'.cell? {block:=h,off:=4}=some (.pointer (some ⟨p,0,none⟩))):=fun w' f=>(Q.out.fr f (fun x=>x)).cell 4;have aI:Hid (∀w',Fr ag ak w'→Rd w' (fun _=>True) 1 (some ⟨g5,0,none⟩) 32 (dl.map bv)):=fun w' f=>⟨by rw[List.length_map,c.out],fun _=>⟨_,rfl,trivial,fun j v ba=>by
  rw[Addr.add_mid,Nat.zero_add,(ax.out.fr f (fun x=>x)).cell j];exact aN.out j v ba⟩⟩;go_upto_region 5 with fail;refine jn 8 [.pointer (some ⟨h,0,none⟩), .pointer (some ⟨h,0,none⟩), .pointer (some ⟨h,4,none⟩), .pointer (some ⟨p,0,none⟩), .slice (some ⟨g5,0,none⟩) 32 32, .string xs, .string ({data:=#[0]}++xs), .agg a6] ?zA ?_;case zA=>
  refine⟨?zH,?zB,?zC,?zD,?zI,?zE,?zF,?zG,trivial⟩;all_goals intro u w' o C
  all_goals simp only[z1,z2,z3,z4,ar,Act.put,z5,z6,z7,Nat.reduceAdd,Nat.zero_add]
  case' zB=>simp only[show u 0=_ from C 0]
  case' zC=>simp only[show u 1=_ from C 1]
  case zD=>
   simp only[show u 2=_ from C 2];refine aF ?_;have q:=aP.out _ o;go_simp;exact aM
  case zE=>
   simp only[show u 4=_ from C 4];refine aF ?_;have ae:=kx w' _ _ 32 32 _ (aI.out _ o);rw[←aa.out]at ae;go_simp;exact aM
  case zF=>
   simp only[show u 5=_ from C 5];refine aF ?_;have y:¬9223372036854775807<1+xs.size:=by have:=ab.out;omega
   go_simp;exact aM
  case zG=>
   simp only[show u 6=_ from C 6];refine aF ?_;go_simp;refine(CL.out _ (T.out.trans o)).mono ?_;rintro e a0⟨rfl,f4⟩;exact⟨rfl,f4⟩
  all_goals
   refine aF ?_;go_simp;exact aM
 intro w' o;simp only[z1,z2,z3,z4,ar,Act.put,z5,z6,z7,z8,z9,jX,jY,Nat.reduceAdd,Nat.zero_add];have M:=af (T.out.trans o);have ap:=af (Q.out.fr o (fun x=>x));have aL:=af (aK.out.fr o (fun x=>x));have U:=af (aC.out.ao M.out);clear o T Q aK aP aI CL ax;have g:=af (au.out p _ (by have:=N.out;omega) (Jk aL.out) M.out);unfold aY at g;rw[Y.out]at g;go_wp2_with fail;refine g.out.mono ?_;rintro e a1⟨rfl,al,aO,K,aU,A,d⟩;have aA:Hid (Fr ag w a1):=M.out.aw A (fun i a8 e=>by
  have:=N.out;rcases e with e|e|e;·omega
  ·cases e
  ·simp[Value.ownBlock]at e);have a2:=af (ap.out.fr A (fun e=>by
  have:=aG.out;rcases e with e|e|e;·omega
  ·cases e
  ·simp[Value.ownBlock]at e));have Z:=af aU;have V:Hid (∀k,Lt.TB p al (0+1) aO K k→w.heap.size≤k):=fun k B=>by
  have:=N.out;rcases d k B with h|h
  ·rcases h with h|h|h;·omega
   ·cases h
   ·simp[Value.ownBlock]at h
  ·have:=M.out.size;omega
 have D:Hid (eJ a1 b E):=aC.out.ao aA.out;clear aU A d g au ap aL U;go_wp2;go_ret2;refine⟨h,_,rfl,⟨b,b,p, .slice none 0 0, .slice none 0 0,[],al,aO,K,⟨a2.out,D.out,jZ.nil _,⟨rfl, .inl ⟨rfl,rfl⟩⟩,rfl,(fun i k B=>by simp at B),D.out,?_⟩,rfl⟩,aA.out,fun k B=>?_⟩;·rw[W.out];exact Z.out
 ·rcases B with y|y|y|y;·have:=aG.out;have:=N.out;omega
  ·simp[Value.ownBlock]at y
  ·simp[Value.ownBlock]at y
  ·exact V.out k y
end Go.Proofs.YtphjagkehiklkaaGreatDoor
