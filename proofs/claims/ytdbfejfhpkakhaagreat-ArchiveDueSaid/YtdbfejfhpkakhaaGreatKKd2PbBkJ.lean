/- Contracts and plain laws that the last text rests on. Conditions: each theorem states its own. -/
import Derived.Test.YtdbfejfhpkakhaaGreatKKd2Q32
import Derived.Test.YtdbfejfhpkakhaaGreatKKd2Q34
import Derived.Test.YtdbfejfhpkakhaaGreatKKd2Q25
import Derived.Test.YtdbfejfhpkakhaaGreatKKd2Q35
import Derived.Test.YtdbfejfhpkakhaaGreatKKd2Q20
import Derived.Lib.SlBytesConst
set_option maxRecDepth 100000
set_option maxHeartbeats 32000000
set_option linter.unusedVariables false
set_option linter.unusedSimpArgs false
namespace Go.Proofs.YtdbfejfhpkakhaaGreat
open Go.RowKit Go.Maps
attribute [local go_sem] Oper.semAt_some
def z13 (l:List aC) (per:Int):Int:=if per<1∨256<per then 1 else if 2048<l.length then 5 else if jh l=false then 4 else if 262144<(ES l per.toNat).length then 5 else 0
def NY (W:World) (l:List aC) (per:Int) (e:Ending) (w':World):Prop:=
 (z13 l per≠0->e=.returned (.tuple #[.slice none 0 0,.int .i64 (z13 l per)])/\Nx W w')/\
 (z13 l per=0->∃k cap,e=.returned (.tuple #[.slice (some ⟨k,0,none⟩) (ES l per.toNat).length cap,.int .i64 0])/\aF W w' 5 1 (.slice (some ⟨k,0,none⟩) (ES l per.toNat).length cap) (ES l per.toNat).length (bl (ES l per.toNat)))
theorem NY.bad {W w':World} {l:List aC} {per er:Int} (h:z13 l per=er) (h0:er≠0) (n:Nx W w'):NY W l per (.returned (.tuple #[.slice none 0 0,.int .i64 er])) w':=by
 subst h;exact ⟨fun _=>⟨rfl,n⟩,fun h=>absurd h h0⟩
theorem z2W {Q:Exit->Act->World->Prop} {a:Act} {w:World} (h:Q .normal a w):RH Q .normal a w:=h
theorem zT {P:Program} {ops:Array Oper} {o:Oper} {ts:Array Value} {ds:List Deferred} {K:Act->World->Prop} {Q:Exit->Act->World->Prop} {E:Prop} (hgd:o.guard=none) (sl x:Operand) (t u:TypeId)
 (ho:o.op=.call { callee:=.builtin .append,args:= #[sl,x],argTypes:= #[t,u]})
 (e:TypeId) (i:TypeInfo) (ht:P.underlying t=some (.slice e)) (hu:P.underlying u=some .string) (hi:P.info? e=some i) (hz:i.zero=some (.int .u8 0))
 (hsize:i.size=1) (hby:i.bytes=1)
 {W w:World} {v:Value} {n:Nat} {xs:List Nat} (hs:(Act.mk ts ds).eval sl=v) (hown:aF W w e 1 v n (bl xs)) (s:ByteArray) (hx:(Act.mk ts ds).eval x=.string s)
 (h63:n+s.size<=maxLen) (hbytes:n+s.size<=140737488355328)
 (h:∀v' w',aF W w' e 1 v' (n+s.size) (bl (xs++jP s))->w.grownBy w' v.ownBlock->K ((Act.mk ts ds).put o.dst v') w'):if Region.wanted o (yielded ops ts)=true then Oper.wp P o ⟨ts,ds⟩ w K Q else E:=
 qy (a:=⟨ts,ds⟩) hgd sl x t u ho e i ht hu hi hz hsize hby hs hown s hx h63 hbytes h
theorem Ih {w:World} {D:Nat->Prop} {A:Option Addr} {n c:Nat} {l:List RV} (h:Rd w D 9 A n (bM l)) (hl:l.length=n) (hn:n<=1000000) (hc:n<=c) (hk:∀x∈l,x.ok w D/\x.row.mid) (per:Int) (hp0: -9223372036854775808<=per) (hp1:per<=9223372036854775807):
 Calls Tryz.prog 61 #[.slice A n c,.int .i64 per] w (NY w (l.map fun x=>x.row) per):=by
 have hll:(l.map fun x=>x.row).length=n:=by rw[List.length_map];exact hl
 by_cases jG:per<1∨256<per
 ·have HE:Hid (z13 (l.map fun x=>x.row) per=1):=ah (by unfold z13;rw[if_pos jG])
  clear h hl hn hk hll hc;by_cases h1:per<1
  ·have q1:decide (per<1)=true:=decide_eq_true h1
   clear jG;go_enter Tryz.func61,Tryz.ntmps61;go_wp2_with fail;exact bodyPost_ret (v:=.tuple #[.slice none 0 0,.int .i64 1]) (by simp[results,Tryz.results61,go_sem]) rfl (NY.bad HE.out (by decide) (Ch.refl _ _))
  ·have q1:decide (per<1)=false:=decide_eq_false h1
   have q2:decide (256<per)=true:=decide_eq_true (by omega);clear jG;go_enter Tryz.func61,Tryz.ntmps61;go_wp2_with fail;exact bodyPost_ret (v:=.tuple #[.slice none 0 0,.int .i64 1]) (by simp[results,Tryz.results61,go_sem]) rfl (NY.bad HE.out (by decide) (Ch.refl _ _))
 ·obtain ⟨p,rfl⟩:=Int.eq_ofNat_of_zero_le (show 0<=per by omega)
  have hp:1<=p/\p<=256:=by omega
  have q1:decide ((p:Int)<1)=false:=decide_eq_false (by omega);have q2:decide (256<(p:Int))=false:=decide_eq_false (by omega);by_cases hlong:2048<n
  ·have HE:Hid (z13 (l.map fun x=>x.row) p=5):=ah (by unfold z13;rw[if_neg jG,if_pos (by omega)])
   have q3:decide (2048<(n:Int))=true:=decide_eq_true (by omega);clear h hl hn hk hll jG hc;go_enter Tryz.func61,Tryz.ntmps61;go_wp2_with fail;exact bodyPost_ret (v:=.tuple #[.slice none 0 0,.int .i64 5]) (by simp[results,Tryz.results61,go_sem]) rfl (NY.bad HE.out (by decide) (Ch.refl _ _))
  ·have q3:decide (2048<(n:Int))=false:=decide_eq_false (by omega)
   have IC:=ah (Po (c:=c) h hl hn hk);by_cases hmay:jh (l.map fun x=>x.row)=false
   ·have HE:Hid (z13 (l.map fun x=>x.row) p=4):=ah (by unfold z13;rw[if_neg jG,if_neg (by omega),if_pos hmay])
    rw[hmay]at IC;clear h hl hn hk hll jG hc hmay;go_enter Tryz.func61,Tryz.ntmps61;go_wp2_with fail;with_reducible refine IC.out.mono ?_
    rintro e w1 ⟨rfl,n1⟩;have N1:=ah n1;clear n1 IC;go_wp2_with fail;exact bodyPost_ret (v:=.tuple #[.slice none 0 0,.int .i64 4]) (by simp[results,Tryz.results61,go_sem]) rfl (NY.bad HE.out (by decide) N1.out)
   ·have hmt:jh (l.map fun x=>x.row)=true:=by simpa using hmay
    rw[hmt]at IC
    replace hk:∀x∈l,x.ok w D/\x.row.few:=fun x hx=>⟨(hk x hx).1,(hk x hx).2.1,by
     have:=(mD (Rn ((QZ.1 hmt).2.1 x.row (List.mem_map_of_mem hx)).1).2.2.1).1;omega⟩
    have hA:0<n->A≠none:=fun h0=>by obtain ⟨ad,rfl, -⟩:=h.2 h0;simp
    have HG1:=ah h;clear h;refine (callsIn_wide (n:=10)).1 (callsIn_of_wp_marks Tryz.func61 rfl trivial (wpIn_wide.2 ?_) rfl);simp only[Tryz.ntmps61,List.size_toArray,List.length_cons,List.length_nil,Nat.reduceAdd,Nat.reduceSub,Array.replicate_succ,Array.replicate_zero,List.push_toArray,List.append_toArray,List.nil_append,List.cons_append];go_wp2_with fail;with_reducible refine IC.out.mono ?_
    rintro e w1 ⟨rfl,n1⟩;have N1:=ah n1;clear n1 IC;have hcv:=Lib.run_convert_bytes_const (P:=Tryz.prog) w1 47 5 #[.int .u8 69,.int .u8 78,.int .u8 84,.int .u8 82,.int .u8 1] 5 5 Tryz.underlying47 Tryz.underlying5;have hmm:= @run_makeMap Tryz.prog;have QT:=ah (fun w'=>H_ A n c p hp.1 (by omega) w');go_wp2_with fail;with_reducible refine (QT.out _).mono ?_
    rintro e w2 ⟨rfl,rfl⟩;go_wp2_with fail;have hm:=N1.out.size;have S0:=ah (CV.start N1.out A n c p (l.map fun x=>x.row));have hS7:=(z3m N1.out A n c p).2.2.2.1;change Code.wp _ _ _ _ (gW w1 A n c p);clear hcv hmm QT N1;generalize gW w1 A n c p=W0 at *;generalize w1.heap.size=m at *;clear w1;refine (wpIn_wide (n:=10)).1 ?_
    apply wpIn_rangeFunc_ownG (F:=Fence.wide) (n:=10) rfl (by decide) (gf:=116) (lb:= #[.pointer (some ⟨m+1+1+1+1+1,0,none⟩),.pointer (some ⟨m+1+1+1+1+1+1,0,none⟩)]) rfl trivial (enters_of Tryz.func116 (by kernel_rfl) rfl)
     (yB (m+1+1+1+1+1) (m+1+1+1+1+1+1) A n c p hp.1 (by omega) hn hc hA W0 (S0.out.bp.cell 0) (S0.out.bq.cell 0)) (fun h k=>EP.trans h k) (fun W lk o o' hl h1 h2 h3=>?_) (Below.refl _ _) (fun _=>rfl)
     (CV w m A n c p (l.map fun x=>x.row)) (fun _ _ _=>False) (by rw[hS7];exact CV.own hm) (fun _ _ _ _ _ hs _ _=>hs) S0.out
    case hassign=>
     intro lk x W K hK;gi_wp2
     exact hK
    case hbody=>
     intro lk pre x W hI hlt;obtain ⟨k,hk2⟩:=x;have hkn:k * p<n:=(kS (by omega)).1 hk2;have NW:=ah hI.Zr.nx;have hcl:(pY l p k).length=bn n p k:=(by rw[z2O,hl]);have hcm:∀y∈pY l p k,y∈l:=fun y hy=>List.mem_of_mem_drop (List.mem_of_mem_take hy);have hck:∀y∈pY l p k,y.ok W D/\y.row.few:=fun y hy=>⟨(hk y (hcm y hy)).1.ch NW.out (fun _ _ _ hf=>hf) (fun _ hd=>hd),(hk y (hcm y hy)).2⟩
     have hrow:∀y∈(pY l p k).map fun x=>x.row,CU y:=fun y hy=>by
      obtain ⟨z,hz,rfl⟩:=List.mem_map.1 hy;exact (QZ.1 hmt).2.1 _ (List.mem_map.2 ⟨z,hcm z hz,rfl⟩)
     have hm1:bn n p k=min p (n-k * p):=rfl;have hbl:=ZQ (z3O hp.2 (fun x hx=>(QZ.1 hmt).2.1 x hx) pre);have hgl:(IL (l.map fun x=>x.row) n p pre).length=pre.length:=List.length_map _;have hN:bg n p<=2304:=by unfold bg;have:=Nat.div_le_self (n+p-1) p;omega
     have hgg:eF ((pY l p k).map fun x=>x.row):=⟨by rw[List.length_map,hcl];omega,hrow⟩;have XJ:=ni hgg;have jd:=ah (yC (HG1.out.nx (by decide) NW.out) hl p k (by omega));have IE:=ah (fun n'=>VH (n:=n') (l:=lk) (group_any (c:=bn n p k) jd.out hcl hck hgg));obtain ⟨ad,rfl⟩:=Option.ne_none_iff_exists'.1 (hA (by omega));obtain ⟨ca,hca⟩:∃ca,ca=ad.add (k * p * 9):=⟨_,rfl⟩
     have hcab:ca.block<w.heap.size:=by
      obtain ⟨ad',e,_,XP⟩:=HG1.out.2 (by omega);injection e with e;subst e;have hcl3:=XP 0 ((bM l)[0]'(by rw[tC];omega)) (List.getElem?_eq_getElem _);have:=World.block_lt_of_cell? w _ hcl3;rw[vw]at this;rw[hca,vw];exact this
     unfold uS;simp only[Option.map_some,←hca]at IE jd ⊢;obtain ⟨G,hG⟩:∃G,G=(pY l p k).map fun x=>x.row:=⟨_,rfl⟩;have HT1:=ah (fun W' (c':Nx W W')=>yA (jd.out.nx (w':=W') (by decide) c') hcl (by omega) ca rfl);have hGl:G.length=bn n p k:=(by rw[hG,List.length_map,hcl]);have HGC:=ah (show G=pY (l.map fun x=>x.row) p k by rw[hG,Cc]);have XQ:∀y∈pY l p k,y.ok w D/\y.row.few:=fun y hy=>hk y (hcm y hy);have WB:=ah (fun W' (c':Nx w W')=>LZ (cp:=bn n p k) (by have:=yC HG1.out hl p k (by omega);rw[Option.map_some,←hca]at this;exact this) hcl XQ W' c' (by omega));rw[←hG]at IE HT1 WB XJ;have hq1:bn n p k<=256/\0<bn n p k:=(by omega);have HI:=ah hI;clear hI hck hrow hgg hcm hG hm1 hca XQ;generalize bn n p k=q at *;generalize hR:(l.map fun x=>x.row)=R at *
     --A< body
     gi_wp2_with fail
     refine ⟨trivial,(IE.out _).mono ?_⟩;rintro e W1 ⟨v1,rfl,o1⟩;have N1:=ah o1.nx;have O1:=ah o1;obtain ⟨Ag,cg,rfl, -, -⟩:=o1.form;clear o1;have I1:=ah ((HI.out.Zr.more G).tr N1.out);have BP:=ah (HI.out.bp.nx N1.out);have BQ:=ah (HI.out.bq.nx N1.out);have hsz1:m+7<=W1.heap.size:=Nat.le_trans HI.out.size N1.out.size;obtain ⟨f0,f1⟩:=HT1.out W1 N1.out;obtain ⟨t0,ht0⟩:∃t,t=NQ G:=⟨_,rfl⟩;obtain ⟨t1,ht1⟩:∃t,t=lastT G:=⟨_,rfl⟩;rw[←ht0]at f0;rw[←ht1]at f1;have HT0:=ah ht0;have HT2:=ah ht1;clear ht0 ht1;have kq:IntKind.i64.wrap ((q:Int)-1)=((q-1:Nat):Int):=by rw[IntWalk.i64_in _ (by omega)];omega
     have hqq:q-1<q:=(by omega);have KY:(sF 5 (IL R n p pre)).length=(IL R n p pre).length:=WZ _ _;obtain ⟨gs,hgs⟩:∃gs,gs=IL R n p pre:=⟨_,rfl⟩;have YH:=ah hgs;rw[←hgs]at KY I1 hbl hgl;obtain ⟨ss,hss⟩:∃ss,ss=sF 5 gs:=⟨_,rfl⟩;have Yr:=ah hss;rw[←hss]at KY I1;clear hgs hss;have HSL:=ah KY;have yS:=ah hgl;have hss3:ss.length<=2304:=(by omega);have hgs3:gs.length<=2304:=(by omega);clear KY hgl;obtain ⟨v2,B2,o2⟩:=I1.out.idx;obtain ⟨As,cs,rfl, -, -⟩:=o2.form;have b20:W1.cell? ⟨m+1+1,0,none⟩=some (.slice As ss.length cs):=B2.cell 0;obtain ⟨vo,Bo,oo⟩:=I1.out.out;obtain ⟨Ao,co,rfl⟩:=oo.form;have b10:W1.cell? ⟨m+1,0,none⟩=some (.slice Ao (headB++cZ gs).length co):=Bo.cell 0;obtain ⟨X,hX⟩:∃X,X=headB++cZ gs:=⟨_,rfl⟩;have HX:=ah hX;have hXl:X.length<=5+1000000 * gs.length:=by rw[hX,List.length_append];have:headB.length=5:=rfl;omega
     rw[←hX]at I1 oo b10 Bo;clear hX;obtain ⟨i0,hi0,hz0,hz1,hz2⟩:=info_parts Tryz.KL;gi_wp2_with fail
     refine z2Q (fun w'=>w'.cell? ⟨m+1+1,0,none⟩=some (.slice As ss.length cs)/\w'.cell? ⟨m+1,0,none⟩=some (.slice Ao X.length co)/\w'.cell? ⟨ca.block,ca.off+1,none⟩=some (.int .i64 t0)/\w'.cell? ⟨(ca.add ((q-1) * 9)).block,(ca.add ((q-1) * 9)).off+1,none⟩=some (.int .i64 t1)) (fun i=>decide (23<=i)) rfl (by kernel_rfl) (by rintro ⟨_,_,hf⟩;exact hf) ⟨b20,b10,f0,f1⟩ (fun hS0=>?_)
     try simp only[Act.put,aA,au,ay]
     refine z00 (i:=0) (oi:=_) (v:=?_) rfl (fun _ _ _ h=>h) (Or.inl ⟨by rfl,?_⟩) ?_;rotate_left
     ·(intro w hSw;(try dsimp only at hSw);go_split_ands;go_simp;try with_reducible rfl)
     try simp only[Act.put,List.setIfInBounds_toArray]
     refine z00 (i:=1) (oi:=_) (v:=?_) rfl (fun _ _ _ h=>h) (Or.inl ⟨by rfl,?_⟩) ?_;rotate_left
     ·(intro w hSw;(try dsimp only at hSw);go_split_ands;go_simp;try with_reducible rfl)
     try simp only[Act.put]
     refine z00 (i:=2) (oi:=_) (v:=?_) rfl (fun _ _ _ h=>h) (Or.inl ⟨by rfl,?_⟩) ?_;rotate_left
     ·(intro w hSw;(try dsimp only at hSw);go_split_ands;go_simp;try with_reducible rfl)
     try simp only[Act.put]
     refine z00 (i:=3) (oi:=_) (v:=?_) rfl (fun _ _ _ h=>h) (Or.inl ⟨by rfl,?_⟩) ?_;rotate_left
     ·(intro w hSw;(try dsimp only at hSw);go_split_ands;go_simp;try with_reducible rfl)
     try simp only[Act.put]
     refine z00 (i:=4) (oi:=_) (v:=?_) rfl (fun _ _ _ h=>h) (Or.inl ⟨by rfl,?_⟩) ?_;rotate_left
     ·(intro w hSw;(try dsimp only at hSw);go_split_ands;go_simp;try with_reducible rfl)
     try simp only[Act.put]
     refine z00 (i:=5) (oi:=_) (v:=?_) rfl (fun _ _ _ h=>h) (Or.inl ⟨by rfl,?_⟩) ?_;rotate_left
     ·(intro w hSw;(try dsimp only at hSw);go_split_ands;go_simp;try with_reducible rfl)
     try simp only[Act.put]
     refine z00 (i:=6) (oi:=_) (v:=?_) rfl (fun _ _ _ h=>h) (Or.inl ⟨by rfl,?_⟩) ?_;rotate_left
     ·(intro w hSw;(try dsimp only at hSw);go_split_ands;go_simp;try with_reducible rfl)
     try simp only[Act.put]
     refine z00 (i:=7) (oi:=_) (v:=?_) rfl (fun _ _ _ h=>h) (Or.inl ⟨by rfl,?_⟩) ?_;rotate_left
     ·(intro w hSw;(try dsimp only at hSw);go_split_ands;go_simp;try with_reducible rfl)
     try simp only[Act.put]
     refine z00 (i:=8) (oi:=_) (v:=?_) rfl (fun _ _ _ h=>h) (Or.inl ⟨by rfl,?_⟩) ?_;rotate_left
     ·(intro w hSw;(try dsimp only at hSw);go_split_ands;go_simp;try with_reducible rfl)
     try simp only[Act.put]
     refine z00 (i:=9) (oi:=_) (v:=?_) rfl (fun _ _ _ h=>h) (Or.inl ⟨by rfl,?_⟩) ?_;rotate_left
     ·(intro w hSw;(try dsimp only at hSw);go_split_ands;go_simp;try with_reducible rfl)
     try simp only[Act.put]
     refine z00 (i:=10) (oi:=_) (v:=?_) rfl (fun _ _ _ h=>h) (Or.inl ⟨by rfl,?_⟩) ?_;rotate_left
     ·(intro w hSw;(try dsimp only at hSw);go_split_ands;go_simp;try with_reducible rfl)
     try simp only[Act.put]
     refine z00 (i:=11) (oi:=_) (v:=?_) rfl (fun _ _ _ h=>h) (Or.inl ⟨by rfl,?_⟩) ?_;rotate_left
     ·(intro w hSw;(try dsimp only at hSw);go_split_ands;go_simp;try with_reducible rfl)
     try simp only[Act.put]
     refine z00 (i:=12) (oi:=_) (v:=?_) rfl (fun _ _ _ h=>h) (Or.inl ⟨by rfl,?_⟩) ?_;rotate_left
     ·(intro w hSw;(try dsimp only at hSw);go_split_ands;go_simp;try with_reducible rfl)
     try simp only[Act.put]
     refine z00 (i:=13) (oi:=_) (v:=?_) rfl (fun _ _ _ h=>h) (Or.inl ⟨by rfl,?_⟩) ?_;rotate_left
     ·(intro w hSw;(try dsimp only at hSw);go_split_ands;go_simp;try with_reducible rfl)
     try simp only[Act.put]
     refine z00 (i:=14) (oi:=_) (v:=?_) rfl (fun _ _ _ h=>h) (Or.inl ⟨by rfl,?_⟩) ?_;rotate_left
     ·(intro w hSw;(try dsimp only at hSw);go_split_ands;go_simp;try with_reducible rfl)
     try simp only[Act.put]
     refine z00 (i:=15) (oi:=_) (v:=?_) rfl (fun _ _ _ h=>h) (Or.inl ⟨by rfl,?_⟩) ?_;rotate_left
     ·(intro w hSw;(try dsimp only at hSw);go_split_ands;go_simp;try with_reducible rfl)
     try simp only[Act.put]
     refine z00 (i:=16) (oi:=_) (v:=?_) rfl (fun _ _ _ h=>h) (Or.inl ⟨by rfl,?_⟩) ?_;rotate_left
     ·(intro w hSw;(try dsimp only at hSw);go_split_ands;go_simp;try with_reducible rfl)
     try simp only[Act.put]
     refine z00 (i:=17) (oi:=_) (v:=?_) rfl (fun _ _ _ h=>h) (Or.inl ⟨by rfl,?_⟩) ?_;rotate_left
     ·(intro w hSw;(try dsimp only at hSw);go_split_ands;go_simp;try with_reducible rfl)
     try simp only[Act.put]
     refine z00 (i:=18) (oi:=_) (v:=?_) rfl (fun _ _ _ h=>h) (Or.inl ⟨by rfl,?_⟩) ?_;rotate_left
     ·(intro w hSw;(try dsimp only at hSw);go_split_ands;go_simp;try with_reducible rfl)
     try simp only[Act.put]
     refine z00 (i:=19) (oi:=_) (v:=?_) rfl (fun _ _ _ h=>h) (Or.inl ⟨by rfl,?_⟩) ?_;rotate_left
     ·(intro w hSw;(try dsimp only at hSw);go_split_ands;go_simp;try with_reducible rfl)
     try simp only[Act.put]
     refine z00 (i:=20) (oi:=_) (v:=?_) rfl (fun _ _ _ h=>h) (Or.inl ⟨by rfl,?_⟩) ?_;rotate_left
     ·(intro w hSw;(try dsimp only at hSw);go_split_ands;go_simp;try with_reducible rfl)
     try simp only[Act.put]
     refine z00 (i:=21) (oi:=_) (v:=?_) rfl (fun _ _ _ h=>h) (Or.inl ⟨by rfl,?_⟩) ?_;rotate_left
     ·(intro w hSw;(try dsimp only at hSw);go_split_ands;go_simp;try with_reducible rfl)
     try simp only[Act.put]
     refine z02 (rs:=[22]) (by kernel_rfl) (by simp) (z01.cons (o:=_) rfl (fun K hK=>?_) z01.nil);have NA:Nx W1 (W1.drew.alloc (.cells #[.int .i64 (X.length:Int),.int .i64 ((iE G).length:Int),.int .i64 (q:Int),.int .i64 t0,.int .i64 t1] 191)):=((Ch.refl (fun _=>False) W1).drew).alloc _;have NA2:=ah NA;have hS2:(fun w'=>w'.cell? ⟨m+1+1,0,none⟩=some (.slice As ss.length cs)/\w'.cell? ⟨m+1,0,none⟩=some (.slice Ao X.length co)/\w'.cell? ⟨ca.block,ca.off+1,none⟩=some (.int .i64 t0)/\w'.cell? ⟨(ca.add ((q-1) * 9)).block,(ca.add ((q-1) * 9)).off+1,none⟩=some (.int .i64 t1)) (W1.drew.alloc (.cells #[.int .i64 (X.length:Int),.int .i64 ((iE G).length:Int),.int .i64 (q:Int),.int .i64 t0,.int .i64 t1] 191)):=⟨(B2.nx NA).cell 0,(Bo.nx NA).cell 0,(NA.cell (p:=⟨ca.block,ca.off+1,none⟩) (World.block_lt_of_cell? W1 _ f0)).trans f0,(NA.cell (p:=⟨(ca.add ((q-1) * 9)).block,(ca.add ((q-1) * 9)).off+1,none⟩) (World.block_lt_of_cell? W1 _ f1)).trans f1⟩;have CZ:Hid (Rd (W1.drew.alloc (.cells #[.int .i64 (X.length:Int),.int .i64 ((iE G).length:Int),.int .i64 (q:Int),.int .i64 t0,.int .i64 t1] 191)) (fun k=>k=W1.heap.size) 5 (some ⟨W1.heap.size,0,none⟩) 1 (spl [(⟨(X.length:Int),((iE G).length:Int),(q:Int),t0,t1⟩:aW)])):=ah (Rd.Xl W1.drew (⟨(X.length:Int),((iE G).length:Int),(q:Int),t0,t1⟩:aW));have HOW:=ah (o2.tr NA);have hwle:w.heap.size<=W1.heap.size:=(by omega);clear NA;go_simp;refine hK.out _ _ (fun _=>hS2) (fun aj=>?_);have hHeld:=aj (by decide);clear hK K aj
     try simp only[Act.put,aA,au,ay]
     refine z02 (rs:=[23]) (by kernel_rfl) (by simp) (z01.cons (o:=_) rfl (fun K hK=>?_) z01.nil);refine Ns _ rfl (.tmp 46) (.tmp 67) _ rfl w.heap.size 191 i0 _ 5 40 Tryz.underlying181 hi0 hz0 hz1 hz2 rfl (by omega) (.slice As ss.length cs) ss.length (spl ss) rfl HOW.out.own _ (some ⟨W1.heap.size,0,none⟩) 1 1 _ rfl CZ.out (Ox _) (by simp only[maxLen];omega) (by omega) (Nat.le_trans hwle NA2.out.size) ?_;intro v20 W2 gV gr20 at20;have oB:aF w W2 191 5 v20 (ss++[(⟨(X.length:Int),((iE G).length:Int),(q:Int),t0,t1⟩:aW)]).length (spl (ss++[(⟨(X.length:Int),((iE G).length:Int),(q:Int),t0,t1⟩:aW)])):=⟨by rw[Jr,List.length_append];exact gV,HOW.out.nx.grown gr20 fun g hg hlt=>by have:=HOW.out.lt g hg;omega⟩;obtain ⟨A20,c20,hv20, -, -⟩:=oB.form;rw[List.length_append,List.length_singleton]at hv20;subst hv20;have I2:=ah (dJ.span (I1.out.tr NA2.out) (B2.nx NA2.out) HOW.out gr20 oB (by omega));have c12:Ch (fun r=>(Value.slice As ss.length cs).ownBlock=some r) (W1.drew.alloc (.cells #[.int .i64 (X.length:Int),.int .i64 ((iE G).length:Int),.int .i64 (q:Int),.int .i64 t0,.int .i64 t1] 191)) W2:=(Ch.refl _ _).grown gr20 (fun r hr _=>hr);have hnr:∀{g:Nat} {t:TypeId} {cs':Array Value},aG W1 g t cs'->t≠191->aG W2 g t cs':=fun hb hne=>(hb.nx NA2.out).ch c12 (fun hs=>(z07 HOW.out.own (hb.nx NA2.out) (Ne.symm hne)) hs);have B2b:aG W2 (m+1+1) 184 #[.slice As ss.length cs,.slice none 0 0]:=hnr B2 (by decide);have BP2:=ah (hnr BP.out (by decide));have BQ2:=ah (hnr BQ.out (by decide));have b2c:W2.cell? ⟨m+1+1,0,none⟩=some (.slice As ss.length cs):=B2b.cell 0;have b2f:W2.frozen? ⟨m+1+1,0,none⟩=false:=B2b.frozen 0;have C2:=ah (Ch.setCell ((NA2.out.mono (T:=fun r=>r=m+1+1∨(Value.slice As ss.length cs).ownBlock=some r) (fun _ _ hf=>hf.elim)).trans (c12.mono (T:=fun r=>r=m+1+1∨(Value.slice As ss.length cs).ownBlock=some r) (fun _ _ h=>.inr h)) (fun _ _ h=>h)) (p:=⟨m+1+1,0,none⟩) (fun _=>.inl rfl) (.slice A20 (ss.length+1) c20));have hB2ne:=ah B2;clear oB gV gr20 at20 c12 hS2;refine hK.out _ _ (fun h=>absurd h (by decide)) (fun aj=>?_);clear hK K aj
     try simp only[Act.put,List.setIfInBounds_toArray]
     refine z02 (rs:=[24]) (by kernel_rfl) (by simp) (z01.cons (o:=_) rfl (fun K hK=>?_) z01.nil);go_simp;refine hK.out _ _ (fun h=>absurd h (by decide)) (fun aj=>?_);clear hK K aj
     try simp only[Act.put,aA,au,ay]
     refine z02 (rs:=[25]) (by kernel_rfl) (by simp) (z01.cons (o:=_) rfl (fun K hK=>?_) z01.nil);go_simp;refine hK.out _ _ (fun h=>absurd h (by decide)) (fun aj=>?_);clear hK K aj b2c b2f hHeld
     try simp only[Act.put,aA,au,ay]
     refine kE (by kernel_rfl) ?_ _;have BP3:=ah (BP2.out.far (p:=⟨m+1+1,0,none⟩) (by show (m+1+1+1+1+1:Nat)≠m+1+1;omega) (.slice A20 (ss.length+1) c20));have BQ3:=ah (BQ2.out.far (p:=⟨m+1+1,0,none⟩) (by show (m+1+1+1+1+1+1:Nat)≠m+1+1;omega) (.slice A20 (ss.length+1) c20));generalize W2.setCell ⟨m+1+1,0,none⟩ (.slice A20 (ss.length+1) c20)=W3 at *;have CR1:=ah (tK (m+1+1+1+1+1) (m+1+1+1+1+1+1) (m+1+1+1) N1.out)
     have CR3:=ah (Tn CR1.out (tJ C2.out (fun i hs=>by
      rcases hs with rfl|hs
      ·exact tN B2 BP.out BQ.out (by decide) (by decide)
      ·obtain ⟨cs5,hB5⟩:=jg o2.own hs
       exact tN hB5 BP.out BQ.out (by decide) (by decide))))
     have R3:=ah (O1.out.rd.ch (by decide) C2.out (fun g _ hg hs=>by
      obtain ⟨cs4,hB4⟩:=jg O1.out.own hg.1;rcases hs with rfl|hs
      ·exact hB4.DT B2 (by decide) rfl
      ·obtain ⟨cs5,hB5⟩:=jg o2.own hs
       exact hB4.DT hB5 (by decide) rfl))
     clear B2 o2 b20 b10 f0 f1 Bo oo B2b;obtain ⟨vo3,Bo3,oo3⟩:=I2.out.out;obtain ⟨Ao3,co3,rfl⟩:=oo3.form;have b103:W3.cell? ⟨m+1,0,none⟩=some (.slice Ao3 X.length co3):=Bo3.cell 0;obtain ⟨gl,xE⟩:∃gl,gl=(iE G).length:=⟨_,rfl⟩;have hgl0:0<gl:=by rw[xE];exact BJ G
     rw[←xE]at R3 XJ;have HGLN:=ah xE;rw[←xE];clear xE;have hbig:X.length+gl<=100000000000:=(by omega);obtain ⟨v4,W4,happ,o4,gr4⟩:=oo3.app R3.out HGLN.out.symm hgl0 hbig 47;obtain ⟨A4,c4,rfl, -, -⟩:=o4.form;have c34:Ch (fun r=>(Value.slice Ao3 X.length co3).ownBlock=some r) W3 W4:=(Ch.refl _ _).grown gr4 (fun r hr _=>hr)
     have Ur:∀{g:Nat} {t:TypeId} {cs':Array Value},aG W3 g t cs'->t≠5->aG W4 g t cs':=fun {g t cs'} hb hne=>hb.ch c34 (fun hs=>by
      obtain ⟨_,_,cs5,fz5,hB5⟩:=oo3.lt g hs;have hb':W3.heap[g]?=some (.cells cs' t (0,0)):=hb;rw[hB5]at hb';injection hb' with hb';injection hb' with _ e;exact hne e.symm)
     have Bo4:aG W4 (m+1) 47 #[.slice Ao3 X.length co3]:=Ur Bo3 (by decide);have b104:W4.cell? ⟨m+1,0,none⟩=some (.slice Ao3 X.length co3):=Bo4.cell 0;have b1f4:W4.frozen? ⟨m+1,0,none⟩=false:=Bo4.frozen 0;have I4:=ah (dJ.put I2.out Bo3 oo3 gr4 o4 (by omega));have C4:=ah (Ch.setCell (c34.mono (T:=fun r=>r=m+1∨(Value.slice Ao3 X.length co3).ownBlock=some r) (fun _ _ h=>.inr h)) (p:=⟨m+1,0,none⟩) (fun _=>.inl rfl) (.slice A4 (X++iE G).length c4));have BP4:=ah ((Ur BP3.out (by decide)).far (p:=⟨m+1,0,none⟩) (by show (m+1+1+1+1+1:Nat)≠m+1;omega) (.slice A4 (X++iE G).length c4));have BQ4:=ah ((Ur BQ3.out (by decide)).far (p:=⟨m+1,0,none⟩) (by show (m+1+1+1+1+1+1:Nat)≠m+1;omega) (.slice A4 (X++iE G).length c4));gi_wp2_with (gi_at_builtin;refine oL rfl (.tmp 70) (.tmp 71) 47 rfl rfl rfl happ ?_)
     have eL:(X++iE G).length=X.length+(iE G).length:=List.length_append;rw[eL]at I4 C4 BP4 BQ4
     have CR5:=ah (Tn CR3.out (tJ C4.out (fun i hs=>by
      rcases hs with rfl|hs
      ·exact tN Bo3 BP3.out BQ3.out (by decide) (by decide)
      ·obtain ⟨_,_,cs5,fz5,hB5⟩:=oo3.lt i hs
       exact OE hB5 BP3.out BQ3.out (by decide) (by decide))))
     clear Bo3 oo3 c34 Bo4 b103 b104 b1f4 happ o4 gr4 eL R3 O1 C2 C4 CR3 CR1 I2 I1 BP BQ BP2 BQ2 BP3 BQ3 HOW NA2 CZ IE jd;generalize W4.setCell ⟨m+1,0,none⟩ (.slice A4 (X.length+(iE G).length) c4)=W5 at *;refine ⟨trivial,(VH (WB.out W5 I4.out.nx)).mono ?_⟩;rintro e W6 ⟨v6,rfl,o6⟩;have O6:=ah o6;obtain ⟨A6,c6,rfl,hc6, -⟩:=o6.form;clear o6;gi_wp2_with fail
     refine ⟨trivial,(VH (kZ A6 q c6 W6)).mono ?_⟩;rintro e W7 ⟨rfl,rfl⟩;have NV:Nx W6 (W6.alloc (.cells #[.slice A6 q c6] 22)):=(Ch.refl _ W6).alloc _;have hwl:(G.map cu).length=q:=by rw[List.length_map];exact hGl
     have NJ:=ah (lN W6.heap.size A6 q c6 (G.map cu) hwl (by omega) hc6 _ ((aG.new W6 22 #[.slice A6 q c6]).cell 0) ((O6.out.rd.nx (by decide) NV).below_ (by decide)));have N56:=ah (O6.out.nx.tr NV);clear NV;gi_wp2_with fail
     refine ⟨trivial,(VH NJ.out).mono ?_⟩;rintro e W8 ⟨v8,rfl,o8⟩;have O8:=ah (show aF W5 W8 9 1 v8 q ((fJ (G.map cu)).map Go.Proofs.encStr) from ⟨su o8.own N56.out.size,N56.out.tr o8.nx⟩);clear o8 NJ N56;have HCM:=ah (zD hwl (by omega) O8.out);gi_wp2_with fail
     refine ⟨trivial,(VH HCM.out).mono ?_⟩;rintro e W9 ⟨A9,c9,rfl,r9,n9⟩;have hwn:=z16 (G.map cu);have HWS:=ah (fun j (hj:j<(aY (G.map cu)).length)=>vN G hj);have HWD:=ah (Eq.refl (aY (G.map cu)));obtain ⟨ws,hws⟩:∃ws,ws=aY (G.map cu):=⟨_,rfl⟩;have HWE:=ah hws;rw[←hws]at r9 hwn HWS;rw[←hws];have hwq:ws.length<=256:=(by omega);rw[←HSL.out]at I4;have I9:=ah (I4.out.tr n9);have WI:=ah r9;have BP9:=ah (BP4.out.nx n9);have BQ9:=ah (BQ4.out.nx n9);have CR9:=ah (Tn CR5.out (tK (m+1+1+1+1+1) (m+1+1+1+1+1+1) (m+1+1+1) n9));have hbg:w.heap.size<=m+1+1+1:=(by omega);clear r9 n9 HCM O8 O6 hws I4 BP4 BQ4 CR5 hwl hwn;gi_wp2_with fail
     gi_loopw [79] (fun i wr=>∃j:Nat,j<=ws.length/\i=.int .i64 (j:Int)/\Hid (dJ w (m+7) (m+1) (m+1+1) (m+1+1+1) (m+1+1+1+1) (gs++[G]) (X++iE G) (ss++[(⟨(X.length:Int),((iE G).length:Int),(q:Int),t0,t1⟩:aW)]) ss.length (ws.take j) wr)/\Hid (aG wr (m+1+1+1+1+1) 34 #[.slice (some ad) n c])/\Hid (aG wr (m+1+1+1+1+1+1) 3 #[.int .i64 (p:Int)])/\Hid (Ch (jZ W (m+1+1+1+1+1) (m+1+1+1+1+1+1) (m+1+1+1)) W wr)/\Hid (n_ A9 ws wr)) (fun i _=>ws.length-(intOf i).toNat)
     case atStart=>exact ⟨0,Nat.zero_le _,rfl,I9,BP9,BQ9,CR9,WI⟩
     case round=>
      clear I9 BP9 BQ9 CR9 WI;obtain ⟨j,hjn,rfl,HB,HBP,HBQ,WE,HW⟩:=hrel;obtain ⟨Wr,rfl⟩:∃W0:World,W0=wr:=⟨_,rfl⟩;by_cases hj:j<ws.length
      ·obtain ⟨ad9,u,rfl,hD9,hu,hcx⟩:=HW.out.at_ hj
       rw[show (dK ws)[j]?=some (.string ws[j]) by simp[dK,hj]]at hu;injection hu with hu;subst hu;obtain ⟨hno,hok⟩:=HWS.out j hj;have Zx:Hid (ws.take (j+1)=ws.take j++[ws[j]]):=ah (List.take_succ_eq_append_getElem hj);generalize ws[j]=x at *;have b40:Wr.cell? ⟨m+1+1+1+1,0,none⟩=some (.map (some (m+1+1+1))):=HB.out.box.cell 0;have hsz9:m+7<=Wr.heap.size:=Nat.le_trans HI.out.size WE.out.size;gi_wp2
       refine z2Q (fun w'=>w'.cell? ⟨m+1+1+1+1,0,none⟩=some (.map (some (m+1+1+1)))) (fun i=>i==8) rfl (by kernel_rfl) (by rintro ⟨_,_,hf⟩;exact hf) b40 (fun hS0=>?_)
       try simp only[Act.put,aA,au,ay]
       refine z00 (i:=0) (oi:=_) (v:=?_) rfl (fun _ _ _ h=>h) (Or.inl ⟨by rfl,?_⟩) ?_;rotate_left
       ·(intro w hSw;(try dsimp only at hSw);go_split_ands;go_simp;try with_reducible rfl)
       try simp only[Act.put,List.setIfInBounds_toArray]
       refine z00 (i:=1) (oi:=_) (v:=?_) rfl (fun _ _ _ h=>h) (Or.inl ⟨by rfl,?_⟩) ?_;rotate_left
       ·(intro w hSw;(try dsimp only at hSw);go_split_ands;go_simp;try with_reducible rfl)
       try simp only[Act.put]
       refine z00 (i:=2) (oi:=_) (v:=?_) rfl (fun _ _ _ h=>h) (Or.inl ⟨by rfl,?_⟩) ?_;rotate_left
       ·(intro w hSw;(try dsimp only at hSw);go_split_ands;go_simp;try with_reducible rfl)
       try simp only[Act.put]
       refine z00 (i:=3) (oi:=_) (v:=?_) rfl (fun _ _ _ h=>h) (Or.inl ⟨by rfl,?_⟩) ?_;rotate_left
       ·(intro w hSw;(try dsimp only at hSw);go_split_ands;go_simp;try with_reducible rfl)
       try simp only[Act.put]
       refine z00 (i:=5) (oi:=_) (v:=?_) rfl (fun _ _ _ h=>h) (Or.inl ⟨by rfl,?_⟩) ?_;rotate_left
       ·(intro w hSw;(try dsimp only at hSw);go_split_ands;go_simp;try with_reducible rfl)
       try simp only[Act.put]
       try simp only[List.getElem_toArray,List.getElem_cons_zero,List.getElem_cons_succ,aA,au,ay]
       refine z02 (rs:=[4,6]) (by kernel_rfl) (by simp) (z01.cons (o:=_) rfl (fun K hK=>?_) (z01.cons (o:=_) rfl (fun K hK=>?_) z01.nil));obtain ⟨v87,hrun,hstep⟩:=dJ.word (HB.out.tr (show Nx Wr Wr.drew from (Ch.refl (fun _=>False) Wr).drew)) hok hno (by omega) (by rw[List.length_take];omega) hbg (by show m+7<=Wr.heap.size;omega) (by omega);refine qx rfl (.tmp 85) (.tmp 86) 185 rfl rfl rfl hrun ?_;refine hK.out _ _ (fun _=>b40) (fun aj=>?_);have hHeld:=aj (by decide);clear hK K aj hrun
       try simp only[Act.put,List.setIfInBounds_toArray]
       refine z02 (rs:=[6]) (by kernel_rfl) (by simp) (z01.cons (o:=_) rfl (fun K hK=>?_) z01.nil);have hS1:(fun w'=>w'.cell? ⟨m+1+1+1+1,0,none⟩=some (.map (some (m+1+1+1)))) (Wr.drew.alloc (.cells #[.int .i64 (ss.length:Int)] 3)):=((((Ch.refl (fun _=>False) Wr).drew).alloc (.cells #[.int .i64 (ss.length:Int)] 3)).cell (p:=⟨m+1+1+1+1,0,none⟩) (World.block_lt_of_cell? Wr _ b40) fun hf=>hf).trans b40;go_simp;refine hK.out _ _ (fun _=>hS1) (fun aj=>?_);have hHeld:=aj (by decide);clear hK K aj
       try simp only[Act.put,aA,au,ay]
       refine z02 (rs:=[7]) (by kernel_rfl) (by simp) (z01.cons (o:=_) rfl (fun K hK=>?_) z01.nil);obtain ⟨v90,Wb,happ,hkeep,Wc,hup,hBc,Lr⟩:=hstep (Wr.drew.alloc (.cells #[.int .i64 (ss.length:Int)] 3)) Wr.heap.size 195 ((Ch.refl (fun _=>False) Wr.drew).alloc (.cells #[.int .i64 (ss.length:Int)] 3)) (World.grownBy_alloc Wr.drew (.cells #[.int .i64 (ss.length:Int)] 3) none) ((aG.new Wr.drew 3 #[.int .i64 (ss.length:Int)]).cell 0);have hS2:(fun w'=>w'.cell? ⟨m+1+1+1+1,0,none⟩=some (.map (some (m+1+1+1)))) Wb:=(hkeep _ _ _ (HB.out.box.nx (((Ch.refl (fun _=>False) Wr).drew).alloc (.cells #[.int .i64 (ss.length:Int)] 3))) (by decide)).cell 0;refine qA rfl (.tmp 87) (.tmp 89) 195 rfl rfl rfl happ ?_;refine hK.out _ _ (fun _=>hS2) (fun aj=>?_);clear hK K aj happ hstep hHeld hS2 hkeep
       try simp only[Act.put,List.setIfInBounds_toArray]
       refine z02 (rs:=[8]) (by kernel_rfl) (by simp) (z01.cons (o:=_) rfl (fun K hK=>?_) z01.nil);refine vV rfl (.tmp 83) (.tmp 84) (.tmp 90) 185 rfl rfl rfl rfl hup ?_;refine hK.out _ _ (fun h=>absurd h (by decide)) (fun aj=>?_);clear hK K aj hup
       try simp only[Act.put]
       refine kE (by kernel_rfl) ?_ _;rw[←Zx.out]at hBc;have HBc:=ah hBc;have NL:Nx Wr Wr.drew:=(Ch.refl (fun _=>False) Wr).drew
       have CRc:=ah (Tn WE.out (Tn (tK (m+1+1+1+1+1) (m+1+1+1+1+1+1) (m+1+1+1) NL) (tJ Lr (fun i hs=>by
        rcases hs with hs|⟨_,h7,cs5,hB5⟩
        ·exact .inl hs
        ·exact .inr ⟨by omega,by omega,cs5,_,_,hB5⟩))))
       have BPc:=ah ((HBP.out.nx NL).ch Lr (fun hs=>by rcases hs with hs|⟨_,h7,_⟩<;>omega));have BQc:=ah ((HBQ.out.nx NL).ch Lr (fun hs=>by rcases hs with hs|⟨_,h7,_⟩<;>omega))
       have hm3:∀g cs',aG Wr.drew g 9 cs'->g≠m+1+1+1:=fun g cs' hB5 e=>by
        obtain ⟨D5,n5,g5, -⟩:=(HB.out.tr NL).grp;obtain ⟨es5,ck5,hb5, -⟩:=g5;have hB6:Wr.drew.heap[g]?=some (.cells cs' 9 (0,0)):=hB5;rw[e,hb5]at hB6;cases hB6
       have WIc:=ah ((HW.out.ch NL (fun _ _ _ hf=>hf)).ch Lr (fun g cs' hB5 hs=>by
        rcases hs with hs|⟨_,_,cs6,hB6⟩
        ·exact hm3 g cs' hB5 hs
        ·exact hB5.DT hB6 (by decide) rfl))
       clear hBc Lr NL hm3;gi_wp2
       go_roundw
       case rel=>exact ⟨j+1,by omega,by go_num,HBc,BPc,BQc,CRc,WIc⟩
       case measure=>simp[intOf];omega
       have hS1:(fun w'=>w'.cell? ⟨m+1+1+1+1,0,none⟩=some (.map (some (m+1+1+1)))) (Wr.drew.alloc (.cells #[.int .i64 (ss.length:Int)] 3)):=((((Ch.refl (fun _=>False) Wr).drew).alloc (.cells #[.int .i64 (ss.length:Int)] 3)).cell (p:=⟨m+1+1+1+1,0,none⟩) (World.block_lt_of_cell? Wr _ b40) fun hf=>hf).trans b40;go_simp;refine hK.out _ _ (fun _=>hS1) (fun aj=>?_);have hHeld:=aj (by decide);clear hK K aj
       try simp only[Act.put,aA,au,ay]
       refine z02 (rs:=[4]) (by kernel_rfl) (by simp) (z01.cons (o:=_) rfl (fun K hK=>?_) z01.nil);obtain ⟨v87,hrun,hstep⟩:=dJ.word (HB.out.tr (show Nx Wr (Wr.drew.alloc (.cells #[.int .i64 (ss.length:Int)] 3)) from ((Ch.refl (fun _=>False) Wr).drew).alloc _)) hok hno (by omega) (by rw[List.length_take];omega) hbg (by rw[World.size_alloc];show m+7<=Wr.heap.size+1;omega) (by omega);refine qx rfl (.tmp 85) (.tmp 86) 185 rfl rfl rfl hrun ?_;refine hK.out _ _ (fun _=>hS1) (fun aj=>?_);have hHeld:=aj (by decide);clear hK K aj hrun
       try simp only[Act.put,List.setIfInBounds_toArray]
       refine z02 (rs:=[7]) (by kernel_rfl) (by simp) (z01.cons (o:=_) rfl (fun K hK=>?_) z01.nil);obtain ⟨v90,Wb,happ,hkeep,Wc,hup,hBc,Lr⟩:=hstep (Wr.drew.alloc (.cells #[.int .i64 (ss.length:Int)] 3)) Wr.heap.size 195 (Ch.refl (fun _=>False) (Wr.drew.alloc (.cells #[.int .i64 (ss.length:Int)] 3))) ⟨rfl,rfl,rfl,Nat.le_refl _,fun _ _ _=>rfl⟩ ((aG.new Wr.drew 3 #[.int .i64 (ss.length:Int)]).cell 0);have hS2:(fun w'=>w'.cell? ⟨m+1+1+1+1,0,none⟩=some (.map (some (m+1+1+1)))) Wb:=(hkeep _ _ _ (HB.out.box.nx (((Ch.refl (fun _=>False) Wr).drew).alloc (.cells #[.int .i64 (ss.length:Int)] 3))) (by decide)).cell 0;refine qA rfl (.tmp 87) (.tmp 89) 195 rfl rfl rfl happ ?_;refine hK.out _ _ (fun _=>hS2) (fun aj=>?_);clear hK K aj happ hstep hHeld hS2 hkeep
       try simp only[Act.put]
       refine z02 (rs:=[8]) (by kernel_rfl) (by simp) (z01.cons (o:=_) rfl (fun K hK=>?_) z01.nil);refine vV rfl (.tmp 83) (.tmp 84) (.tmp 90) 185 rfl rfl rfl rfl hup ?_;refine hK.out _ _ (fun h=>absurd h (by decide)) (fun aj=>?_);clear hK K aj hup
       try simp only[Act.put]
       refine kE (by kernel_rfl) ?_ _;rw[←Zx.out]at hBc;have HBc:=ah hBc;have NL:Nx Wr (Wr.drew.alloc (.cells #[.int .i64 (ss.length:Int)] 3)):=((Ch.refl (fun _=>False) Wr).drew).alloc _
       have CRc:=ah (Tn WE.out (Tn (tK (m+1+1+1+1+1) (m+1+1+1+1+1+1) (m+1+1+1) NL) (tJ Lr (fun i hs=>by
        rcases hs with hs|⟨_,h7,cs5,hB5⟩
        ·exact .inl hs
        ·exact .inr ⟨by omega,by omega,cs5,_,_,hB5⟩))))
       have BPc:=ah ((HBP.out.nx NL).ch Lr (fun hs=>by rcases hs with hs|⟨_,h7,_⟩<;>omega));have BQc:=ah ((HBQ.out.nx NL).ch Lr (fun hs=>by rcases hs with hs|⟨_,h7,_⟩<;>omega))
       have hm3:∀g cs',aG (Wr.drew.alloc (.cells #[.int .i64 (ss.length:Int)] 3)) g 9 cs'->g≠m+1+1+1:=fun g cs' hB5 e=>by
        obtain ⟨D5,n5,g5, -⟩:=(HB.out.tr NL).grp;obtain ⟨es5,ck5,hb5, -⟩:=g5;have hB6:(Wr.drew.alloc (.cells #[.int .i64 (ss.length:Int)] 3)).heap[g]?=some (.cells cs' 9 (0,0)):=hB5;rw[e,hb5]at hB6;cases hB6
       have WIc:=ah ((HW.out.ch NL (fun _ _ _ hf=>hf)).ch Lr (fun g cs' hB5 hs=>by
        rcases hs with hs|⟨_,_,cs6,hB6⟩
        ·exact hm3 g cs' hB5 hs
        ·exact hB5.DT hB6 (by decide) rfl))
       clear hBc Lr NL hm3;gi_wp2
       go_roundw
       case rel=>exact ⟨j+1,by omega,by go_num,HBc,BPc,BQc,CRc,WIc⟩
       case measure=>simp[intOf];omega
      ·have hjj:j=ws.length:=by omega
       clear hlt
       have HBE:=ah (show dJ w (m+7) (m+1) (m+1+1) (m+1+1+1) (m+1+1+1+1) (gs++[G]) (X++iE G) (ss++[(⟨(X.length:Int),((iE G).length:Int),(q:Int),t0,t1⟩:aW)]) (ss.length+1) [] Wr from by
        have h1:=HB.out;rw[hjj,List.take_length]at h1;refine h1.next (by rw[List.length_append,HSL.out,List.length_singleton];omega) ?_ (by omega);rw[HWE.out];congr 2
        rw[List.getElem_append_right (by rw[HSL.out];exact Nat.le_refl _)];simp[HSL.out])
       clear HB;gi_wp2
       refine ⟨FN WE.out (by omega),OG WE.out (by omega) (by omega) (by have:=HI.out.size;omega) (by have:=HI.out.size;omega),?_⟩;have eG:IL R n p (pre++[⟨k,hk2⟩])=gs++[G]:=by rw[YH.out,HGC.out];simp[IL]
       have eX:X++iE G=headB++cZ (gs++[G]):=by rw[HX.out,Cj,List.append_assoc]
       have eS:ss++[(⟨(X.length:Int),((iE G).length:Int),(q:Int),t0,t1⟩:aW)]=sF 5 (gs++[G]):=by
        rw[z3q,←Yr.out,HX.out,HT0.out,HT2.out,←hGl,List.length_append];rfl
       have h1:=HBE.out;rw[eX,eS,HSL.out]at h1;refine ⟨?_,HBP.out,HBQ.out,Nat.le_trans HI.out.size WE.out.size⟩;rw[eG,List.length_append,List.length_singleton];exact h1
     --A> body
    case hdone=>
     --A< done
     intro Dk xs W hDk hxs hI hdf;subst hxs;have eG:IL (l.map fun x=>x.row) n p (List.finRange (bg n p))=eu p (l.map fun x=>x.row):=pG _ p n hll;obtain ⟨gs,hgs⟩:∃gs,gs=eu p (l.map fun x=>x.row):=⟨_,rfl⟩;have YH:=ah hgs;have hb:=hI.Zr;rw[eG,←hgs]at hb;have hgsl:gs.length<=2304:=by rw[hgs,Ti,hll];have:=Nat.div_le_self (n+p-1) p;omega
     have Uu:∀g∈gs,eF g:=by
      rw[hgs,←eG];exact z3O hp.2 (fun x hx=>(QZ.1 hmt).2.1 x hx) _
     have hbl:=ZQ Uu;obtain ⟨X,hX⟩:∃X,X=headB++cZ gs:=⟨_,rfl⟩;have HX:=ah hX;have hXl:X.length<=5+1000000 * gs.length:=by rw[hX,List.length_append];have:headB.length=5:=rfl;omega
     obtain ⟨ss,hss⟩:∃ss,ss=sF 5 gs:=⟨_,rfl⟩;have Yr:=ah hss;have KY:ss.length<=2304:=by rw[hss,WZ];exact hgsl
     rw[←hX,←hss]at hb;obtain ⟨f,nm,W1,cnt,hrun,hP,NX,hcn0⟩:=iq.start hb hdf;have hcn:([]:List PV).length+cnt<=5000000:=by simp only[List.length_nil];omega
     have HP:=ah hP;have hszW:m+7<=W.heap.size:=hI.size;have b40:W.cell? ⟨m+1+1+1+1,0,none⟩=some (.map (some (m+1+1+1))):=hb.box.cell 0;have IE:=ah Uu;obtain ⟨r,hr⟩:∃r,r=W.heap.size:=⟨_,rfl⟩;rw[←hr]at HP hrun hszW;have hwr:w.heap.size<=r:=(by omega);clear hcn0 hr NX hP hb hI hdf eG hX hss hgs Uu;obtain ⟨i0,hi0,hz0,hz1,hz2⟩:=info_parts Tryz.KN;go_wp2_with (at_range;refine oJ rfl (.tmp 92) 185 rfl rfl hrun ?_)
     simp only[Act.put,aA,au,ay];go_loopw [94] (fun v wr=>∃(mem:List PV) (cnt:Nat),Hid (iq w m Dk gs X ss f r nm mem mem cnt wr)/\mem.length+cnt<=5000000) (fun _ wr=>wr.rangeLeft (m+1+1+1) r)
     case atStart=>exact ⟨[],cnt,HP,hcn⟩
     case round=>
      clear HP hcn hrun b40;obtain ⟨mem,cnt,HP,hcn⟩:=hrel;obtain ⟨Wr,rfl⟩:∃W0:World,W0=wr:=⟨_,rfl⟩;rcases HP.out.next 0 hwr with ⟨hrun,hend⟩|⟨x,W2,cnt',hrun,hP2,hlt,hen, -⟩
      ·have YK:=ah hend
       clear hend;obtain ⟨v2,vp,B2,o2,o3⟩:=HP.out.idx;obtain ⟨Ap,cp,rfl, -, -⟩:=o3.form;obtain ⟨As,cs,rfl, -, -⟩:=o2.form;have b21:Wr.cell? ⟨m+1+1,1,none⟩=some (.slice Ap mem.length cp):=B2.cell 1;have Yt:=ah (FQ o3 (by omega));go_wp2_with (at_next;refine z2R rfl (.tmp 93) rfl rfl hrun ?_)
       refine Yt.out.mono ?_;rintro e W3 ⟨rfl,pm,hperm,hsort,hrd,hch⟩;have hpl:pm.length=mem.length:=hperm.length_eq;have HPE:=ah (JJ HP.out YK.out hperm hsort);have hflat:gs.flatten.length<=2048:=by rw[YH.out,rC (by omega),hll];omega
       have hn1:1<=n:=by have:=(QZ.1 hmt).1;omega
       have pF:gs.length<=2048:=by rw[YH.out,Ti,hll];have:=LD hp.1 hn1;omega
       have hpn:pm.length<=2048:=by
        have h1:=congrArg List.length HPE.out;rw[List.length_map]at h1;have h2:=AB gs;omega
       have GR:∀{g:Nat} {t:TypeId} {cs':Array Value} {fz:Nat×Nat},Wr.heap[g]?=some (.cells cs' t fz)->t≠197->¬(Value.slice Ap mem.length cp).ownBlock=some g:=fun hb hne hs=>hne (JM o3.own hb hs);have hpw:∀i,i<w.heap.size->¬(Value.slice Ap mem.length cp).ownBlock=some i:=fun i hi hs=>by have:=(o3.lt i hs).1;omega
       have B23:aG W3 (m+1+1) 184 #[.slice As ss.length cs,.slice Ap mem.length cp]:=B2.ch hch (GR B2 (by decide));have o23:=o2.ch hch (fun g hg=>by obtain ⟨cs5,hB5⟩:=jg o2.own hg;exact GR hB5 (by decide)) hpw;have hfit:=FT HP.out hperm hch (fun g cs5 hB5=>GR hB5 (by decide)) pF;have hsf:∀s∈ss,s.fit:=by rw[Yr.out];exact qB IE.out (by omega)
       have XA:ss.length<=2048:=by rw[Yr.out,WZ];exact pF
       have hTb:(iV ss (pm.map PV.e)).length<=100000000:=KT hsf (fun q' hq'=>by
        obtain ⟨x,hx,rfl⟩:=List.mem_map.1 hq';obtain ⟨_,b2,b3,b4⟩:=hfit x hx
        exact ⟨b2,by unfold PV.e;rw[List.length_map];exact b3,fun g hg=>by
         obtain ⟨z,hz,rfl⟩:=List.mem_map.1 hg;have:=b4 z hz;omega⟩) XA (by rw[List.length_map];exact hpn)
       have hby:=Ie (w:=W3) (D:=(· <W3.heap.size)) (As:=As) (cs:=cs) (Ap:=Ap) (cp:=cp) (o23.rd.below_ (by decide)) (hrd.below_ (by decide)) hfit hsf XA hpn hTb;have hF:iJ (iV ss (pm.map PV.e))=jS gs:=by rw[HPE.out,Yr.out];rfl
       have hFl:(iV ss (pm.map PV.e)).length+4=(jS gs).length:=(by rw[←hF,Zh]);rw[hF,hFl,hpl]at hby;have jM:=ah hby;obtain ⟨F,hFe⟩:∃F,F=jS gs:=⟨_,rfl⟩;rw[←hFe]at jM hFl;have HFE:=ah hFe;have hFb:F.length<=100000004/\0<F.length:=(by omega);have c20:W3.cell? ⟨m+1+1,0,none⟩=some (.slice As ss.length cs):=B23.cell 0;have c21:W3.cell? ⟨m+1+1,1,none⟩=some (.slice Ap mem.length cp):=B23.cell 1;obtain ⟨vo,Bo,oo⟩:=HP.out.out;have Bo3:=ah (Bo.ch hch (GR Bo (by decide)));have oo3:=ah (oo.ch hch (fun g t cs' fz hb hs e=>GR hb (by rw[e];decide) hs) hpw);have hdk:=HP.out.dfr;have DK3:=ah ((hch.block Dk (Array.getElem?_eq_some_iff.1 hdk).1 (uf o3.own (fun _ _ _ e=>by rw[hdk]at e;cases e))).trans hdk);clear hby hF hFl hFe hTb hsf hfit GR hpw hrd hch hperm hsort b21 o2 o3 B2 Bo oo hdk HP YK Yt o23 B23;go_wp2_with fail;refine jM.out.mono ?_;rintro e W4 ⟨kf,capf,rfl,of, -, -, -, -⟩;have N4:=of.nx;have Bo4:=ah (Bo3.out.nx N4);have oo4:=ah (oo3.out.ch N4 (fun _ _ _ _ _ hf=>hf.elim) (fun _ _ hf=>hf));have DK4:=ah ((N4.block Dk (Array.getElem?_eq_some_iff.1 DK3.out).1 fun hf=>hf).trans DK3.out);obtain ⟨Ao,co,rfl⟩:=oo4.out.form;have RF:=ah of.tZ;clear N4 of Bo3 oo3 DK3 jM c20 c21;have hbig:X.length+F.length<=100000000000:=(by omega);obtain ⟨v5,W5,happ,o5,gr5⟩:=oo4.out.app RF.out rfl hFb.2 hbig 47;obtain ⟨T,hT⟩:∃T,T=X++F:=⟨_,rfl⟩;have hTl:T.length<=10000000000:=by rw[hT,List.length_append];omega
       have HT:=ah hT;rw[←hT]at o5;clear hT;obtain ⟨A5,c5,rfl, -, -⟩:=o5.form;have c45:Ch (fun g=>(Value.slice Ao X.length co).ownBlock=some g) W4 W5:=(Ch.refl _ _).grown gr5 (fun g hg _=>hg)
       have Bo5:=ah (Bo4.out.ch c45 (fun hs=>by
        obtain ⟨_,_,cs5,fz5,hB5⟩:=oo4.out.lt _ hs;have hb':W4.heap[m+1]?=some (.cells #[.slice Ao X.length co] 47 (0,0)):=Bo4.out;rw[hB5]at hb';injection hb' with hb';injection hb' with _ e;exact absurd e (by decide)))
       have DK5:=ah ((c45.block Dk (Array.getElem?_eq_some_iff.1 DK4.out).1 (fun hs=>by
        obtain ⟨_,_,cs5,fz5,hB5⟩:=oo4.out.lt _ hs;rw[DK4.out]at hB5;cases hB5)).trans DK4.out)
       have b14:W4.cell? ⟨m+1,0,none⟩=some (.slice Ao X.length co):=Bo4.out.cell 0;obtain ⟨k0,k1,k2,k3⟩:=Ru F.length;obtain ⟨j0,hj0,y0,y1,y2⟩:=info_parts Tryz.info5;have LT:Nx W5 (W5.alloc (.cells #[.int .u8 ((F.length % 256:Nat):Int),.int .u8 ((F.length / 256 % 256:Nat):Int),.int .u8 ((F.length / 65536 % 256:Nat):Int),.int .u8 ((F.length / 16777216 % 256:Nat):Int)] 5)):=(Ch.refl (fun _=>False) W5).alloc _;have hr5:=Rd.lit W5 #[.int .u8 ((F.length % 256:Nat):Int),.int .u8 ((F.length / 256 % 256:Nat):Int),.int .u8 ((F.length / 65536 % 256:Nat):Int),.int .u8 ((F.length / 16777216 % 256:Nat):Int)] 5 (0,0);have HR5:=ah hr5;have O5:=ah (o5.tr LT);have Bo6:=ah (Bo5.out.nx LT);have DK6:=ah ((LT.block Dk (Array.getElem?_eq_some_iff.1 DK5.out).1 fun hf=>hf).trans DK5.out)
       have RZ:bl (T++four F.length)=bl T++[.int .u8 ((F.length % 256:Nat):Int),.int .u8 ((F.length / 256 % 256:Nat):Int),.int .u8 ((F.length / 65536 % 256:Nat):Int),.int .u8 ((F.length / 16777216 % 256:Nat):Int)]:=by
        unfold four bl;rw[List.map_append];rfl
       have HFO:=ah RZ;have hf4:(four F.length).length=4:=rfl;clear hr5 o5 LT c45 gr5 Bo5 DK5 RZ
       go_wp2_with (first
        |(at_builtin;refine vK rfl (.tmp 114) (.tmp 115) 47 rfl rfl rfl happ ?_)
        |(at_builtin;go_loud (refine z05 rfl (.tmp 116) (.tmp 128) _ rfl 5 j0 _ 1 1 Tryz.underlying47 hj0 y0 y1 y2 rfl (by omega) rfl O5.out _ _ 4 4 _ rfl HR5.out (by intro u hu;simp at hu;rcases hu with rfl|rfl|rfl|rfl<;>rfl) (by simp only[maxLen];omega) (by omega) ?_);intro v6 W6 o6 m6;obtain ⟨A6,c6,rfl, -, -⟩:=o6.form;have B66:=Bo6.out.ch m6.ch (fun hs=>z07 O5.out.own Bo6.out (by decide) hs);have b6c:W6.cell? ⟨m+1,0,none⟩=some (.slice Ao X.length co):=B66.cell 0;have b6f:W6.frozen? ⟨m+1,0,none⟩=false:=B66.frozen 0;have DK7:=ah ((m6.ch.block Dk (Array.getElem?_eq_some_iff.1 DK6.out).1 (uf O5.out.own (fun _ _ _ e=>by rw[DK6.out]at e;cases e))).trans DK6.out)))
       rw[←HFO.out]at o6;have CS:Ch (· =m+1) W6 (W6.setCell ⟨m+1,0,none⟩ (.slice A6 (T.length+4) c6)):=Ch.setCell (Ch.refl (· =m+1) _) (p:=⟨m+1,0,none⟩) (fun _=>rfl) _;have O7:=ah (o6.ch CS (fun g hg e=>by subst e;exact z07 o6.own B66 (by decide) hg) (fun i hi e=>by omega));have B7:=ah (show aG (W6.setCell ⟨m+1,0,none⟩ (.slice A6 (T.length+4) c6)) (m+1) 47 #[.slice A6 (T.length+4) c6] from by simpa using B66.aS 0 (.slice A6 (T.length+4) c6));have DK8:=ah ((CS.block Dk (Array.getElem?_eq_some_iff.1 DK7.out).1 (by omega)).trans DK7.out);clear o6 CS B66 b6c b6f DK7 m6 happ b14;generalize W6.setCell ⟨m+1,0,none⟩ (.slice A6 (T.length+4) c6)=W7 at *;have hbd:T.length+4+4<=140737488355328:=(by omega);have hext:((⟨#[69,78,84,82,1]⟩:ByteArray).extract 0 4).size=4:=(by decide+kernel);have XL:jP ((⟨#[69,78,84,82,1]⟩:ByteArray).extract 0 4)=[69,78,84,82]:=(by decide+kernel);refine I_ ?_;refine sD (fun w'=>w'.cell? ⟨m+1,0,none⟩=some (.slice A6 (T.length+4) c6)) (fun i=>i==3) rfl (B7.out.cell 0) (fun hS0=>?_)
       try simp only[Act.put,aA,au,ay]
       refine z00 (i:=0) (oi:=_) (v:=?_) rfl (fun _ _ _ h=>h) (Or.inl ⟨by rfl,?_⟩) ?_;rotate_left
       ·(intro w hSw;(try dsimp only at hSw);go_split_ands;go_simp;try with_reducible rfl)
       try simp only[Act.put,List.setIfInBounds_toArray]
       refine z00 (i:=1) (oi:=_) (v:=?_) rfl (fun _ _ _ h=>h) (Or.inl ⟨by rfl,?_⟩) ?_;rotate_left
       ·(intro w hSw;(try dsimp only at hSw);go_split_ands;go_simp;try with_reducible rfl)
       try simp only[Act.put]
       refine z02 (rs:=[2]) (by kernel_rfl) (by simp) (z01.cons (o:=_) rfl (fun K hK=>?_) z01.nil)
       try simp only[List.getElem_toArray,List.getElem_cons_zero,List.getElem_cons_succ,Act.put,aA,au,ay]
       have O7d:aF w W7.drew 5 1 (.slice A6 (T.length+4) c6) (T.length+4) (bl (T++four F.length)):=O7.out.tr ((Ch.refl _ _).drewN 1);refine zT rfl (.tmp 130) (.tmp 131) 47 9 rfl 5 j0 Tryz.underlying47 Tryz.underlying9 hj0 y0 y1 y2 (by rfl) O7d ((⟨#[69,78,84,82,1]⟩:ByteArray).extract 0 4) (by rfl) (by rw[hext];exact Nat.le_trans hbd (by decide)) (by rw[hext];exact hbd) ?_;intro v8 W8 o8 gr8;rw[hext,XL]at o8;obtain ⟨A8,c8,rfl, -, -⟩:=o8.form;have c78:Ch (fun g=>(Value.slice A6 (T.length+4) c6).ownBlock=some g) W7.drew W8:=(Ch.refl _ _).grown gr8 (fun g hg _=>hg);have B8:=B7.out.drew.ch c78 (fun hs=>z07 O7d.own B7.out.drew (by decide) hs);have b8c:W8.cell? ⟨m+1,0,none⟩=some (.slice A6 (T.length+4) c6):=B8.cell 0;have b8f:W8.frozen? ⟨m+1,0,none⟩=false:=B8.frozen 0;have DK9:=ah ((c78.block Dk (Array.getElem?_eq_some_iff.1 DK8.out).1 (uf O7d.own (fun _ _ _ e=>by rw[show W7.drew.heap[Dk]?=_ from DK8.out]at e;cases e))).trans DK8.out);clear gr8 c78;refine hK.out _ _ (fun _=>b8c) (fun aj=>?_);have hHeld:=aj (by decide);clear hK K aj
       try simp only[Act.put,aA,au,ay]
       refine z02 (rs:=[3]) (by kernel_rfl) (by simp) (z01.cons (o:=_) rfl (fun K hK=>?_) z01.nil);go_simp;refine hK.out _ _ (fun h=>absurd h (by decide)) (fun aj=>?_);clear hK K aj
       try simp only[Act.put,aA,au,ay]
       refine kE (by kernel_rfl) ?_ _;have CS:Ch (· =m+1) W8 (W8.setCell ⟨m+1,0,none⟩ (.slice A8 (T.length+4+4) c8)):=Ch.setCell (Ch.refl (· =m+1) _) (p:=⟨m+1,0,none⟩) (fun _=>rfl) _;have O9:=ah (o8.ch CS (fun g hg e=>by subst e;exact z07 o8.own B8 (by decide) hg) (fun i hi e=>by omega));have B9:=ah (show aG (W8.setCell ⟨m+1,0,none⟩ (.slice A8 (T.length+4+4) c8)) (m+1) 47 #[.slice A8 (T.length+4+4) c8] from by simpa using B8.aS 0 (.slice A8 (T.length+4+4) c8));have DKE:=ah ((CS.block Dk (Array.getElem?_eq_some_iff.1 DK9.out).1 (by omega)).trans DK9.out);clear o8 CS B8 b8c b8f DK9 DK8;generalize W8.setCell ⟨m+1,0,none⟩ (.slice A8 (T.length+4+4) c8)=W9 at *;have b9:W9.cell? ⟨m+1,0,none⟩=some (.slice A8 (T.length+4+4) c8):=B9.out.cell 0
       have WH:Hid (T++four F.length++[69,78,84,82]=ES (l.map fun x=>x.row) p):=ah (by
        rw[HT.out,HX.out,HFE.out];unfold ES yI;rw[←YH.out])
       have hTL:(ES (l.map fun x=>x.row) p).length=T.length+4+4:=by rw[←WH.out];simp[hf4]
       obtain ⟨N9,hN9⟩:∃N,N=T.length+4+4:=⟨_,rfl⟩;have O10:=O9.out;rw[WH.out]at O10;rw[←hN9]at hTL b9 O10;have hN9b:0<N9/\N9<=140737488355328:=(by omega);clear O9 B9 hN9 XL hext WH;have Yq:=ah hTL;have HO:=ah O10;clear hTL O10;have hpn:((p:Int)).toNat=p:=rfl;by_cases hbig2:262144<N9
       ·have q5:decide (262144<(N9:Int))=true:=decide_eq_true (by omega)
        have HE:Hid (z13 (l.map fun x=>x.row) p=5):=ah (by unfold z13;rw[if_neg jG,if_neg (by omega),if_neg hmay,hpn,Yq.out,if_pos hbig2]);refine z2W ?_;go_wp2_with fail;refine ⟨by simp,.inl ⟨_,_,rfl,run_takeDeferred DKE.out,?_⟩⟩;have NE:=HO.out.nx.grown (grownBy_putObj' W9 Dk (.deferred none)) (fun g hg hlt=>by cases hg;omega);exact ⟨.tuple #[.slice none 0 0,.int .i64 5],by simp[results,Tryz.results61,go_sem],NY.bad HE.out (by decide) NE⟩
       ·have q5:decide (262144<(N9:Int))=false:=decide_eq_false (by omega)
        have HE:Hid (z13 (l.map fun x=>x.row) p=0):=ah (by unfold z13;rw[if_neg jG,if_neg (by omega),if_neg hmay,hpn,Yq.out,if_neg hbig2]);refine z2W ?_;go_wp2_with fail
        obtain ⟨k8,rfl⟩:∃k,A8=some ⟨k,0,none⟩:=by
         rcases HO.out.own.2 with ⟨e,e0⟩|⟨g,cap,cur,e,_⟩
         ·exfalso
          have e1:=Yq.out;omega
         ·cases e
          exact ⟨_,rfl⟩
        refine ⟨by simp,.inl ⟨_,_,rfl,run_takeDeferred DKE.out,?_⟩⟩;have NE:=HO.out.nx.grown (grownBy_putObj' W9 Dk (.deferred none)) (fun g hg hlt=>by cases hg;omega);refine ⟨.tuple #[.slice (some ⟨k8,0,none⟩) N9 c8,.int .i64 0],by simp[results,Tryz.results61,go_sem],?_⟩;refine ⟨fun h=>absurd HE.out h,fun _=>⟨k8,c8,?_,?_⟩⟩
        ·rw[hpn,Yq.out]
        ·have OO:=ownsRow_putObj HO.out.own (.deferred none) DKE.out rfl
         rw[hpn];have e9:=Yq.out;rw[←e9]at OO;exact ⟨OO,NE⟩
      ·have HP2:=ah hP2
       have Vp:=ah (HP.out.map.left_eq);obtain ⟨v2,vp,B2,o2,o3⟩:=HP2.out.idx;obtain ⟨Ap,cp,rfl, -, -⟩:=o3.form;have b21:W2.cell? ⟨m+1+1,1,none⟩=some (.slice Ap mem.length cp):=B2.cell 1;have NA:Nx W2 (W2.alloc (.cells #[.string x.text,.slice x.A x.gs.length x.c] 197)):=(Ch.refl (fun _=>False) W2).alloc _;have HOW:=ah (o3.tr NA);have HO2:=ah (o2.tr NA);have HB2:=ah (B2.nx NA);have Iy:=ah (HP2.out.tr NA);have CZ:Hid (Rd (W2.alloc (.cells #[.string x.text,.slice x.A x.gs.length x.c] 197)) (fun k=>k=W2.heap.size) 2 (some ⟨W2.heap.size,0,none⟩) 1 (qJ [x])):=ah (Rd.Xm W2 x);have hbase:w.heap.size<=(W2.alloc (.cells #[.string x.text,.slice x.A x.gs.length x.c] 197)).heap.size:=Nat.le_trans o3.nx.size NA.size;clear hP2 o2 o3 NA
       go_wp2_with (first
        |(at_next;refine z2R rfl (.tmp 93) rfl rfl hrun ?_)
        |(at_builtin;go_loud (refine z04 _ rfl (.tmp 100) (.tmp 104) _ rfl w.heap.size 197 i0 _ 2 40 Tryz.underlying182 hi0 hz0 hz1 hz2 rfl (by omega) (.slice Ap mem.length cp) mem.length (qJ mem) rfl HOW.out.own _ (some ⟨W2.heap.size,0,none⟩) 1 1 _ rfl CZ.out (OT _) (by simp only[maxLen];omega) (by omega) hbase ?_;intro v8 W3 Gf gr8 at8;obtain ⟨A8,c8,hv8, -, -⟩:=h_ Gf;subst hv8;have oB:aF w W3 197 2 (.slice A8 (mem.length+1) c8) (mem++[x]).length (qJ (mem++[x])):=⟨by rw[JF,List.length_append];exact Gf,HOW.out.nx.grown gr8 fun g hg hlt=>by have:=HOW.out.lt g hg;omega⟩;have HP3:=ah (iq.push Iy.out HB2.out HO2.out HOW.out gr8 oB (by omega));have c13:Ch (fun r=>(Value.slice Ap mem.length cp).ownBlock=some r) (W2.alloc (.cells #[.string x.text,.slice x.A x.gs.length x.c] 197)) W3:=(Ch.refl _ _).grown gr8 (fun r hr _=>hr);have B3:aG W3 (m+1+1) 184 #[v2,.slice Ap mem.length cp]:=HB2.out.ch c13 (fun hs=>z07 HOW.out.own HB2.out (by decide) hs);have b3c:W3.cell? ⟨m+1+1,1,none⟩=some (.slice Ap mem.length cp):=B3.cell 1;have b3f:W3.frozen? ⟨m+1+1,1,none⟩=false:=B3.frozen 1;clear Gf gr8 at8 oB c13 B3)))
       go_roundw
       case rel=>exact ⟨mem++[x],cnt',HP3,by rw[List.length_append,List.length_singleton];omega⟩
       case measure=>
        rw[HP3.out.map.left_eq,Vp.out];omega
     --A> done
    case hstop=>
     intro Dk c1 pre W _ _ hf _;exact hf.elim
    rw[hS7]at hl;exact ⟨by simp[World.putObj],World.putObj_heap_other (by omega),World.putObj_heap_other (by omega)⟩
end Go.Proofs.YtdbfejfhpkakhaaGreat
