/- Contracts and plain laws that the last text rests on. Conditions: each theorem states its own. -/
import Derived.Test.YtdbfejfhpkakhaaGreatKKd2PbSpB
import Derived.Test.YtdbfejfhpkakhaaGreatKKd2Q29
import Derived.Test.YtdbfejfhpkakhaaGreatKKd2Q12
import Derived.Test.YtdbfejfhpkakhaaGreatKKd2Q10
import Derived.Test.YtdbfejfhpkakhaaGreatKKd2Q31
import Derived.IntWalk
set_option maxRecDepth 100000
set_option maxHeartbeats 16000000
set_option linter.unusedVariables false
set_option linter.unusedSimpArgs false
namespace Go.Proofs.YtdbfejfhpkakhaaGreat
open Go.RowKit Go.Maps Ps
theorem NZ {gs:List GV} {n:Nat} (hn:n<gs.length):(fM gs)[n * 3+2]?=some (gs[n].sl):=(oI GV.aQ hn (by decide)).trans rfl
theorem wZ {gs:List GV} {n:Nat} (hn:n<gs.length) {y:RV} {A:Option Addr} {c:Nat}:(gs.set n (gs[n].add y A c)).map GV.key=gs.map GV.key:=by
 rw[List.map_set];have e:(gs[n].add y A c).key=(gs.map GV.key)[n]'(by rw[List.length_map];exact hn):=by rw[List.getElem_map];rfl
 rw[e,List.set_getElem_self]
theorem z36 {gs:List GV} {n:Nat} (hn:n<gs.length) {y:RV} {A:Option Addr} {c:Nat}:(gs.set n (gs[n].add y A c)).map (fun g=>g.g)=(gs.map (fun g=>g.g)).set n ((((gs.map (fun g:GV=>g.g))[n]'(by rw[List.length_map];exact hn))).add y):=by
 rw[List.map_set,List.getElem_map];rfl
theorem Ko {gs:List GV} {n:Nat} (hn:n<gs.length) {y:RV} {A:Option Addr} {c:Nat} (h:∀i (hi:i<gs.length),i≠n->gs[i].g.rows≠[]):∀g∈gs.set n (gs[n].add y A c),g.g.rows≠[]:=by
 intro g hg;obtain ⟨i,hi,rfl⟩:=List.mem_iff_getElem.1 hg;rw[List.length_set]at hi;rw[List.getElem_set];split
 ·show gs[n].g.rows++[y]≠[]
  simp
 ·next e=>exact h i hi (fun e'=>e e'.symm)
theorem Rd.Xp (w:World) (q:Int) (p:ByteArray):Rd (w.alloc (.cells #[.int .i64 q,.string p,.slice none 0 0] 135)) (fun k=>k=w.heap.size) 3 (some ⟨w.heap.size,0,none⟩) 1 (fM [⟨⟨q,p,[]⟩,none,0⟩]):=
 ⟨rfl,fun _=>⟨_,rfl,rfl,fun j u hu=>World.news_of_block (aG.new w 135 #[.int .i64 q,.string p,.slice none 0 0]) j u (by simpa [fM,GV.cs]using hu)⟩⟩
theorem oK {ops:Array Oper} {rest:List Oper} {o:Oper} {a:Act} {Q:Exit->Act->World->Prop} {w:World} {b n:Nat} {ks:List (Int×ByteArray)} {k:Int×ByteArray}
 (hg:o.guard=none) (m x v:Operand) (hop:o.op=Op.mapUpdate 171 m x v) (hm:a.eval m=.map (some b)) (hx:a.eval x=JL k) (hv:a.eval v=.int .i64 (ks.length:Int))
 (h:pU w b n ks) (hn:n<maxLen) (hk:NI k) (hno:k∉ks) (hl:ks.length<=1000000) (hK:∀w',pU w' b (n+1) (ks++[k])->Ch (· =b) w w'->wpList Tryz.prog ops Q rest (a.put o.dst undef) w'):
 wpList Tryz.prog ops Q (o::rest) a w:=by
 refine wpList_plain hg fun K' hK'=>?_;obtain ⟨w',hrun,r1,r2⟩:=h.put hn hk hno hl;unfold Oper.wp;simp[execOp,hop,hm,hx,hv,hrun,Result.andThen];exact hK' _ _ (hK w' r1 r2)
def QI (window:Int) (aH:List ByteArray) (l:List RV) (w:World) (e:Ending) (w':World):Prop:=∃(A:Option Addr) (c:Nat) (m:List GV) (zs:List RV),e=.returned (.slice A m.length c)/\
 Rd w' (fun k=>w.heap.size<=k) 3 A m.length (fM m)/\(∀g∈m,Rd w' (fun k=>w.heap.size<=k) 9 g.A g.g.rows.length (bM g.g.rows)/\g.g.rows≠[]/\g.g.rows.length<=g.c)/\(∀z∈zs,z.ok w' (fun k=>w.heap.size<=k))/\
 jm (fun z:RV=>keyE window aH z.row) (m.map (fun g=>g.g)) zs/\zs.map (fun x=>x.row)=bP dN (l.map fun x=>x.row)/\Nx w w'/\m.length<=1000
section
variable {w : World} {D : Nat → Prop} {A Bb : Option Addr} {n c d : Nat} {l : List RV} {window : Int} {aH : List ByteArray}
theorem Fq (h:Rd w D 9 A n (bM l)) (hl:l.length=n) (hn:n<=1000) (hk:∀x∈l,x.ok w D/\x.row.few) (hr:∀x∈l,gQ x.row.ak=true/\0<=x.row.time/\x.row.time<=1099511627776)
 (hw1:1<=window) (hw2:window<=9223372036854775807) (hb:Rd w (fun k=>k<w.heap.size) 1 Bb aH.length (dK aH)) (hbn:aH.length<=1000000):
 Calls Tryz.prog 60 #[.slice A n c,.int .i64 window,.slice Bb aH.length d] w (QI window aH l w):=by
 obtain ⟨i0,hi0,hz0,hz1,hz2⟩:=info_parts Tryz.fZ;obtain ⟨j0,hj0,hy0,hy1,hy2⟩:=info_parts Tryz.PL;have hmm:= @run_makeMap Tryz.prog;have hN4:Nx w (w.alloc (.map #[] 0)):=(Ch.refl _ w).alloc _;have NJ:=ah (FD (c:=c) (h.nx (by decide) hN4) hl (by omega) (fun x hx=>⟨(hk x hx).1.ch hN4 (fun _ _ _ hf=>hf) fun _ hd=>hd,by have:=(hk x hx).2.2;omega⟩));have HPM:=ah (pU.made w);have HN4:=ah hN4;have HB:=ah hb;have YJ:=ah (fun x hx=>(hk x hx).2);have EI:=ah hr;have QO:=ah (show l.length<=1000 by omega);clear h hl hn hk hr hb hN4;go_enter Tryz.func60,Tryz.ntmps60;go_wp2_with fail;refine NJ.out.mono ?_;rintro e w5 ⟨v,zs,rfl,hrows,hzm⟩;obtain ⟨Az,cz,rfl,Uz,hcz2⟩:=hrows.form;have HN5:=ah hrows.own.nx;have SH:=ah (show Rd w5 (fun k=>w.heap.size<k) 9 Az zs.length (bM zs) from hrows.own.rd.more fun k hk=>by have:=hk.2.1;rw[World.size_alloc]at this;omega);have Vf:=ah (fun z hz=>(hrows.ok z hz).ch (D':=fun k=>w.heap.size<k/\k<w5.heap.size) (Ch.refl (fun _=>False) _) (fun _ _ _ hf=>hf) fun k hk=>⟨by have:=hk.1;rw[World.size_alloc]at this;omega,hk.2.1⟩)
 have hzp:∀z∈zs,∃x∈l,x.row=z.row:=fun z hz=>by
  have h1:z.row∈zs.map fun x=>x.row:=List.mem_map_of_mem hz;rw[hzm]at h1;have h2:=(WY dN _).mem_iff.1 h1;obtain ⟨x,hx,e⟩:=List.mem_map.1 h2;exact ⟨x,hx,e⟩
 have hzl:zs.length<=1000:=by
  have h1:=congrArg List.length hzm;have h2:=(WY dN (l.map fun x=>x.row)).length_eq;simp only[List.length_map]at h1 h2;have:=QO.out;omega
 have HZF:=ah (fun z (hz:z∈zs)=>show z.row.few from by obtain ⟨x,hx,e⟩:=hzp z hz;rw[←e];exact YJ.out x hx);have HZT:=ah (fun z (hz:z∈zs)=>show gQ z.row.ak=true/\0<=z.row.time/\z.row.time<=1099511627776 from by obtain ⟨x,hx,e⟩:=hzp z hz;rw[←e];exact EI.out x hx);have HZM:=ah hzm;have Yy:=ah (HPM.out.ch hrows.own.nx (fun hf=>hf));have hmb:w.heap.size<w5.heap.size:=Yy.out.lt;clear hrows hzm hzp NJ HPM YJ EI QO Uz hcz2;go_wp2_with fail
 go_loopw [8,22] (fun s8 s22 wr=>∃(k nm:Nat) (gs:List GV),k<=zs.length/\nm<=k/\gs.length<=k/\s22=.int .i64 (k:Int)/\Hid (dV w5.heap.size wr s8 gs)/\Hid (pU wr w.heap.size nm (gs.map GV.key))/\Hid (Ch (fun j=>j=w.heap.size) w5 wr)/\
  Hid (jm (fun z:RV=>keyE window aH z.row) (gs.map (fun g=>g.g)) (zs.take k))/\Hid (∀g∈gs,g.g.rows≠[])) (fun _ s22 _=>zs.length-(intOf s22).toNat)
 case atStart=>exact ⟨0,0,[],Nat.zero_le _,Nat.zero_le _,Nat.zero_le _,rfl,ah (dV.nil _ _),Yy,ah (Ch.refl _ _),ah jm.nil,ah (by intro g hg;cases hg)⟩
 case round=>
  obtain ⟨w6,rfl⟩:∃w6:World,w6=wr:=⟨_,rfl⟩;obtain ⟨k,nm,gs,hkz,hnm,hgl,rfl,HG,HM,HC,HS,HE⟩:=hrel;obtain ⟨A8,c8,hv8,hcc1,XT⟩:=h_ HG.out.own;subst hv8;by_cases hlt:k<zs.length
  ·have HZR6:=ah (SH.out.ch (by decide) HC.out (fun j _ hd e=>by omega))
   obtain ⟨ad,rfl, -,p0,p1,p2,p3,p4,p5,p6,p7,p8⟩:=qg HZR6.out hlt;have HT:=ah (List.take_succ_eq_append_getElem hlt);have KW:=(Vf.out _ (List.getElem_mem hlt)).ch (D':=fun k=>w.heap.size<k) HC.out (fun j _ hd e=>by omega) fun _ hd=>hd.1;have Zl:=HZF.out _ (List.getElem_mem hlt);have hxt:=HZT.out _ (List.getElem_mem hlt);generalize zs[k]=x at *;obtain ⟨⟨kind,time,ak,text,value,null,maker,seq,place⟩,A1,c1⟩:=x;simp only at p0 p1 p2 p3 p4 p5 p6 p7 p8 hxt;have N7:=ah ((Ch.refl (fun _=>False) w6).alloc (.cells #[.int .i64 kind,.int .i64 time,.slice A1 ak.length c1,.string text,.int .i64 value,.bool null,.int .i64 maker,.int .i64 seq,.int .i64 place] 79));have B7:=ah (aG.new w6 79 #[.int .i64 kind,.int .i64 time,.slice A1 ak.length c1,.string text,.int .i64 value,.bool null,.int .i64 maker,.int .i64 seq,.int .i64 place]);have HBY7:=ah (((HB.out.nx (by decide) HN4.out).nx (by decide) HN5.out).ch (by decide) HC.out (fun j _ hd e=>by omega))
   have h4:ak.length<=4:=by
    have:=hxt.1;unfold gQ at this;rw[Bool.and_eq_true,decide_eq_true_eq]at this;exact this.1
   have Iy:=ah (wP (c:=c1) (d:=d) (KW.1.nx (by decide) N7.out) (by show ak.length<=_;omega) (HBY7.out.nx (by decide) N7.out) (by omega));have HLS:=ah Zl.1.1;have Yp:=ah hxt;have hp0:0<=time:=hxt.2.1;have hp1:time<=1099511627776:=hxt.2.2;simp only at Iy;clear KW Zl hxt;go_wp2_with fail;clear p0 p1 p2 p3 p4 p5 p6 p7 p8;refine Iy.out.mono ?_;rintro e w8 ⟨v8,rfl,o8⟩;obtain ⟨Ap,cp,rfl, -, -⟩:=o8.form
   have hpl:(aX ak aH).length<=4:=by
    have:=List.length_filter_le (fun x:bT=>inB aH x.name) ak;unfold aX;omega
   have Vg:=ah (lC (c:=cp) o8.rd (by omega) (fun x hx=>HLS.out x (List.mem_filter.1 hx).1));have N8:=ah (N7.out.tr o8.nx);have B8:=ah (B7.out.nx o8.nx);have HPTX:Hid (vS (aX ak aH)=partT ak aH):=ah rfl;rw[HPTX.out,if_pos (z2I Yp.out.1 aH)]at Vg;clear o8 Iy;go_wp2_with fail;refine Vg.out.mono ?_;rintro e w9 ⟨rfl,n9⟩;have N9:=ah (N8.out.tr n9);have B9:=ah (B8.out.nx n9);have e1:w9.cell? ⟨w6.heap.size,1,none⟩=some (.int .i64 time):=B9.out.cell 1;have hb9:=B9.out.lt;obtain ⟨q,hq⟩:∃q,q=time.tdiv window:=⟨_,rfl⟩
   have hq0:0<=q/\q<=time:=by
    rw[hq,Int.tdiv_eq_ediv_of_nonneg hp0];exact ⟨Int.ediv_nonneg hp0 (by omega),Int.ediv_le_self _ hp0⟩
   have hq1:time.tdiv window=q:=hq.symm;have hq2:time / window=q:=(by rw[hq,Int.tdiv_eq_ediv_of_nonneg hp0]);have hq3:IntKind.i64.wrap q=q:=IntWalk.i64_in _ (by omega);have hwz:window≠0:=(by omega);obtain ⟨pt,hpt⟩:∃pt,pt=partT ak aH:=⟨_,rfl⟩;have hps:pt.size<=300:=by rw[hpt];exact z2K _ _
   have HKEY:Hid (keyE window aH ⟨kind,time,ak,text,value,null,maker,seq,place⟩=(q,pt)):=ah (by rw[hq,hpt];rfl);rw[←hpt];have N10:=ah (N9.out.alloc (.cells #[.int .i64 q,.string pt] 173));have BP:=ah (aG.new w9 173 #[.int .i64 q,.string pt]);have OKP:=ah (show NI (q,pt) from ⟨⟨by show -9223372036854775808<=q;omega,by show q<=9223372036854775807;omega⟩,by show pt.size<=1000000;omega⟩);have HM10:=ah (HM.out.ch N10.out (fun hf=>hf));have HG10:=ah (HG.out.tr N10.out);have HC10:=ah (HC.out.tr N10.out);have hs10:=HC10.out.size;simp only[World.size_alloc]at hs10;clear n9 hq hpt Vg;by_cases hex:(q,pt)∈gs.map GV.key
   ·obtain ⟨n,hn,hke⟩:=List.mem_iff_getElem.1 hex
    rw[List.length_map]at hn;have hrun:=HM10.out.look1 (by rw[List.length_map];exact hn) (by rw[hke];exact OKP.out);rw[hke]at hrun;unfold JL at hrun;simp only at hrun;clear hex;go_wp2_with fail
    obtain ⟨g8,rfl⟩:∃g8,A8=some ⟨g8,0,none⟩:=by
     rcases HG.out.own.2 with ⟨hv,h0⟩|⟨g',cap,cur,hv,_⟩
     ·omega
     ·injection hv with hv
      exact ⟨g',hv⟩
    have IG:=HG10;have HC15:=HC10;have HR15:=ah (B9.out.alloc (.cells #[.int .i64 q,.string pt] 173));obtain ⟨xn,hxn⟩:∃xn,gs[n]=xn:=⟨_,rfl⟩;obtain ⟨⟨win,part,rows⟩,An,cn⟩:=xn;have HX:=ah hxn
    have yR:=ah (show ∀i (hi:i<gs.length),gs[i].g.rows.length<=1000 from fun i hi=>by
     have h1:=HS.out.rows gs[i].g (List.mem_map_of_mem (List.getElem_mem hi));rw[h1];have h2:=List.length_filter_le (fun x:RV=>decide (keyE window aH x.row=gs[i].g.key)) (zs.take k);rw[List.length_take]at h2;omega)
    have HM15:=HM10;have Wv:=HS
    have YF:=ah (show keyE window aH ⟨kind,time,ak,text,value,null,maker,seq,place⟩=gs[n].g.key from by
     rw[HKEY.out,←hke,List.getElem_map];rfl)
    have Iz:=ah (show ∀i (hi:i<gs.length),i≠n->gs[i].g.rows≠[] from fun i hi _=>HE.out _ (List.getElem_mem hi));obtain ⟨nm2,La⟩:∃nm2,nm2=nm:=⟨_,rfl⟩;rw[←La]at HM15;have hnm3:nm2<=k:=(by omega);have hLen:gs.length=gs.length:=rfl;clear hxn hrun hke La
    have hf2:(w9.alloc (.cells #[.int .i64 q,.string pt] 173)).cell? ⟨g8,n * 3+2,none⟩=some (.slice An rows.length cn):=by
     have h1:=IG.out.own.cellAt (n * 3+2) (by omega);rw[NZ hn,HX.out]at h1;exact h1
    have hr0:=HR15.out.cell 0
    have HOW:=ah (show ((w9.alloc (.cells #[.int .i64 q,.string pt] 173)).drew.alloc (.cells #[.int .i64 kind,.int .i64 time,.slice A1 ak.length c1,.string text,.int .i64 value,.bool null,.int .i64 maker,.int .i64 seq,.int .i64 place] 79)).ownsRow w5.heap.size 79 9 (.slice An rows.length cn) rows.length (bM rows) from by
     have h1:=IG.out.rows n hn;rw[HX.out]at h1;exact (z06 h1 (Ch.refl (fun _=>False) _).drew (fun _ _ hf=>hf)).alloc _)
    have CZ:Hid (Rd ((w9.alloc (.cells #[.int .i64 q,.string pt] 173)).drew.alloc (.cells #[.int .i64 kind,.int .i64 time,.slice A1 ak.length c1,.string text,.int .i64 value,.bool null,.int .i64 maker,.int .i64 seq,.int .i64 place] 79)) (fun k=>k=w9.heap.size+1) 9 (some ⟨w9.heap.size+1,0,none⟩) 1 (bM [⟨⟨kind,time,ak,text,value,null,maker,seq,place⟩,A1,c1⟩])):=ah (by
     have h:=Rd.wW (w9.alloc (.cells #[.int .i64 q,.string pt] 173)).drew ⟨⟨kind,time,ak,text,value,null,maker,seq,place⟩,A1,c1⟩;have e:(w9.alloc (.cells #[.int .i64 q,.string pt] 173)).drew.heap.size=w9.heap.size+1:=by first|exact World.size_alloc _ _|rfl
     rw[e]at h;exact h)
    have HN15:=ah (show Nx (w9.alloc (.cells #[.int .i64 q,.string pt] 173)) ((w9.alloc (.cells #[.int .i64 q,.string pt] 173)).drew.alloc (.cells #[.int .i64 kind,.int .i64 time,.slice A1 ak.length c1,.string text,.int .i64 value,.bool null,.int .i64 maker,.int .i64 seq,.int .i64 place] 79)) from ((Ch.refl (fun _=>False) (w9.alloc (.cells #[.int .i64 q,.string pt] 173))).drew).alloc _);have EL:=ah (IG.out.tr HN15.out);have Xy:=HC15.out.size;have Yv:=ah (show w5.heap.size<=((w9.alloc (.cells #[.int .i64 q,.string pt] 173)).drew.alloc (.cells #[.int .i64 kind,.int .i64 time,.slice A1 ak.length c1,.string text,.int .i64 value,.bool null,.int .i64 maker,.int .i64 seq,.int .i64 place] 79)).heap.size from Nat.le_trans HC15.out.size HN15.out.size)
    have hrl:rows.length<=1000:=by
     have h1:=yR.out n hn;rw[HX.out]at h1;exact h1
    have hS1:(fun w'=>w'.cell? ⟨g8,n * 3+2,none⟩=some (.slice An rows.length cn)/\w'.cell? ⟨w6.heap.size,0,none⟩=some (.int .i64 kind)/\w'.cell? ⟨w6.heap.size,1,none⟩=some (.int .i64 time)/\w'.cell? ⟨w6.heap.size,2,none⟩=some (.slice A1 ak.length c1)/\w'.cell? ⟨w6.heap.size,3,none⟩=some (.string text)/\w'.cell? ⟨w6.heap.size,4,none⟩=some (.int .i64 value)/\w'.cell? ⟨w6.heap.size,5,none⟩=some (.bool null)/\w'.cell? ⟨w6.heap.size,6,none⟩=some (.int .i64 maker)/\w'.cell? ⟨w6.heap.size,7,none⟩=some (.int .i64 seq)/\w'.cell? ⟨w6.heap.size,8,none⟩=some (.int .i64 place)) (w9.alloc (.cells #[.int .i64 q,.string pt] 173)).drew:=⟨hf2,HR15.out.cell 0,HR15.out.cell 1,HR15.out.cell 2,HR15.out.cell 3,HR15.out.cell 4,HR15.out.cell 5,HR15.out.cell 6,HR15.out.cell 7,HR15.out.cell 8⟩
    have hS2:(fun w'=>w'.cell? ⟨g8,n * 3+2,none⟩=some (.slice An rows.length cn)/\w'.cell? ⟨w6.heap.size,0,none⟩=some (.int .i64 kind)/\w'.cell? ⟨w6.heap.size,1,none⟩=some (.int .i64 time)/\w'.cell? ⟨w6.heap.size,2,none⟩=some (.slice A1 ak.length c1)/\w'.cell? ⟨w6.heap.size,3,none⟩=some (.string text)/\w'.cell? ⟨w6.heap.size,4,none⟩=some (.int .i64 value)/\w'.cell? ⟨w6.heap.size,5,none⟩=some (.bool null)/\w'.cell? ⟨w6.heap.size,6,none⟩=some (.int .i64 maker)/\w'.cell? ⟨w6.heap.size,7,none⟩=some (.int .i64 seq)/\w'.cell? ⟨w6.heap.size,8,none⟩=some (.int .i64 place)) ((w9.alloc (.cells #[.int .i64 q,.string pt] 173)).drew.alloc (.cells #[.int .i64 kind,.int .i64 time,.slice A1 ak.length c1,.string text,.int .i64 value,.bool null,.int .i64 maker,.int .i64 seq,.int .i64 place] 79)):=⟨by
     have h1:=EL.out.own.cellAt (n * 3+2) (by omega);rw[NZ hn,HX.out]at h1;exact h1,(HR15.out.nx HN15.out).cell 0,(HR15.out.nx HN15.out).cell 1,(HR15.out.nx HN15.out).cell 2,(HR15.out.nx HN15.out).cell 3,(HR15.out.nx HN15.out).cell 4,(HR15.out.nx HN15.out).cell 5,(HR15.out.nx HN15.out).cell 6,(HR15.out.nx HN15.out).cell 7,(HR15.out.nx HN15.out).cell 8⟩
    have XB:=HR15.out.lt;have XF:(n:Int)<((gs.length:Nat):Int):=(by omega);have RX:=(IG.out.own.lt g8 rfl).2;clear hr0 hf2;refine sD (fun _=>True) (fun _=>false) rfl trivial (fun hS0=>?_);refine z00 (i:=0) (oi:=_) (v:=?_) rfl (fun _ _ _ h=>h) (Or.inl ⟨by rfl,?_⟩) ?_;rotate_left
    ·(intro w hSw;(try dsimp only at hSw);go_split_ands;go_simp;try with_reducible rfl)
    try simp only[Act.put,aA,au,ay]
    refine z00 (i:=1) (oi:=_) (v:=?_) rfl (fun _ _ _ h=>h) (Or.inl ⟨by rfl,?_⟩) ?_;rotate_left
    ·(intro w hSw;(try dsimp only at hSw);go_split_ands;go_simp;try with_reducible rfl)
    try simp only[Act.put,aA,au,ay]
    refine z00 (i:=2) (oi:=_) (v:=?_) rfl (fun _ _ _ h=>h) (Or.inl ⟨by rfl,?_⟩) ?_;rotate_left
    ·(intro w hSw;(try dsimp only at hSw);go_split_ands;go_simp;try with_reducible rfl)
    try simp only[Act.put,aA,au,ay]
    refine z00 (i:=3) (oi:=_) (v:=?_) rfl (fun _ _ _ h=>h) (Or.inl ⟨by rfl,?_⟩) ?_;rotate_left
    ·(intro w hSw;(try dsimp only at hSw);go_split_ands;go_simp;try with_reducible rfl)
    try simp only[Act.put,aA,au,ay]
    refine z00 (i:=4) (oi:=_) (v:=?_) rfl (fun _ _ _ h=>h) (Or.inl ⟨by rfl,?_⟩) ?_;rotate_left
    ·(intro w hSw;(try dsimp only at hSw);go_split_ands;go_simp;try with_reducible rfl)
    try simp only[Act.put,aA,au,ay]
    refine z00 (i:=5) (oi:=_) (v:=?_) rfl (fun _ _ _ h=>h) (Or.inl ⟨by rfl,?_⟩) ?_;rotate_left
    ·(intro w hSw;(try dsimp only at hSw);go_split_ands;go_simp;try with_reducible rfl)
    try simp only[Act.put,aA,au,ay]
    refine W_ (fun w'=>w'.cell? ⟨g8,n * 3+2,none⟩=some (.slice An rows.length cn)/\w'.cell? ⟨w6.heap.size,0,none⟩=some (.int .i64 kind)/\w'.cell? ⟨w6.heap.size,1,none⟩=some (.int .i64 time)/\w'.cell? ⟨w6.heap.size,2,none⟩=some (.slice A1 ak.length c1)/\w'.cell? ⟨w6.heap.size,3,none⟩=some (.string text)/\w'.cell? ⟨w6.heap.size,4,none⟩=some (.int .i64 value)/\w'.cell? ⟨w6.heap.size,5,none⟩=some (.bool null)/\w'.cell? ⟨w6.heap.size,6,none⟩=some (.int .i64 maker)/\w'.cell? ⟨w6.heap.size,7,none⟩=some (.int .i64 seq)/\w'.cell? ⟨w6.heap.size,8,none⟩=some (.int .i64 place)) (fun i=>decide (9<=i)) (fun _=>trivial) ?_;refine z00 (i:=6) (oi:=_) (v:=?_) rfl (fun _ _ _ h=>h) (Or.inl ⟨by rfl,?_⟩) ?_;rotate_left
    ·(intro w hSw;(try dsimp only at hSw);go_split_ands;go_simp;try with_reducible rfl)
    try simp only[Act.put,aA,au,ay]
    refine z00 (i:=7) (oi:=_) (v:=?_) rfl (fun _ _ _ h=>h) (Or.inl ⟨by rfl,?_⟩) ?_;rotate_left
    ·(intro w hSw;(try dsimp only at hSw);go_split_ands;go_simp;try with_reducible rfl)
    try simp only[Act.put,aA,au,ay]
    refine z02 (rs:=[8]) (by kernel_rfl) (by simp) (z01.cons (o:=_) rfl (fun K hK=>?_) z01.nil);go_simp;refine hK.out _ _ (fun _=>hS2) (fun aj=>?_);have hHeld:=aj (by decide);clear hK K aj
    try simp only[Act.put,aA,au,ay]
    refine z02 (rs:=[9]) (by kernel_rfl) (by simp) (z01.cons (o:=_) rfl (fun K hK=>?_) z01.nil);refine Ns _ rfl (.tmp 69) (.tmp 71) _ rfl w5.heap.size 79 i0 _ 9 96 Tryz.underlying34 hi0 hz0 hz1 hz2 rfl (by omega) (.slice An rows.length cn) rows.length (bM rows) rfl HOW.out _ (some ⟨w9.heap.size+1,0,none⟩) 1 1 _ rfl CZ.out (IY _) (by simp only[maxLen];omega) (by omega) Yv.out ?_;intro v20 w20 gV gr20 at20;obtain ⟨A20,c20,hv20, -, -⟩:=h_ gV;subst hv20;have ch20:Ch (fun k=>(Value.slice An rows.length cn).ownBlock=some k) ((w9.alloc (.cells #[.int .i64 q,.string pt] 173)).drew.alloc (.cells #[.int .i64 kind,.int .i64 time,.slice A1 ak.length c1,.string text,.int .i64 value,.bool null,.int .i64 maker,.int .i64 seq,.int .i64 place] 79)) w20:=(Ch.refl _ _).grown gr20 (fun k hk _=>hk)
    have HG20:=ah (show dV w5.heap.size (w20.setCell ⟨g8,n * 3+2,none⟩ (.slice A20 (rows.length+1) c20)) (.slice (some ⟨g8,0,none⟩) gs.length c8) (gs.set n (gs[n].add ⟨⟨kind,time,ak,text,value,null,maker,seq,place⟩,A1,c1⟩ A20 c20)) from by
     have h1:=dV.add EL.out hn (w7:=w20) (y:=⟨⟨kind,time,ak,text,value,null,maker,seq,place⟩,A1,c1⟩) (A:=A20) (c:=c20) (by rw[HX.out];exact gV) (by rw[HX.out];exact ch20) (by
      rw[HX.out];rcases at20 with e|e
      ·exact .inl e
      ·exact .inr ⟨_,e,Nat.le_refl _⟩)
     rw[HX.out]at h1 ⊢;exact h1)
    have o20:w20.ownsRow w5.heap.size 135 3 (.slice (some ⟨g8,0,none⟩) gs.length c8) gs.length (fM gs):=z06 EL.out.own ch20 (fun j hj=>IQ EL.out.own HOW.out (by decide) j hj)
    have f20:w20.cell? ⟨g8,n * 3+2,none⟩=some (.slice An rows.length cn):=by
     have h1:=o20.cellAt (n * 3+2) (by omega);rw[NZ hn,HX.out]at h1;exact h1
    have z20:w20.frozen? ⟨g8,n * 3+2,none⟩=false:=o20.frozenAt _;have Lc:w5.heap.size<=g8:=(IG.out.own.lt g8 rfl).1;have cc20:Ch (fun j=>w5.heap.size<=j) (w9.alloc (.cells #[.int .i64 q,.string pt] 173)) w20:=(HN15.out.mono (fun _ _ hf=>hf.elim)).trans (ch20.mono fun j _ hj=>(HOW.out.lt j hj).1) fun _ _ hh=>hh;have Vw:=ah (Ch.setCell cc20 (p:=⟨g8,n * 3+2,none⟩) (fun _=>Lc) (.slice A20 (rows.length+1) c20));have HC20:=ah (HC15.out.trans Vw.out fun i hi hs=>absurd hs (by omega))
    have HM20:=ah (show pU (w20.setCell ⟨g8,n * 3+2,none⟩ (.slice A20 (rows.length+1) c20)) w.heap.size nm2 ((gs.set n (gs[n].add ⟨⟨kind,time,ak,text,value,null,maker,seq,place⟩,A1,c1⟩ A20 c20)).map GV.key) from by
     rw[wZ hn];exact HM15.out.ch Vw.out (by omega))
    have HS20:=ah (show jm (fun z:RV=>keyE window aH z.row) ((gs.set n (gs[n].add ⟨⟨kind,time,ak,text,value,null,maker,seq,place⟩,A1,c1⟩ A20 c20)).map (fun g=>g.g)) (zs.take (k+1)) from by
     rw[HT.out,z36 hn];exact Wv.out.add (x:=(⟨⟨kind,time,ak,text,value,null,maker,seq,place⟩,A1,c1⟩:RV)) (n:=n) (by rw[List.length_map];exact hn) (by rw[List.getElem_map];exact YF.out))
    have HE20:=ah (Ko hn (y:=⟨⟨kind,time,ak,text,value,null,maker,seq,place⟩,A1,c1⟩) (A:=A20) (c:=c20) Iz.out);have uF:(gs.set n (gs[n].add ⟨⟨kind,time,ak,text,value,null,maker,seq,place⟩,A1,c1⟩ A20 c20)).length=gs.length:=List.length_set;clear gV gr20 at20 ch20 o20 cc20;refine hK.out _ _ (fun h=>absurd h (by decide)) (fun aj=>?_);clear hK K aj
    try simp only[Act.put,aA,au,ay]
    refine z02 (rs:=[10]) (by kernel_rfl) (by simp) (z01.cons (o:=_) rfl (fun K hK=>?_) z01.nil);go_simp;refine hK.out _ _ (fun h=>absurd h (by decide)) (fun aj=>?_);clear hK K aj
    try simp only[Act.put,aA,au,ay]
    refine z02 (rs:=[11]) (by kernel_rfl) (by simp) (z01.cons (o:=_) rfl (fun K hK=>?_) z01.nil);go_simp;refine hK.out _ _ (fun h=>absurd h (by decide)) (fun aj=>?_);clear hK K aj
    try simp only[Act.put,aA,au,ay]
    refine z02 (rs:=[12]) (by kernel_rfl) (by simp) (z01.cons (o:=_) rfl (fun K hK=>?_) z01.nil);go_simp;refine hK.out _ _ (fun h=>absurd h (by decide)) (fun aj=>?_);clear hK K aj
    try simp only[Act.put,aA,au,ay]
    refine kE (by kernel_rfl) ?_ _;go_wp2_with fail;go_roundw
    case rel=>exact ⟨k+1,nm2,gs.set n (gs[n].add ⟨⟨kind,time,ak,text,value,null,maker,seq,place⟩,A1,c1⟩ A20 c20),by omega,by omega,by omega,by go_num,by first|exact HG20|(rw[hLen]at HG20;exact HG20),HM20,HC20,HS20,HE20⟩
    case measure=>simp[intOf];omega
   ·obtain ⟨v0,hrun⟩:=HM10.out.look0 OKP.out hex
    have HM10':=HM10;unfold JL at hrun;simp only at hrun;have hg11:w.heap.size<w6.heap.size:=by have:=HC.out.size;omega
    have HNK:=ah (show ∀g∈gs.map (fun g:GV=>g.g),g.key≠keyE window aH ⟨kind,time,ak,text,value,null,maker,seq,place⟩ from fun g hg e=>by
     obtain ⟨y,hy,rfl⟩:=List.mem_map.1 hg;rw[HKEY.out]at e;exact hex (e▸List.mem_map_of_mem (f:=GV.key) hy))
    have HEX:=ah hex;clear hex
    go_wp2_with (first
     |(at_mapUpdate;refine oK (k:=(q,pt)) rfl _ _ _ rfl rfl rfl (by rw[List.length_map];rfl) HM10.out (by unfold maxLen;omega) OKP.out HEX.out (by rw[List.length_map];omega) ?_;intro w11 hm11 hc11;have HM11:=ah hm11;have HC11:=ah (HC10.out.trans hc11 (fun i hi hs=>hs));have HG11:=ah (HG10.out.ch hc11 (fun j hj e=>by omega));have HR11:=ah ((B9.out.alloc (.cells #[.int .i64 q,.string pt] 173)).ch hc11 (by omega));have hp11:=BP.out.ch hc11 (by omega);have pl0:w11.cell? ⟨w9.heap.size,0,none⟩=some (.int .i64 q):=hp11.cell 0;have pl1:w11.cell? ⟨w9.heap.size,1,none⟩=some (.string pt):=hp11.cell 1;have hpl:=hp11.lt;have HL11:=ah (Rd.Xp w11 q pt);have hs11:=HC11.out.size;clear hm11 hc11 hp11 hrun)
     |(at_builtin;refine z04 _ rfl (.tmp 55) (.tmp 61) _ rfl w5.heap.size 135 j0 _ 3 48 Tryz.underlying133 hj0 hy0 hy1 hy2 rfl (by omega) (.slice A8 gs.length c8) gs.length (fM gs) rfl (HG11.out.own.alloc _) _ (some ⟨w11.heap.size,0,none⟩) 1 1 _ rfl HL11.out (kR _) (by simp only[maxLen];omega) (by omega) (by simp;omega) ?_;intro v12 w12 DN gr12 at12))
    obtain ⟨A12,c12,hv12, -, -⟩:=h_ DN;subst hv12
    obtain ⟨g8,hA12⟩:∃g8,A12=some ⟨g8,0,none⟩:=by
     rcases DN.2 with ⟨hv,h0⟩|⟨g',cap,cur,hv,_⟩
     ·omega
     ·injection hv with hv
      exact ⟨g',hv⟩
    subst hA12;have N12:Nx w11 (w11.alloc (.cells #[.int .i64 q,.string pt,.slice none 0 0] 135)):=(Ch.refl (fun _=>False) w11).alloc _;have hg12:=HG11.out.tr N12;have ch12:Ch (fun j=>(Value.slice A8 gs.length c8).ownBlock=some j) (w11.alloc (.cells #[.int .i64 q,.string pt,.slice none 0 0] 135)) w12:=(Ch.refl _ _).grown gr12 (fun j hj _=>hj);have hpush:=hg12.push (q:=q) (p:=pt) DN ch12;have cc12:Ch (fun j=>w5.heap.size<=j) w11 w12:=(N12.mono (fun _ _ hf=>hf.elim)).trans (ch12.mono fun j _ hj=>(hg12.own.lt j hj).1) fun _ _ hh=>hh;have HM12:=HM11.out.ch cc12 (by omega);have HC15:=ah (HC11.out.trans cc12 fun i hi hs=>absurd hs (by omega));have HR15:=ah ((HR11.out.nx N12).ch ch12 (fun e=>z07 hg12.own (HR11.out.nx N12) (by decide) e));obtain ⟨n,hnn⟩:∃n,n=gs.length:=⟨_,rfl⟩;obtain ⟨gs2,pF⟩:∃gs2,gs2=gs++[(⟨⟨q,pt,[]⟩,none,0⟩:GV)]:=⟨_,rfl⟩;have hLen:gs2.length=gs.length+1:=by rw[pF,List.length_append];rfl
    have hn:n<gs2.length:=(by omega);have IG:Hid (dV w5.heap.size w12 (.slice (some ⟨g8,0,none⟩) gs2.length c12) gs2):=ah (by rw[hLen,pF];exact hpush);have HM15:Hid (pU w12 w.heap.size (nm+1) (gs2.map GV.key)):=ah (by rw[pF,List.map_append];exact HM12)
    have Wv:Hid (jm (fun z:RV=>keyE window aH z.row) (gs2.map (fun g=>g.g)) (zs.take k)):=ah (by
     rw[pF,List.map_append];have h1:jm (fun z:RV=>keyE window aH z.row) (gs.map (fun g=>g.g)++[⟨(keyE window aH ⟨kind,time,ak,text,value,null,maker,seq,place⟩).1,(keyE window aH ⟨kind,time,ak,text,value,null,maker,seq,place⟩).2,[]⟩]) (zs.take k):=HS.out.new (x:=(⟨⟨kind,time,ak,text,value,null,maker,seq,place⟩,A1,c1⟩:RV)) HNK.out;rw[HKEY.out]at h1;exact h1)
    have hx2:gs2[n]=(⟨⟨q,pt,[]⟩,none,0⟩:GV):=by
     have h1:gs2[n]?=some (⟨⟨q,pt,[]⟩,none,0⟩:GV):=by rw[pF,hnn];simp
     rw[List.getElem?_eq_getElem hn]at h1;injection h1
    have YF:=ah (show keyE window aH ⟨kind,time,ak,text,value,null,maker,seq,place⟩=gs2[n].g.key from by rw[HKEY.out,hx2];rfl)
    have Iz:=ah (show ∀i (hi:i<gs2.length),i≠n->gs2[i].g.rows≠[] from fun i hi hne=>by
     have hil:i<gs.length:=(by omega);have h1:gs2[i]?=gs[i]?:=(by rw[pF,List.getElem?_append_left hil]);rw[List.getElem?_eq_getElem hi,List.getElem?_eq_getElem hil]at h1;injection h1 with h1;rw[h1];exact HE.out _ (List.getElem_mem hil))
    have yR:=ah (show ∀i (hi:i<gs2.length),gs2[i].g.rows.length<=1000 from fun i hi=>by
     have h1:=Wv.out.rows gs2[i].g (List.mem_map_of_mem (List.getElem_mem hi));rw[h1];have h2:=List.length_filter_le (fun x:RV=>decide (keyE window aH x.row=gs2[i].g.key)) (zs.take k);rw[List.length_take]at h2;omega)
    obtain ⟨xn,hxn⟩:∃xn,gs2[n]=xn:=⟨_,rfl⟩;obtain ⟨⟨win,part,rows⟩,An,cn⟩:=xn;have HX:=ah hxn;obtain ⟨nm2,La⟩:∃nm2,nm2=nm+1:=⟨_,rfl⟩;rw[←La]at HM15;have hnm3:nm2<=k+1:=(by omega);rw[←hnn]at hLen ⊢;have hgl2:n<=k:=(by omega);have hng2:(n:Int)<(n:Int)+1:=(by omega);clear hxn hx2 pF La hpush HM12 cc12 ch12 hg12 N12 DN gr12 at12 HEX HNK hg11 hnn pl0 pl1
    have hf2:w12.cell? ⟨g8,n * 3+2,none⟩=some (.slice An rows.length cn):=by
     have h1:=IG.out.own.cellAt (n * 3+2) (by omega);rw[NZ hn,HX.out]at h1;exact h1
    have hr0:=HR15.out.cell 0
    have HOW:=ah (show (w12.drew.alloc (.cells #[.int .i64 kind,.int .i64 time,.slice A1 ak.length c1,.string text,.int .i64 value,.bool null,.int .i64 maker,.int .i64 seq,.int .i64 place] 79)).ownsRow w5.heap.size 79 9 (.slice An rows.length cn) rows.length (bM rows) from by
     have h1:=IG.out.rows n hn;rw[HX.out]at h1;exact (z06 h1 (Ch.refl (fun _=>False) _).drew (fun _ _ hf=>hf)).alloc _)
    have CZ:Hid (Rd (w12.drew.alloc (.cells #[.int .i64 kind,.int .i64 time,.slice A1 ak.length c1,.string text,.int .i64 value,.bool null,.int .i64 maker,.int .i64 seq,.int .i64 place] 79)) (fun k=>k=w12.heap.size) 9 (some ⟨w12.heap.size,0,none⟩) 1 (bM [⟨⟨kind,time,ak,text,value,null,maker,seq,place⟩,A1,c1⟩])):=ah (by
     have h:=Rd.wW w12.drew ⟨⟨kind,time,ak,text,value,null,maker,seq,place⟩,A1,c1⟩;have e:w12.drew.heap.size=w12.heap.size:=by first|exact World.size_alloc _ _|rfl
     rw[e]at h;exact h)
    have HN15:=ah (show Nx w12 (w12.drew.alloc (.cells #[.int .i64 kind,.int .i64 time,.slice A1 ak.length c1,.string text,.int .i64 value,.bool null,.int .i64 maker,.int .i64 seq,.int .i64 place] 79)) from ((Ch.refl (fun _=>False) w12).drew).alloc _);have EL:=ah (IG.out.tr HN15.out);have Xy:=HC15.out.size;have Yv:=ah (show w5.heap.size<=(w12.drew.alloc (.cells #[.int .i64 kind,.int .i64 time,.slice A1 ak.length c1,.string text,.int .i64 value,.bool null,.int .i64 maker,.int .i64 seq,.int .i64 place] 79)).heap.size from Nat.le_trans HC15.out.size HN15.out.size)
    have hrl:rows.length<=1000:=by
     have h1:=yR.out n hn;rw[HX.out]at h1;exact h1
    have hS1:(fun w'=>w'.cell? ⟨g8,n * 3+2,none⟩=some (.slice An rows.length cn)/\w'.cell? ⟨w6.heap.size,0,none⟩=some (.int .i64 kind)/\w'.cell? ⟨w6.heap.size,1,none⟩=some (.int .i64 time)/\w'.cell? ⟨w6.heap.size,2,none⟩=some (.slice A1 ak.length c1)/\w'.cell? ⟨w6.heap.size,3,none⟩=some (.string text)/\w'.cell? ⟨w6.heap.size,4,none⟩=some (.int .i64 value)/\w'.cell? ⟨w6.heap.size,5,none⟩=some (.bool null)/\w'.cell? ⟨w6.heap.size,6,none⟩=some (.int .i64 maker)/\w'.cell? ⟨w6.heap.size,7,none⟩=some (.int .i64 seq)/\w'.cell? ⟨w6.heap.size,8,none⟩=some (.int .i64 place)) w12.drew:=⟨hf2,HR15.out.cell 0,HR15.out.cell 1,HR15.out.cell 2,HR15.out.cell 3,HR15.out.cell 4,HR15.out.cell 5,HR15.out.cell 6,HR15.out.cell 7,HR15.out.cell 8⟩
    have hS2:(fun w'=>w'.cell? ⟨g8,n * 3+2,none⟩=some (.slice An rows.length cn)/\w'.cell? ⟨w6.heap.size,0,none⟩=some (.int .i64 kind)/\w'.cell? ⟨w6.heap.size,1,none⟩=some (.int .i64 time)/\w'.cell? ⟨w6.heap.size,2,none⟩=some (.slice A1 ak.length c1)/\w'.cell? ⟨w6.heap.size,3,none⟩=some (.string text)/\w'.cell? ⟨w6.heap.size,4,none⟩=some (.int .i64 value)/\w'.cell? ⟨w6.heap.size,5,none⟩=some (.bool null)/\w'.cell? ⟨w6.heap.size,6,none⟩=some (.int .i64 maker)/\w'.cell? ⟨w6.heap.size,7,none⟩=some (.int .i64 seq)/\w'.cell? ⟨w6.heap.size,8,none⟩=some (.int .i64 place)) (w12.drew.alloc (.cells #[.int .i64 kind,.int .i64 time,.slice A1 ak.length c1,.string text,.int .i64 value,.bool null,.int .i64 maker,.int .i64 seq,.int .i64 place] 79)):=⟨by
     have h1:=EL.out.own.cellAt (n * 3+2) (by omega);rw[NZ hn,HX.out]at h1;exact h1,(HR15.out.nx HN15.out).cell 0,(HR15.out.nx HN15.out).cell 1,(HR15.out.nx HN15.out).cell 2,(HR15.out.nx HN15.out).cell 3,(HR15.out.nx HN15.out).cell 4,(HR15.out.nx HN15.out).cell 5,(HR15.out.nx HN15.out).cell 6,(HR15.out.nx HN15.out).cell 7,(HR15.out.nx HN15.out).cell 8⟩
    have XB:=HR15.out.lt;have XF:(n:Int)<(((n+1):Nat):Int):=(by omega);have RX:=(IG.out.own.lt g8 rfl).2;clear hr0 hf2;refine sD (fun _=>True) (fun _=>false) rfl trivial (fun hS0=>?_);refine z00 (i:=0) (oi:=_) (v:=?_) rfl (fun _ _ _ h=>h) (Or.inl ⟨by rfl,?_⟩) ?_;rotate_left
    ·(intro w hSw;(try dsimp only at hSw);go_split_ands;go_simp;try with_reducible rfl)
    try simp only[Act.put,aA,au,ay]
    refine z00 (i:=1) (oi:=_) (v:=?_) rfl (fun _ _ _ h=>h) (Or.inl ⟨by rfl,?_⟩) ?_;rotate_left
    ·(intro w hSw;(try dsimp only at hSw);go_split_ands;go_simp;try with_reducible rfl)
    try simp only[Act.put,aA,au,ay]
    refine z00 (i:=2) (oi:=_) (v:=?_) rfl (fun _ _ _ h=>h) (Or.inl ⟨by rfl,?_⟩) ?_;rotate_left
    ·(intro w hSw;(try dsimp only at hSw);go_split_ands;go_simp;try with_reducible rfl)
    try simp only[Act.put,aA,au,ay]
    refine z00 (i:=3) (oi:=_) (v:=?_) rfl (fun _ _ _ h=>h) (Or.inl ⟨by rfl,?_⟩) ?_;rotate_left
    ·(intro w hSw;(try dsimp only at hSw);go_split_ands;go_simp;try with_reducible rfl)
    try simp only[Act.put,aA,au,ay]
    refine z00 (i:=4) (oi:=_) (v:=?_) rfl (fun _ _ _ h=>h) (Or.inl ⟨by rfl,?_⟩) ?_;rotate_left
    ·(intro w hSw;(try dsimp only at hSw);go_split_ands;go_simp;try with_reducible rfl)
    try simp only[Act.put,aA,au,ay]
    refine z00 (i:=5) (oi:=_) (v:=?_) rfl (fun _ _ _ h=>h) (Or.inl ⟨by rfl,?_⟩) ?_;rotate_left
    ·(intro w hSw;(try dsimp only at hSw);go_split_ands;go_simp;try with_reducible rfl)
    try simp only[Act.put,aA,au,ay]
    refine W_ (fun w'=>w'.cell? ⟨g8,n * 3+2,none⟩=some (.slice An rows.length cn)/\w'.cell? ⟨w6.heap.size,0,none⟩=some (.int .i64 kind)/\w'.cell? ⟨w6.heap.size,1,none⟩=some (.int .i64 time)/\w'.cell? ⟨w6.heap.size,2,none⟩=some (.slice A1 ak.length c1)/\w'.cell? ⟨w6.heap.size,3,none⟩=some (.string text)/\w'.cell? ⟨w6.heap.size,4,none⟩=some (.int .i64 value)/\w'.cell? ⟨w6.heap.size,5,none⟩=some (.bool null)/\w'.cell? ⟨w6.heap.size,6,none⟩=some (.int .i64 maker)/\w'.cell? ⟨w6.heap.size,7,none⟩=some (.int .i64 seq)/\w'.cell? ⟨w6.heap.size,8,none⟩=some (.int .i64 place)) (fun i=>decide (9<=i)) (fun _=>trivial) ?_;refine z00 (i:=6) (oi:=_) (v:=?_) rfl (fun _ _ _ h=>h) (Or.inl ⟨by rfl,?_⟩) ?_;rotate_left
    ·(intro w hSw;(try dsimp only at hSw);go_split_ands;go_simp;try with_reducible rfl)
    try simp only[Act.put,aA,au,ay]
    refine z00 (i:=7) (oi:=_) (v:=?_) rfl (fun _ _ _ h=>h) (Or.inl ⟨by rfl,?_⟩) ?_;rotate_left
    ·(intro w hSw;(try dsimp only at hSw);go_split_ands;go_simp;try with_reducible rfl)
    try simp only[Act.put,aA,au,ay]
    refine z02 (rs:=[8]) (by kernel_rfl) (by simp) (z01.cons (o:=_) rfl (fun K hK=>?_) z01.nil);go_simp;refine hK.out _ _ (fun _=>hS2) (fun aj=>?_);have hHeld:=aj (by decide);clear hK K aj
    try simp only[Act.put,aA,au,ay]
    refine z02 (rs:=[9]) (by kernel_rfl) (by simp) (z01.cons (o:=_) rfl (fun K hK=>?_) z01.nil);refine Ns _ rfl (.tmp 69) (.tmp 71) _ rfl w5.heap.size 79 i0 _ 9 96 Tryz.underlying34 hi0 hz0 hz1 hz2 rfl (by omega) (.slice An rows.length cn) rows.length (bM rows) rfl HOW.out _ (some ⟨w12.heap.size,0,none⟩) 1 1 _ rfl CZ.out (IY _) (by simp only[maxLen];omega) (by omega) Yv.out ?_;intro v20 w20 gV gr20 at20;obtain ⟨A20,c20,hv20, -, -⟩:=h_ gV;subst hv20;have ch20:Ch (fun k=>(Value.slice An rows.length cn).ownBlock=some k) (w12.drew.alloc (.cells #[.int .i64 kind,.int .i64 time,.slice A1 ak.length c1,.string text,.int .i64 value,.bool null,.int .i64 maker,.int .i64 seq,.int .i64 place] 79)) w20:=(Ch.refl _ _).grown gr20 (fun k hk _=>hk)
    have HG20:=ah (show dV w5.heap.size (w20.setCell ⟨g8,n * 3+2,none⟩ (.slice A20 (rows.length+1) c20)) (.slice (some ⟨g8,0,none⟩) gs2.length c12) (gs2.set n (gs2[n].add ⟨⟨kind,time,ak,text,value,null,maker,seq,place⟩,A1,c1⟩ A20 c20)) from by
     have h1:=dV.add EL.out hn (w7:=w20) (y:=⟨⟨kind,time,ak,text,value,null,maker,seq,place⟩,A1,c1⟩) (A:=A20) (c:=c20) (by rw[HX.out];exact gV) (by rw[HX.out];exact ch20) (by
      rw[HX.out];rcases at20 with e|e
      ·exact .inl e
      ·exact .inr ⟨_,e,Nat.le_refl _⟩)
     rw[HX.out]at h1 ⊢;exact h1)
    have o20:w20.ownsRow w5.heap.size 135 3 (.slice (some ⟨g8,0,none⟩) gs2.length c12) gs2.length (fM gs2):=z06 EL.out.own ch20 (fun j hj=>IQ EL.out.own HOW.out (by decide) j hj)
    have f20:w20.cell? ⟨g8,n * 3+2,none⟩=some (.slice An rows.length cn):=by
     have h1:=o20.cellAt (n * 3+2) (by omega);rw[NZ hn,HX.out]at h1;exact h1
    have z20:w20.frozen? ⟨g8,n * 3+2,none⟩=false:=o20.frozenAt _;have Lc:w5.heap.size<=g8:=(IG.out.own.lt g8 rfl).1;have cc20:Ch (fun j=>w5.heap.size<=j) w12 w20:=(HN15.out.mono (fun _ _ hf=>hf.elim)).trans (ch20.mono fun j _ hj=>(HOW.out.lt j hj).1) fun _ _ hh=>hh;have Vw:=ah (Ch.setCell cc20 (p:=⟨g8,n * 3+2,none⟩) (fun _=>Lc) (.slice A20 (rows.length+1) c20));have HC20:=ah (HC15.out.trans Vw.out fun i hi hs=>absurd hs (by omega))
    have HM20:=ah (show pU (w20.setCell ⟨g8,n * 3+2,none⟩ (.slice A20 (rows.length+1) c20)) w.heap.size nm2 ((gs2.set n (gs2[n].add ⟨⟨kind,time,ak,text,value,null,maker,seq,place⟩,A1,c1⟩ A20 c20)).map GV.key) from by
     rw[wZ hn];exact HM15.out.ch Vw.out (by omega))
    have HS20:=ah (show jm (fun z:RV=>keyE window aH z.row) ((gs2.set n (gs2[n].add ⟨⟨kind,time,ak,text,value,null,maker,seq,place⟩,A1,c1⟩ A20 c20)).map (fun g=>g.g)) (zs.take (k+1)) from by
     rw[HT.out,z36 hn];exact Wv.out.add (x:=(⟨⟨kind,time,ak,text,value,null,maker,seq,place⟩,A1,c1⟩:RV)) (n:=n) (by rw[List.length_map];exact hn) (by rw[List.getElem_map];exact YF.out))
    have HE20:=ah (Ko hn (y:=⟨⟨kind,time,ak,text,value,null,maker,seq,place⟩,A1,c1⟩) (A:=A20) (c:=c20) Iz.out);have uF:(gs2.set n (gs2[n].add ⟨⟨kind,time,ak,text,value,null,maker,seq,place⟩,A1,c1⟩ A20 c20)).length=gs2.length:=List.length_set;clear gV gr20 at20 ch20 o20 cc20;refine hK.out _ _ (fun h=>absurd h (by decide)) (fun aj=>?_);clear hK K aj
    try simp only[Act.put,aA,au,ay]
    refine z02 (rs:=[10]) (by kernel_rfl) (by simp) (z01.cons (o:=_) rfl (fun K hK=>?_) z01.nil);go_simp;refine hK.out _ _ (fun h=>absurd h (by decide)) (fun aj=>?_);clear hK K aj
    try simp only[Act.put,aA,au,ay]
    refine z02 (rs:=[11]) (by kernel_rfl) (by simp) (z01.cons (o:=_) rfl (fun K hK=>?_) z01.nil);go_simp;refine hK.out _ _ (fun h=>absurd h (by decide)) (fun aj=>?_);clear hK K aj
    try simp only[Act.put,aA,au,ay]
    refine z02 (rs:=[12]) (by kernel_rfl) (by simp) (z01.cons (o:=_) rfl (fun K hK=>?_) z01.nil);go_simp;refine hK.out _ _ (fun h=>absurd h (by decide)) (fun aj=>?_);clear hK K aj
    try simp only[Act.put,aA,au,ay]
    refine kE (by kernel_rfl) ?_ _;go_wp2_with fail;go_roundw
    case rel=>exact ⟨k+1,nm2,gs2.set n (gs2[n].add ⟨⟨kind,time,ak,text,value,null,maker,seq,place⟩,A1,c1⟩ A20 c20),by omega,by omega,by omega,by go_num,by first|exact HG20|(rw[hLen]at HG20;exact HG20),HM20,HC20,HS20,HE20⟩
    case measure=>simp[intOf];omega
  ·have IU:Hid (jm (fun z:RV=>keyE window aH z.row) (gs.map (fun g=>g.g)) zs):=ah (by have h:=HS.out;rw[List.take_of_length_le (by omega)]at h;exact h)
   have HN6:=ah (show Nx w w6 from (HN4.out.tr HN5.out).trans HC.out fun i hi e=>by omega);have HOO:=ah (show aF w w6 135 3 (.slice A8 gs.length c8) gs.length (fM gs) from ⟨su HG.out.own (by omega),HN6.out⟩);have HSF:=ah (sZ HOO.out (by omega));clear HS HM HOO;go_wp2_with fail;refine HSF.out.mono ?_;rintro e w7 ⟨rfl,m,hperm, -,hrd,hch⟩;have HP:=ah hperm;have jd:=ah hrd;have QT:=ah hch;have HML:=ah hperm.length_eq;clear hperm hrd hch HSF;go_wp2_with fail;go_ret;refine ⟨A8,c8,m,zs,by rw[HML.out];rfl,jd.out.more (fun k hk=>by have:=(HG.out.own.lt k hk).1;omega),fun g hg=>?_,fun z hz=>?_,IU.out.perm (HP.out.map _),HZM.out,HN6.out.trans QT.out fun i hi e=>(by have:=(HG.out.own.lt i e).1;omega),by rw[HML.out];omega⟩
   ·have hgg:=HP.out.mem_iff.1 hg
    obtain ⟨i,hi,rfl⟩:=List.mem_iff_getElem.1 hgg;refine ⟨?_,HE.out _ hgg,?_⟩
    ·exact ((Rd.bW (HG.out.rows i hi)).ch (by decide) QT.out fun j _ hd e=>IQ (HG.out.rows i hi) HG.out.own (by decide) j hd.1 e).more fun k hd=>by have:=hd.2.1;omega
    ·obtain ⟨_,_,e,hh,_⟩:=h_ (HG.out.rows i hi)
     unfold GV.sl at e;injection e with _ _ e;omega
   ·exact ((Vf.out z hz).ch (D':=fun k=>w.heap.size<k/\k<w5.heap.size) HC.out (fun j _ hd e=>by omega) fun _ hd=>hd).ch QT.out (fun j _ hd e=>by have:=(HG.out.own.lt j e).1;have:=hd.2;omega) fun _ hd=>by have:=hd.1;omega
end
end Go.Proofs.YtdbfejfhpkakhaaGreat
