/- Contracts and plain laws that the last text rests on. Conditions: each theorem states its own. -/
import Derived.Test.YtdbfejfhpkakhaaGreatKKd2Q28
import Derived.Test.YtdbfejfhpkakhaaGreatKKd2PbSpE
import Derived.Test.YtdbfejfhpkakhaaGreatKKd2Q36
set_option maxRecDepth 100000
set_option maxHeartbeats 32000000
set_option linter.unusedVariables false
set_option linter.unusedSimpArgs false
namespace Go.Proofs.YtdbfejfhpkakhaaGreat
open Go.RowKit Ps
structure yV (w:World) (a:Nat) (ag life:Int) (C:aV) (A:Option Addr) (k bb:Nat) (wt wv:Value) (since:Int) (fl:Bool) (pc:Value) (bl:Int):Prop where
 blk:aG w a 83 (zn ag life C A k bb wt wv since fl pc bl)
 aH:Rd w (· <a) 1 A C.aH.length (dK C.aH)
 fits:jv C=true
section
variable {w w' : World} {a : Nat} {ag life : Int} {C : aV} {A : Option Addr} {k bb : Nat} {wt wv : Value} {since : Int} {fl : Bool} {pc : Value} {bl : Int}
theorem yV.Ib {S:Nat->Prop} (h:yV w a ag life C A k bb wt wv since fl pc bl) (c:Ch S w w') (hS:∀i,i<w.heap.size->S i->a<i):yV w' a ag life C A k bb wt wv since fl pc bl where
 blk:=h.blk.ch c fun hs=>by have:=hS a h.blk.lt hs;omega
 aH:=h.aH.ch (by decide) c fun i hi hd hs=>by have:=hS i hi hs;have hd:i<a:=hd;omega
 fits:=h.fits
theorem yV.nx (h:yV w a ag life C A k bb wt wv since fl pc bl) (c:Nx w w'):yV w' a ag life C A k bb wt wv since fl pc bl:=h.Ib c fun _ _ hf=>hf.elim
theorem yV.nc {ξ:Nat} (h:yV w a ag life C A k bb wt wv since fl pc bl) (c:Ch (NC ξ w) w w'):yV w' a ag life C A k bb wt wv since fl pc bl:=⟨h.blk.ch c h.blk.nc,h.aH.nc (by decide) c,h.fits⟩
theorem yV.aS {wt' wv':Value} {since':Int} {PZ:Bool} {pc':Value} {NH:Int} (h:yV w a ag life C A k bb wt wv since fl pc bl) (c:Ch (· =a) w w') (hb:aG w' a 83 (zn ag life C A k bb wt' wv' since' PZ pc' NH)):yV w' a ag life C A k bb wt' wv' since' PZ pc' NH:=
 ⟨hb,h.aH.ch (by decide) c fun i hi hd hs=>by have hs:i=a:=hs;have hd:i<a:=hd;omega,h.fits⟩
theorem ou.lean_ {ξ:Nat} {m n:Nat} {ch:ByteArray->Option Nat} {R:ByteArray->List RV} (h:ou ξ w a ag life C A k bb m n ch R wt wv since fl pc bl):yV w a ag life C A k bb wt wv since fl pc bl:=⟨h.blk,h.aH,h.fits⟩
end
def oq (n:Nat) (w:World) (e:Ending) (w':World):Prop:=∃s:ByteArray,e=.returned (.string s)/\s.size<=20/\(n<=9->s=⟨#[UInt8.ofNat (48+n)]⟩)/\Nx w w'
structure pV where
 k:ByteArray
 p:ByteArray
 x0:Int
 x1:Int
 x2:Int
 x3:Int
 x4:Int
 x5:Nat
 x6:Int
 g:Option Addr
def pV.cs (x:pV):List Value:=[.string x.k,.int .i64 x.x0,.string x.p,.int .i64 x.x1,.int .i64 x.x2,.int .i64 x.x3,.int .i64 x.x4,.int .u32 (x.x5:Int),.int .i64 x.x6,.pointer x.g]
def FW (l:List pV):List Value:=l.flatMap pV.cs
theorem pV.aQ (x:pV):x.cs.length=10:=rfl
theorem Pg (l:List pV):(FW l).length=l.length * 10:=zy pV.aQ l
theorem O_ (l:List pV):∀u∈FW l,u.oneCell'=true:=by
 intro u hu;obtain ⟨x,_,hx⟩:=List.mem_flatMap.1 hu;simp[pV.cs]at hx;rcases hx with rfl|rfl|rfl|rfl|rfl|rfl|rfl|rfl|rfl|rfl<;>rfl
theorem Tryz.Uf:(Tryz.prog.info? 145).map (fun i=>(i.zero,i.size,i.bytes))=some (some (.agg #[.string ⟨#[]⟩,.int .i64 0,.string ⟨#[]⟩,.int .i64 0,.int .i64 0,.int .i64 0,.int .i64 0,.int .u32 0,.int .i64 0,.pointer none]),10,96):=by kernel_rfl
theorem Rd.litP (w:World) (x:pV):Rd (w.alloc (.cells #[.string x.k,.int .i64 x.x0,.string x.p,.int .i64 x.x1,.int .i64 x.x2,.int .i64 x.x3,.int .i64 x.x4,.int .u32 (x.x5:Int),.int .i64 x.x6,.pointer x.g] 145)) (fun k=>k=w.heap.size) 10 (some ⟨w.heap.size,0,none⟩) 1 (FW [x]):=
 ⟨rfl,fun _=>⟨_,rfl,rfl,fun j u hu=>by
   have:=(aG.new w 145 #[.string x.k,.int .i64 x.x0,.string x.p,.int .i64 x.x1,.int .i64 x.x2,.int .i64 x.x3,.int .i64 x.x4,.int .u32 (x.x5:Int),.int .i64 x.x6,.pointer x.g]);exact World.news_of_block this j u (by simpa [FW,pV.cs]using hu)⟩⟩
theorem XY {w:World} {D:Nat->Prop} {A:Option Addr} {n k:Nat} {l:List GV} (h:Rd w D 3 A n (fM l)) (hk:k<l.length):∃ad,A=some ad/\D ad.block/\w.cell? (ad.add (k * 3))=some (.int .i64 l[k].g.win)/\
 w.cell? ⟨(ad.add (k * 3)).block,(ad.add (k * 3)).off+1,none⟩=some (.string l[k].g.part)/\w.cell? ⟨(ad.add (k * 3)).block,(ad.add (k * 3)).off+2,none⟩=some (.slice l[k].A l[k].g.rows.length l[k].c):=by
 have hlen:(fM l).length=l.length * 3:=zy (fun x:GV=>(rfl:x.cs.length=3)) l;have hn:0<n:=by have:=h.1;rw[hlen]at this;omega
 obtain ⟨ad,rfl,hb,hc⟩:=h.2 hn;have g:=fun i (hi:i<3) u (hu:(l[k].cs)[i]?=some u)=>hc (k * 3+i) u ((oI (fun x:GV=>(rfl:x.cs.length=3)) hk hi).trans hu);exact ⟨ad,rfl,hb,g 0 (by decide) _ rfl,z09 0 (g 1 (by decide) _ rfl),z09 1 (g 2 (by decide) _ rfl)⟩
theorem w_ {α:Type} (key:α->Int×ByteArray):∀(gs:List (kC α)) (pre:List α),gs.Pairwise (fun a b=>a.key≠b.key)->(∀g∈gs,∃x∈pre,key x=g.key)->gs.length<=pre.length
 |[],pre,_,_=>Nat.zero_le _
 |g::gs,pre,hp,h=>by
  obtain ⟨x,hx,e⟩:=h g (List.mem_cons_self ..);have hp2:=List.pairwise_cons.1 hp
  have ih:=w_ key gs (pre.filter fun y=>decide (key y≠g.key)) hp2.2 fun g2 hg2=>by
   obtain ⟨y,hy,e2⟩:=h g2 (List.mem_cons_of_mem _ hg2);refine ⟨y,List.mem_filter.2 ⟨hy,?_⟩,e2⟩;rw[decide_eq_true_eq,e2];exact fun e3=>hp2.1 g2 hg2 e3.symm
  have hlt:(pre.filter fun y=>decide (key y≠g.key)).length<pre.length:=by
   refine List.length_filter_lt_length_iff_exists.2 ⟨x,hx,?_⟩;simp[e]
  rw[List.length_cons];omega
theorem Dv {α:Type} {key:α->Int×ByteArray} {gs:List (kC α)} {pre:List α} (h:jm key gs pre) (hne:∀g∈gs,g.rows≠[]):gs.length<=pre.length:=
 w_ key gs pre h.apart fun g hg=>by
  have h1:=h.rows g hg;cases hr:g.rows with
  |nil=>exact absurd hr (hne g hg)
  |cons x r=>
   have h2:x∈pre.filter fun y=>decide (key y=g.key):=by rw[←h1,hr];exact List.mem_cons_self ..
   have h3:=List.mem_filter.1 h2;exact ⟨x,h3.1,by simpa using h3.2⟩
def bQ (l:List dF):List aC:=l.flatMap fun b=>b.l.map fun x=>x.row
def GL (ag life:Nat):ByteArray:=⟨#[98,47,UInt8.ofNat (48+ag),46,UInt8.ofNat (48+life),46,49]⟩
def NS (b:Nat) (w:World) (ag life:Nat) (C:aV) (iK:List pV):Prop:=iK≠[]->∃x rest g n dv key,iK=x::rest/\x.g=some ⟨g,0,none⟩/\Iu w g (jr key n C.piece C.tries C.wait) dv/\(ag<=9->life<=9->key=GL ag life)/\b<=g
theorem NS.ch {b:Nat} {w w':World} {ag life:Nat} {C:aV} {iK:List pV} {S:Nat->Prop} (h:NS b w ag life C iK) (c:Ch S w w') (hS:∀g cs,aG w g 147 cs->¬S g):NS b w' ag life C iK:=fun hne=>by
 obtain ⟨x,rest,g,n,dv,key,h1,h2,h3,h4⟩:=h hne;exact ⟨x,rest,g,n,dv,key,h1,h2,h3.ch c (hS g _ h3),h4⟩
theorem NS.add {b:Nat} {w:World} {ag life:Nat} {C:aV} {iK:List pV} (h:NS b w ag life C iK) (x:pV) (hx:iK=[]->∃g n dv key,x.g=some ⟨g,0,none⟩/\Iu w g (jr key n C.piece C.tries C.wait) dv/\(ag<=9->life<=9->key=GL ag life)/\b<=g):NS b w ag life C (iK++[x]):=fun _=>by
 cases iK with
 |nil=>
  obtain ⟨g,n,dv,key,h1,h2,h3⟩:=hx rfl;exact ⟨x,[],g,n,dv,key,rfl,h1,h2,h3⟩
 |cons y r=>
  obtain ⟨x0,rest,g,n,dv,key,h1,h2,h3,h4⟩:=h (by simp);injection h1 with e1 e2;subst e1 e2;exact ⟨y,r++[x],g,n,dv,key,rfl,h2,h3,h4⟩
def YT (w:World) (e:Ending) (w':World):Prop:=∃(B:Option Addr) (nb cb:Nat) (er:Int) (xs:List Nat),e=.returned (.tuple #[.slice B nb cb,.int .i64 er])/\Rd w' (fun i=>w.heap.size<=i/\i<w'.heap.size) 1 B nb (bl xs)/\xs.length=nb/\okB xs/\nb<=262144/\Nx w w'
theorem UQ {w w':World} {l:List aC} {per:Int} {e:Ending} (h:NY w l per e w'):YT w e w':=by
 by_cases h0:z13 l per=0
 ·obtain ⟨g,cap,he,o⟩:=h.2 h0
  exact ⟨_,_,_,0,ES l per.toNat,he,o.rd.more (fun i hi=>hi.2),rfl,Gi h0,(rY h0).2.2.2.2,o.nx⟩
 ·obtain ⟨he,n⟩:=h.1 h0
  exact ⟨none,0,0,_,[],he,Rd.none_ _ _ _ _,rfl,(fun x hx=>by cases hx),by decide,n⟩
def VE (w:World) (a:Nat) (ag life:Nat) (C:aV) (A:Option Addr) (k bb:Nat) (wt wv:Value) (since:Int) (fl:Bool) (rs:List aC) (e:Ending) (w':World):Prop:=
 e=.returned (.tuple #[])/\Ch (· =a) w w'/\∃(v:Value) (iK:List pV),yV w' a ag life C A k bb wt wv since fl v (iK.length:Int)/\w'.ownsRow w.heap.size 145 10 v iK.length (FW iK)/\(rs=[]->iK=[])/\
  (rs≠[]->iK≠[])/\NS w.heap.size w' ag life C iK
section
variable {w : World} {a ag life : Nat} {C : aV} {A : Option Addr} {k bb : Nat} {wt : Value} {since : Int} {fl : Bool}
theorem rZ {M:Nat} (yT:∀(n:Nat) (w:World),n<=M->Calls Tryz.prog 62 #[.int .i64 (n:Int)] w (oq n w)) (hM1:ag<=M) (hM2:life<=M) (hM3:M<=1099511627776)
 {Av:Option Addr} {nv cv:Nat} (h:yV w a ag life C A k bb wt (.slice Av nv cv) since fl (.slice none 0 0) 0) (aN:List dF) (hl:aN.length=nv) {D:Nat->Prop} (hrd:Rd w D 3 Av nv (uT aN)) (hD:∀i,D i->i≠a)
 (hb:∀x∈aN,x.ok w D/\fB x.maker x.seq (x.l.map fun y=>y.row)=0) (hr:(bQ aN).length<=1000) (RS:(bQ aN).length<=M):
 Calls Tryz.prog 37 #[.pointer (some ⟨a,0,none⟩)] w (VE w a ag life C A k bb wt (.slice Av nv cv) since fl (bQ aN)):=by
 obtain ⟨i0,hi0,hz0,hz1,hz2⟩:=info_parts Tryz.fZ;have HA:=ah h;have jd:=ah hrd;have HD:=ah hD;have HB:=ah hb;have Hl:=ah hl;have HDC:=ah yT;have HM3:=ah hM3;clear hM3;have HRS:=ah hr;have Vj:=ah RS;have d16:w.cell? ⟨a,16,none⟩=some (.slice Av nv cv):=h.blk.cell 16;have ha:=h.blk.lt
 have kQ:nv<=1000:=by
  have h1:aN.length<=(bQ aN).length:=by
   have:∀l:List dF,(∀x∈l,0<(x.l.map fun y=>y.row).length)->l.length<=(bQ l).length:=fun l=>by
    induction l with
    |nil=>intro _;simp
    |cons y l ih=>
     intro hx;have h2:=hx y (List.mem_cons_self ..);have h3:=ih fun z hz=>hx z (List.mem_cons_of_mem _ hz);simp only[bQ,List.flatMap_cons,List.length_append,List.length_cons]at h3 ⊢;omega
   exact this aN fun x hx=>List.length_pos_iff.2 (z1n (hb x hx).2).2.1
  omega
 clear h hrd hD hb hr RS yT hl;go_enter Tryz.func37,Tryz.ntmps37;go_wp2_with fail;go_loopw [2,15] (fun v i wr=>∃(j:Nat) (zs:List RV),j<=nv/\i=.int .i64 (j:Int)/\Hid (bZ w wr v zs)/\Hid (zs.map (fun x=>x.row)=bQ (aN.take j))) (fun _ i _=>nv-(intOf i).toNat)
 case atStart=>exact ⟨0,[],Nat.zero_le _,rfl,ah (bZ.nil w w (Ch.refl _ _)),ah rfl⟩
 case round=>
  obtain ⟨w4,rfl⟩:∃w4:World,w4=wr:=⟨_,rfl⟩;obtain ⟨j,zs,hjn,rfl,HR,HM⟩:=hrel;obtain ⟨A2,c2,hv2, -, -⟩:=HR.out.form;subst hv2;by_cases hlt:j<nv
  ·have hjl:j<aN.length:=by rw[Hl.out];exact hlt
   obtain ⟨ad,rfl, -,p0,p1,p2⟩:=Sm (jd.out.nx (by decide) HR.out.own.nx) hjl;obtain ⟨hbo,XR⟩:=HB.out _ (List.getElem_mem hjl)
   have HT:=ah (show bQ (aN.take (j+1))=bQ (aN.take j)++aN[j].l.map fun x=>x.row from by
    unfold bQ;rw[List.take_succ_eq_append_getElem hjl,List.flatMap_append];simp)
   have EK:=ah (show (bQ (aN.take (j+1))).length<=1000 from by
    refine Nat.le_trans ?_ HRS.out;unfold bQ;conv=>rhs;rw[←List.take_append_drop (j+1) aN,List.flatMap_append,List.length_append]
    omega)
   generalize aN[j]=x at *;obtain ⟨q1, -, -, -, -, -,q7⟩:=z1n XR;rw[List.length_map]at q1;have hrw:=fun w' (c:Nx w w')=>lZ x (hbo.nx c) (by omega) (fun y hy=>by have:=(Nu (Nw (q7 y.row (List.mem_map_of_mem hy))).1).1;omega);unfold oG at hrw;have HRW:=ah hrw;have N5:=ah (HR.out.own.nx.tr ((Ch.refl (fun _=>False) w4).alloc (.cells #[.int .i64 x.maker,.int .i64 x.seq,.slice x.A x.l.length x.c] 37)));have HR5:=ah (HR.out.tr ((Ch.refl (fun _=>False) w4).alloc (.cells #[.int .i64 x.maker,.int .i64 x.seq,.slice x.A x.l.length x.c] 37)));clear hrw hbo XR q7;go_wp2_with fail;refine (HRW.out _ N5.out).mono ?_;rintro e w6 ⟨vr,ys,rfl,hro,hys⟩;obtain ⟨Ar,cr,rfl, -, -⟩:=hro.form;have HR6:=ah (HR5.out.tr hro.own.nx);have HRR:=ah (hro.own.rd.more (D':=fun _=>True) fun _ _=>trivial)
   have Vp:=ah (show zs.length+ys.length<=1000 from by
    have h1:=EK.out;rw[HT.out,←HM.out,←hys,List.length_append,List.length_map,List.length_map]at h1;exact h1)
   have HYS:=ah hys;have HYK:=ah (fun y hy=>(hro.ok y hy).ch (D':=fun k=>w.heap.size<=k/\k<w6.heap.size/\(Value.slice A2 zs.length c2).ownBlock≠some k) (Ch.refl (fun _=>False) w6) (fun _ _ _ hf=>hf) fun i hi=>⟨by have:=hi.1;have:=N5.out.size;omega,hi.2.1,fun e=>by have:=(HR5.out.own.lt i e).2;have:=hi.1;omega⟩);have hle:=Vp.out;have hsz:=HR6.out.own.nx.size;clear hro hys;go_wp2_with (at_builtin;refine z05 rfl (.tmp 19) (.tmp 21) _ rfl 79 i0 _ 9 96 Tryz.underlying34 hi0 hz0 hz1 hz2 rfl (by omega) rfl HR6.out.own _ Ar ys.length cr (bM ys) rfl HRR.out (IY _) (by simp only[maxLen];omega) (by omega) ?_;intro v7 w7 o7 m7;have R7:=ah (HR6.out.app o7 m7 HYK.out);clear o7 m7)
   go_roundw
   case rel=>exact ⟨j+1,zs++ys,by omega,by go_num,R7,ah (by rw[List.map_append,HM.out,HYS.out,HT.out])⟩
   case measure=>simp[intOf];omega
  ·have HM2:=ah (show zs.map (fun x=>x.row)=bQ aN from by have:=HM.out;rw[List.take_of_length_le (by have:=Hl.out;omega)]at this;exact this)
   have HA4:=ah (HA.out.nx HR.out.own.nx);have f4:=HA4.out.blk.frozen;have c4:=HA4.out.blk.cell;have ha4:a<w4.heap.size:=HA4.out.blk.lt;clear HM d16;go_wp2_with fail;have C5:=ah (((Ch.refl (· =a) w4).setCell (p:=⟨a,19,none⟩) (fun _=>rfl) (.slice none 0 0)).setCell (p:=⟨a,20,none⟩) (fun _=>rfl) (.pointer none));have B5:=ah ((HA4.out.blk.aS 19 (.slice none 0 0)).aS 20 (.pointer none));obtain ⟨w5,hW⟩:∃w5,(w4.setCell ⟨a,19,none⟩ (.slice none 0 0)).setCell ⟨a,20,none⟩ (.pointer none)=w5:=⟨_,rfl⟩;rw[hW]at C5 B5;simp only[hW];have HA5:=ah (HA4.out.aS C5.out (pc':=.slice none 0 0) (NH:=0) B5.out)
   have j_:Hid (∀r∈bQ aN,aT r=true/\r.mid):=ah (fun r hr=>by
    obtain ⟨x,hx,hr⟩:=List.mem_flatMap.1 hr;obtain ⟨y,hy,rfl⟩:=List.mem_map.1 hr;exact ⟨(z1n (HB.out x hx).2).2.2.2.2.2.2 _ (List.mem_map_of_mem hy),(HB.out x hx).1.mid y hy⟩)
   have SH:=ah (fun z (hz:z∈zs)=>j_.out z.row (by rw[←HM2.out];exact List.mem_map_of_mem hz))
   have EH:Hid (zs.length<=1000/\zs.length<=M):=ah (by
    have h1:=congrArg List.length HM2.out;rw[List.length_map]at h1;rw[h1];exact ⟨HRS.out,Vj.out⟩)
   have Yw:=ah ((HR.out.own.rd.ch (by decide) C5.out fun i _ hd e=>by have e2:i=a:=e;have:=hd.2.1;omega).more (D':=fun i=>w.heap.size<=i) fun i hd=>hd.2.1);have Yz:=ah (fun z (hz:z∈zs)=>(HR.out.ok z hz).ch (D':=fun i=>w.heap.size<=i) C5.out (fun i _ hd e=>by have e2:i=a:=e;have:=hd.1;omega) fun i hd=>hd.1);have CW5:=ah (show Ch (· =a) w w5 from (HR.out.own.nx.mono fun _ _ hf=>hf.elim).trans C5.out fun _ _ h=>h);obtain ⟨⟨hw1,hw2⟩,h4,⟨hgr1,hgr2⟩, -, -,hpi,htr, -,hwa⟩:=N_ HA5.out.fits
   have Yu:=ah (Fq (w:=w5.drew) (c:=c2) (d:=k) (window:=C.window) (aH:=C.aH) (Bb:=A) (l:=zs) (Yw.out.nx (by decide) (Ch.refl _ w5).drew) rfl EH.out.1 (fun z hz=>⟨(Yz.out z hz).ch (Ch.refl (fun _=>False) w5).drew (D':=fun i=>w.heap.size<=i) (fun _ _ _ hf=>hf) (fun _ h=>h),(SH.out z hz).2.1,by have:=(Nu (Nw (SH.out z hz).1).1).1;omega⟩) (fun z hz=>by
    have h1:=(SH.out z hz).1;refine ⟨(Nw h1).1,?_⟩;unfold aT at h1;rw[Bool.and_eq_true,Bool.and_eq_true,decide_eq_true_eq]at h1;have:=h1.1.1;omega) hw1 (by omega) ((HA5.out.nx (Ch.refl _ w5).drew).aH.more fun i hi=>by have hi:i<a:=hi;have:=HA5.out.blk.lt;show i<w5.heap.size;omega) (by omega))
   have ha5:a<w5.heap.size:=HA5.out.blk.lt;have HK8:=ah (fun w' (c:Nx w5 w')=>(⟨(HA5.out.nx c).blk.cell 2,(HA5.out.nx c).blk.cell 3⟩:w'.cell? ⟨a,2,none⟩=some (.int .i64 C.window)/\w'.cell? ⟨a,3,none⟩=some (.slice A C.aH.length k)));obtain ⟨q0,q1⟩:=HK8.out w5.drew (Ch.refl _ w5).drew;clear hW f4 c4 HA4 C5 B5 HA hw1 hw2
   go_region_held3 (fun w'=>w'.cell? ⟨a,2,none⟩=some (.int .i64 C.window)/\w'.cell? ⟨a,3,none⟩=some (.slice A C.aH.length k)) (first|(with_reducible exact ⟨q0,q1⟩)|fail) (first
    |(go_at_call 60;refine Yu.out.mono ?_;rintro e w6 ⟨A6,c6,m,zs2,rfl,hm1,hm2,hm3,hm4,hm5,hm6,hm7⟩;have N56:=ah ((Ch.refl (fun _=>False) w5).drew.tr hm6);have zq:=ah hm1;have HMG:=ah hm2;have HMZ:=ah hm3;have WC:=ah hm4;have HMP:=ah hm5;obtain ⟨q0,q1⟩:=HK8.out w6 N56.out;clear hm1 hm2 hm3 hm4 hm5 hm6))
   have hs56:=N56.out.size;have HA6:=ah (HA5.out.nx N56.out);have CW6:=ah (CW5.out.tr N56.out);have hs6:=CW6.out.size;have hs5:=CW5.out.size;have SK:Hid ((zs2.map fun x=>x.row).Perm (bQ aN)):=ah (by rw[HMP.out,←HM2.out];exact WY dN _);have HZ2:Hid (∀z∈zs2,aT z.row=true/\z.row.mid):=ah (fun z hz=>j_.out z.row (SK.out.mem_iff.1 (List.mem_map_of_mem hz)));have HL2:Hid (zs2.length=(bQ aN).length):=ah (by have:=SK.out.length_eq;rw[List.length_map]at this;exact this)
   have HGR:Hid (∀g∈m,(∀z∈g.g.rows,z∈zs2)/\g.g.rows.length<=1000):=ah (fun g hg=>by
    have h1:=WC.out.rows g.g (List.mem_map_of_mem hg);have h2:=List.length_filter_le (fun x:RV=>decide (keyE C.window C.aH x.row=g.g.key)) zs2;refine ⟨fun z hz=>by rw[h1]at hz;exact (List.mem_filter.1 hz).1,by rw[h1];have:=HL2.out;have:=HRS.out;omega⟩)
   have HGM:Hid (m.length<=M):=ah (by
    have h1:=Dv WC.out (fun g hg=>by obtain ⟨g2,hg2,rfl⟩:=List.mem_map.1 hg;exact (HMG.out g2 hg2).2.1);rw[List.length_map]at h1;have:=HL2.out;have:=Vj.out;omega)
   have HG0:Hid (bQ aN=[]->m=[]):=ah (fun h=>by
    have h1:=HL2.out;rw[h]at h1;have h2:zs2=[]:=List.eq_nil_of_length_eq_zero (by simpa using h1);have h3:=Dv WC.out (fun g hg=>by obtain ⟨g2,hg2,rfl⟩:=List.mem_map.1 hg;exact (HMG.out g2 hg2).2.1);rw[h2,List.length_map]at h3;exact List.eq_nil_of_length_eq_zero (by simpa using h3))
   have HG1:Hid (bQ aN≠[]->m≠[]):=ah (fun h e=>h (by
    have h2:zs2=[]:=by
     cases hz:zs2 with
     |nil=>rfl
     |cons z r=>
      obtain ⟨g,hg, -⟩:=WC.out.all z (by rw[hz];exact List.mem_cons_self ..);rw[e]at hg;cases hg
    have h1:=HL2.out;rw[h2]at h1;exact List.eq_nil_of_length_eq_zero (by simpa using h1.symm)))
   obtain ⟨G,hG⟩:∃G,m.length=G:=⟨_,rfl⟩;have yS:=ah hG;rw[hG]at hm7 HGM;simp only[hG];clear hG q0 q1 HK8 Yu Yw Yz SH;go_wp2_with fail;go_loopw [43] (fun i wr=>∃(j:Nat) (v:Value) (iK:List pV),j<=G/\iK.length=j/\i=.int .i64 (j:Int)/\Hid (yV wr a ag life C A k bb wt (.slice Av nv cv) since fl v (j:Int))/\Hid (wr.ownsRow w6.heap.size 145 10 v j (FW iK))/\Hid (NS w.heap.size wr ag life C iK)/\Hid (Ch (· =a) w6 wr)) (fun i _=>G-(intOf i).toNat)
   case atStart=>exact ⟨0,.slice none 0 0,[],Nat.zero_le _,rfl,rfl,HA6,ah (World.ownsRow_nil _ _ _ _),ah (fun h=>absurd rfl h),ah (Ch.refl _ _)⟩
   case round=>
    obtain ⟨w7,rfl⟩:∃w7:World,w7=wr:=⟨_,rfl⟩;clear HA6;obtain ⟨j,v,iK,hjG,hpj,rfl,HA7,HO7,HF7,C7⟩:=hrel;obtain ⟨Ap,cp,rfl, -, -⟩:=h_ HO7.out;have hs67:=C7.out.size;by_cases hlt:j<G
    ·have hjm:j<m.length:=by rw[yS.out];exact hlt
     have hge:∀i,w5.drew.heap.size<=i->i≠a:=fun i hi=>by have h2:w5.heap.size<=i:=hi;omega
     obtain ⟨ad,rfl, -,p0,p1,p2⟩:=XY (zq.out.ch (by decide) C7.out fun i _ hd e=>hge i hd e) hjm;obtain ⟨hg1,hg2,hg3⟩:=HMG.out _ (List.getElem_mem hjm);obtain ⟨hg4,hg5⟩:=HGR.out _ (List.getElem_mem hjm);generalize m[j]=gr at *;obtain ⟨⟨win,part,rows⟩,Ag,cg⟩:=gr;simp only at p0 p1 p2 hg1 hg2 hg3 hg4 hg5;have HG7:=ah (hg1.ch (by decide) C7.out fun i _ hd e=>hge i hd e);have HK7:=ah (fun z (hz:z∈rows)=>(HMZ.out z (hg4 z hz)).ch (D':=fun i=>w5.drew.heap.size<=i) C7.out (fun i _ hd e=>hge i hd e) fun _ h=>h);have HMID:=ah (fun z (hz:z∈rows)=>(HZ2.out z (hg4 z hz)).2);have B8:=ah (aG.new w7 135 #[.int .i64 win,.string part,.slice Ag rows.length cg]);have N78:=ah ((Ch.refl (fun _=>False) w7).alloc (.cells #[.int .i64 win,.string part,.slice Ag rows.length cg] 135));have Iz:=ah hg2;have hrl:0<rows.length:=List.length_pos_iff.2 hg2;clear hg1 hg2 hg4;go_upto_region 11 with fail
     clear p0 p1 p2;obtain ⟨w8,hW⟩:∃w8,w7.alloc (.cells #[.int .i64 win,.string part,.slice Ag rows.length cg] 135)=w8:=⟨_,rfl⟩;obtain ⟨gx,hgx⟩:∃gx,w7.heap.size=gx:=⟨_,rfl⟩;rw[hW]at N78 B8;rw[hgx]at B8;simp only[hW,hgx];have HGX:=ah hgx;clear hW hgx;have HA8:=ah (HA7.out.nx N78.out);have hb2:=Ih (w:=w8.drew) (c:=cg) ((HG7.out.nx (by decide) N78.out).nx (by decide) (Ch.refl _ w8).drew) rfl (by omega) hg3 (fun z hz=>⟨((HK7.out z hz).ch (D':=fun i=>w5.drew.heap.size<=i) N78.out (fun _ _ _ hf=>hf) fun _ h=>h).ch (D':=fun i=>w5.drew.heap.size<=i) (Ch.refl (fun _=>False) w8).drew (fun _ _ _ hf=>hf) fun _ h=>h,HMID.out z hz⟩) C.group (by omega) (by omega);have WH:=ah (hb2.mono fun e w' h=>UQ h);have ha8:a<w8.heap.size:=HA8.out.blk.lt;have hx8:gx<w8.heap.size:=B8.out.lt;have HK11:=ah (fun w' (c:Nx w8 w')=>(⟨(B8.out.nx c).cell 2,(HA8.out.nx c).blk.cell 4⟩:w'.cell? ⟨gx,2,none⟩=some (.slice Ag rows.length cg)/\w'.cell? ⟨a,4,none⟩=some (.int .i64 C.group)));obtain ⟨q0,q1⟩:=HK11.out w8.drew (Ch.refl _ w8).drew;clear hb2 hg3
     go_region_held3 (fun w'=>w'.cell? ⟨gx,2,none⟩=some (.slice Ag rows.length cg)/\w'.cell? ⟨a,4,none⟩=some (.int .i64 C.group)) (first|(with_reducible exact ⟨q0,q1⟩)|fail) (first
      |(go_at_call 61;refine WH.out.mono ?_;rintro e w9 ⟨Bb,nb,cb,er,xs,rfl,hx1,hx2,hx3,hx4,hx5⟩;have N89:=ah ((Ch.refl (fun _=>False) w8).drew.tr hx5);have HXR:=ah hx1;have HXL:=ah hx2;have HXO:=ah hx3;obtain ⟨q0,q1⟩:=HK11.out w9 N89.out;clear hx1 hx2 hx3 hx5))
     have HA9:=ah (HA8.out.nx N89.out);have B9:=ah (B8.out.nx N89.out);have f9:=HA9.out.blk.frozen;have c9:=HA9.out.blk.cell;unfold zn at c9;have ha9:a<w9.heap.size:=HA9.out.blk.lt;have hs89:=N89.out.size;clear q0 q1 HK11 WH;have d21:w9.cell? ⟨a,21,none⟩=some (.int .i64 (j:Int)):=HA9.out.blk.cell 21;have hj64:(j:Int)+1<=1001:=(by omega);go_upto_region 13 with fail
     have C10:=ah ((Ch.refl (· =a) w9).setCell (p:=⟨a,21,none⟩) (fun _=>rfl) (.int .i64 ((j:Int)+1)));have BB10:=ah (HA9.out.blk.aS 21 (.int .i64 ((j:Int)+1)));obtain ⟨w10,hW⟩:∃w10,w9.setCell ⟨a,21,none⟩ (.int .i64 ((j:Int)+1))=w10:=⟨_,rfl⟩;rw[hW]at C10 BB10;simp only[hW];have HA10:=ah (HA9.out.aS C10.out (wt':=wt) (wv':=.slice Av nv cv) (since':=since) (PZ:=fl) (pc':=.slice Ap j cp) (NH:=(j:Int)+1) BB10.out);clear hW f9 c9 d21
     have HD3:=ah (fun w'=>show Calls Tryz.prog 62 #[.int .i64 ((j:Int)+1)] w' (oq (j+1) w') from by
      have:=HDC.out (j+1) w' (by have:=HGM.out;omega);rw[show ((j+1:Nat):Int)=(j:Int)+1 from by omega]at this;exact this)
     have ha10:a<w10.heap.size:=HA10.out.blk.lt;have HK13:=ah (fun w' (c:Nx w10 w')=>(⟨(HA10.out.nx c).blk.cell 0,(HA10.out.nx c).blk.cell 1,(HA10.out.nx c).blk.cell 21⟩:w'.cell? ⟨a,0,none⟩=some (.int .i64 (ag:Int))/\w'.cell? ⟨a,1,none⟩=some (.int .i64 (life:Int))/\w'.cell? ⟨a,21,none⟩=some (.int .i64 ((j:Int)+1))));refine sD (fun w'=>w'.cell? ⟨a,0,none⟩=some (.int .i64 (ag:Int))/\w'.cell? ⟨a,1,none⟩=some (.int .i64 (life:Int))/\w'.cell? ⟨a,21,none⟩=some (.int .i64 ((j:Int)+1))) (fun _=>false) rfl (HK13.out w10.drew (Ch.refl _ w10).drew) (fun hS0=>?_)
     try simp only[Act.put,aA,au,ay]
     refine z00 (i:=0) (oi:=_) (v:=?_) rfl (fun _ _ _ h=>h) (Or.inl ⟨by rfl,?_⟩) ?_;rotate_left
     ·(intro w hSw;(try dsimp only at hSw);go_split_ands;go_simp;try with_reducible rfl)
     try simp only[Act.put,aA,au,ay]
     refine z00 (i:=1) (oi:=_) (v:=?_) rfl (fun _ _ _ h=>h) (Or.inl ⟨by rfl,?_⟩) ?_;rotate_left
     ·(intro w hSw;(try dsimp only at hSw);go_split_ands;go_simp;try with_reducible rfl)
     try simp only[Act.put,aA,au,ay]
     refine z00 (i:=2) (oi:=_) (v:=?_) rfl (fun _ _ _ h=>h) (Or.inl ⟨by rfl,?_⟩) ?_;rotate_left
     ·(intro w hSw;(try dsimp only at hSw);go_split_ands;go_simp;try with_reducible rfl)
     try simp only[Act.put,aA,au,ay]
     refine z00 (i:=3) (oi:=_) (v:=?_) rfl (fun _ _ _ h=>h) (Or.inl ⟨by rfl,?_⟩) ?_;rotate_left
     ·(intro w hSw;(try dsimp only at hSw);go_split_ands;go_simp;try with_reducible rfl)
     try simp only[Act.put,aA,au,ay]
     refine z00 (i:=7) (oi:=_) (v:=?_) rfl (fun _ _ _ h=>h) (Or.inl ⟨by rfl,?_⟩) ?_;rotate_left
     ·(intro w hSw;(try dsimp only at hSw);go_split_ands;go_simp;try with_reducible rfl)
     try simp only[Act.put,aA,au,ay]
     refine z00 (i:=8) (oi:=_) (v:=?_) rfl (fun _ _ _ h=>h) (Or.inl ⟨by rfl,?_⟩) ?_;rotate_left
     ·(intro w hSw;(try dsimp only at hSw);go_split_ands;go_simp;try with_reducible rfl)
     try simp only[Act.put,aA,au,ay]
     refine z00 (i:=9) (oi:=_) (v:=?_) rfl (fun _ _ _ h=>h) (Or.inl ⟨by rfl,?_⟩) ?_;rotate_left
     ·(intro w hSw;(try dsimp only at hSw);go_split_ands;go_simp;try with_reducible rfl)
     try simp only[Act.put,aA,au,ay]
     refine z00 (i:=10) (oi:=_) (v:=?_) rfl (fun _ _ _ h=>h) (Or.inl ⟨by rfl,?_⟩) ?_;rotate_left
     ·(intro w hSw;(try dsimp only at hSw);go_split_ands;go_simp;try with_reducible rfl)
     try simp only[Act.put,aA,au,ay]
     refine z00 (i:=14) (oi:=_) (v:=?_) rfl (fun _ _ _ h=>h) (Or.inl ⟨by rfl,?_⟩) ?_;rotate_left
     ·(intro w hSw;(try dsimp only at hSw);go_split_ands;go_simp;try with_reducible rfl)
     try simp only[Act.put,aA,au,ay]
     refine z00 (i:=15) (oi:=_) (v:=?_) rfl (fun _ _ _ h=>h) (Or.inl ⟨by rfl,?_⟩) ?_;rotate_left
     ·(intro w hSw;(try dsimp only at hSw);go_split_ands;go_simp;try with_reducible rfl)
     try simp only[Act.put,aA,au,ay]
     refine z00 (i:=16) (oi:=_) (v:=?_) rfl (fun _ _ _ h=>h) (Or.inl ⟨by rfl,?_⟩) ?_;rotate_left
     ·(intro w hSw;(try dsimp only at hSw);go_split_ands;go_simp;try with_reducible rfl)
     try simp only[Act.put,aA,au,ay]
     refine z00 (i:=17) (oi:=_) (v:=?_) rfl (fun _ _ _ h=>h) (Or.inl ⟨by rfl,?_⟩) ?_;rotate_left
     ·(intro w hSw;(try dsimp only at hSw);go_split_ands;go_simp;try with_reducible rfl)
     try simp only[Act.put,aA,au,ay]
     refine z02 (rs:=[4]) (by kernel_rfl) (by simp) (z01.cons (o:=_) rfl (fun K hK=>?_) z01.nil);go_simp;refine (HDC.out ag _ hM1).mono ?_;rintro e w11 ⟨s1,rfl,hs1,HT10,n0⟩;have N11:=ah ((Ch.refl (fun _=>False) w10).drew.tr n0);have HT1:=ah HT10;clear n0 HT10;go_wp2_with fail;refine hK.out _ _ (fun _=>HK13.out _ N11.out) (fun aj=>?_);have hHeld:=aj (by decide);clear hK K aj
     try simp only[Act.put,aA,au,ay]
     have k5a:¬9223372036854775807<(⟨#[98,47]⟩:ByteArray).size+s1.size:=by rw[show (⟨#[98,47]⟩:ByteArray).size=2 from rfl];omega
     have k5b:¬9223372036854775807<2+s1.size:=(by omega);refine z00 (i:=5) (oi:=_) (v:=?_) rfl (fun _ _ _ h=>h) (Or.inl ⟨by rfl,?_⟩) ?_;rotate_left
     ·(intro w hSw;(try dsimp only at hSw);go_split_ands;go_simp;try with_reducible rfl)
     try simp only[Act.put,aA,au,ay]
     obtain ⟨t5,ht5⟩:∃t5,(⟨#[98,47]⟩:ByteArray)++s1=t5:=⟨_,rfl⟩;simp only[ht5];have zt5:t5.size<=22:=by rw[←ht5,ByteArray.size_append];first|(rw[show ((⟨#[98,47]⟩:ByteArray):ByteArray).size=2 from rfl];omega)|(rw[show (s1:ByteArray).size=1 from rfl];omega)|omega
     have Ht5:=ah ht5;clear ht5;have k6a:¬9223372036854775807<t5.size+(⟨#[46]⟩:ByteArray).size:=by rw[show (⟨#[46]⟩:ByteArray).size=1 from rfl];omega
     have k6b:¬9223372036854775807<t5.size+1:=(by omega);refine z00 (i:=6) (oi:=_) (v:=?_) rfl (fun _ _ _ h=>h) (Or.inl ⟨by rfl,?_⟩) ?_;rotate_left
     ·(intro w hSw;(try dsimp only at hSw);go_split_ands;go_simp;try with_reducible rfl)
     try simp only[Act.put,aA,au,ay]
     obtain ⟨t6,ht6⟩:∃t6,t5++(⟨#[46]⟩:ByteArray)=t6:=⟨_,rfl⟩;simp only[ht6];have zt6:t6.size<=23:=by rw[←ht6,ByteArray.size_append];first|(rw[show (t5:ByteArray).size=2 from rfl];omega)|(rw[show ((⟨#[46]⟩:ByteArray):ByteArray).size=1 from rfl];omega)|omega
     have Ht6:=ah ht6;clear ht6;refine z02 (rs:=[11]) (by kernel_rfl) (by simp) (z01.cons (o:=_) rfl (fun K hK=>?_) z01.nil);go_simp;refine (HDC.out life _ hM2).mono ?_;rintro e w12 ⟨s2,rfl,hs2,HT20,n0⟩;have N12:=ah (N11.out.tr n0);have HT2:=ah HT20;clear n0 HT20;go_wp2_with fail;refine hK.out _ _ (fun _=>HK13.out _ N12.out) (fun aj=>?_);have hHeld:=aj (by decide);clear hK K aj
     try simp only[Act.put,aA,au,ay]
     have k7a:¬9223372036854775807<t6.size+s2.size:=(by omega);refine z00 (i:=12) (oi:=_) (v:=?_) rfl (fun _ _ _ h=>h) (Or.inl ⟨by rfl,?_⟩) ?_;rotate_left
     ·(intro w hSw;(try dsimp only at hSw);go_split_ands;go_simp;try with_reducible rfl)
     try simp only[Act.put,aA,au,ay]
     obtain ⟨t7,ht7⟩:∃t7,t6++s2=t7:=⟨_,rfl⟩;simp only[ht7];have zt7:t7.size<=43:=by rw[←ht7,ByteArray.size_append];first|(rw[show (t6:ByteArray).size=2 from rfl];omega)|(rw[show (s2:ByteArray).size=1 from rfl];omega)|omega
     have Ht7:=ah ht7;clear ht7;have k8a:¬9223372036854775807<t7.size+(⟨#[46]⟩:ByteArray).size:=by rw[show (⟨#[46]⟩:ByteArray).size=1 from rfl];omega
     have k8b:¬9223372036854775807<t7.size+1:=(by omega);refine z00 (i:=13) (oi:=_) (v:=?_) rfl (fun _ _ _ h=>h) (Or.inl ⟨by rfl,?_⟩) ?_;rotate_left
     ·(intro w hSw;(try dsimp only at hSw);go_split_ands;go_simp;try with_reducible rfl)
     try simp only[Act.put,aA,au,ay]
     obtain ⟨t8,ht8⟩:∃t8,t7++(⟨#[46]⟩:ByteArray)=t8:=⟨_,rfl⟩;simp only[ht8];have zt8:t8.size<=44:=by rw[←ht8,ByteArray.size_append];first|(rw[show (t7:ByteArray).size=2 from rfl];omega)|(rw[show ((⟨#[46]⟩:ByteArray):ByteArray).size=1 from rfl];omega)|omega
     have Ht8:=ah ht8;clear ht8;refine z02 (rs:=[18]) (by kernel_rfl) (by simp) (z01.cons (o:=_) rfl (fun K hK=>?_) z01.nil);go_simp;refine (HD3.out _).mono ?_;rintro e w13 ⟨s3,rfl,hs3,HT30,n0⟩;have N13:=ah (N12.out.tr n0);have HT3:=ah HT30;clear n0 HT30;go_wp2_with fail;refine hK.out _ _ (fun _=>HK13.out _ N13.out) (fun aj=>?_);have hHeld:=aj (by decide);clear hK K aj
     try simp only[Act.put,aA,au,ay]
     have k9a:¬9223372036854775807<t8.size+s3.size:=(by omega);refine z00 (i:=19) (oi:=_) (v:=?_) rfl (fun _ _ _ h=>h) (Or.inl ⟨by rfl,?_⟩) ?_;rotate_left
     ·(intro w hSw;(try dsimp only at hSw);go_split_ands;go_simp;try with_reducible rfl)
     try simp only[Act.put,aA,au,ay]
     obtain ⟨t9,ht9⟩:∃t9,t8++s3=t9:=⟨_,rfl⟩;simp only[ht9];have zt9:t9.size<=64:=by rw[←ht9,ByteArray.size_append];first|(rw[show (t8:ByteArray).size=2 from rfl];omega)|(rw[show (s3:ByteArray).size=1 from rfl];omega)|omega
     have Ht9:=ah ht9;clear ht9;refine z00 (i:=20) (oi:=_) (v:=?_) rfl (fun _ _ _ h=>h) (Or.inl ⟨by rfl,?_⟩) ?_;rotate_left
     ·(intro w hSw;(try dsimp only at hSw);go_split_ands;go_simp;try with_reducible rfl)
     simp only[List.getElem_toArray,List.getElem_cons_zero,List.getElem_cons_succ,Act.put,aA,au,ay];refine kE (by kernel_rfl) ?_ _
     have Vq:Hid (ag<=9->life<=9->j=0->t9=GL ag life):=ah (fun h1 h2 h3=>by
      rw[←Ht9.out,←Ht8.out,←Ht7.out,←Ht6.out,←Ht5.out,HT1.out h1,HT2.out h2,HT3.out (by omega),h3];rfl)
     clear HT1 HT2 HT3 Ht5 Ht6 Ht7 Ht8 Ht9 HK13 HD3 BB10;have hs78:=N78.out.size;have hs910:=C10.out.size;have hs1013:=N13.out.size;have B13:=ah ((B9.out.ch C10.out (show ¬gx=a by have:=HGX.out;omega)).nx N13.out);have HA13:=ah (HA10.out.nx N13.out);have HO13:=ah (z06 (z06 (z06 (z06 HO7.out N78.out (fun _ _ hf=>hf)) N89.out (fun _ _ hf=>hf)) C10.out (fun k hk e=>by have e2:k=a:=e;have:=(World.ownsRow.lt HO7.out k hk).1;omega)) N13.out (fun _ _ hf=>hf));have HG13:=ah (((((HG7.out.nx (by decide) N78.out).nx (by decide) N89.out).ch (by decide) C10.out fun i _ hd e=>hge i hd e).nx (by decide) N13.out).nx (by decide) (Ch.refl _ w13).drew);have HX10:=ah (HXR.out.ch (by decide) C10.out fun i _ hd e=>by have e2:i=a:=e;have h1:w8.heap.size<=i:=hd.1;omega);have HX13:=ah (HX10.out.nx (by decide) N13.out);have HEN:=ah (Hf t9 part win 0 Ag Bb rows.length cg nb cb rows xs HG13.out rfl hrl (by omega) (HX13.out.nx (by decide) (Ch.refl _ w13).drew) HXL.out HXO.out (by omega) (fun i hd=>by have h1:i<w9.heap.size:=hd.2;show i<w13.heap.size;omega));have Nc:=ah (fun w' (c:Nx w13 w')=>TQ (fun i=>w8.drew.heap.size<=i/\i<w9.heap.size) t9 Bb nb cb xs C.piece C.tries C.wait w' (HX13.out.nx (by decide) c) HXL.out ⟨hpi.1,hpi.2,htr.1,htr.2,hwa.1,by omega,hx4⟩)
     have HF10:=ah ((((HF7.out.ch N78.out fun _ _ _ hf=>hf).ch N89.out fun _ _ _ hf=>hf).ch C10.out fun g cs hb e=>by
      have e2:g=a:=e;subst e2;have h2:=hb.symm.trans HA9.out.blk;injection h2 with h2;injection h2 with _ h2;revert h2
      decide).ch N13.out fun _ _ _ hf=>hf)
     have C13:=ah (((C7.out.tr N78.out).tr N89.out |>.trans C10.out fun _ _ h=>h).tr N13.out);have ha13:a<w13.heap.size:=HA13.out.blk.lt;have hx13:gx<w13.heap.size:=B13.out.lt;have HK14:=ah (fun w' (c:Nx w13 w')=>(⟨(HA13.out.nx c).blk.cell 19,(B13.out.nx c).cell 0,(B13.out.nx c).cell 1,(B13.out.nx c).cell 2,(HA13.out.nx c).blk.cell 8,(HA13.out.nx c).blk.cell 9,(HA13.out.nx c).blk.cell 10⟩:w'.cell? ⟨a,19,none⟩=some (.slice Ap j cp)/\w'.cell? ⟨gx,0,none⟩=some (.int .i64 win)/\w'.cell? ⟨gx,1,none⟩=some (.string part)/\w'.cell? ⟨gx,2,none⟩=some (.slice Ag rows.length cg)/\w'.cell? ⟨a,8,none⟩=some (.int .i64 C.piece)/\w'.cell? ⟨a,9,none⟩=some (.int .i64 C.tries)/\w'.cell? ⟨a,10,none⟩=some (.int .i64 C.wait)));obtain ⟨i2,hi2,hy0,hy1,hy2⟩:=info_parts Tryz.Uf;clear HG7 HK7 HXR HX10 HG13 B9 B8 HA8 HA9 HA10 HA7 HO7 HF7 hge q0 q1 hm7;go_wp2_with fail;refine sD (fun w'=>w'.cell? ⟨a,19,none⟩=some (.slice Ap j cp)/\w'.cell? ⟨gx,0,none⟩=some (.int .i64 win)/\w'.cell? ⟨gx,1,none⟩=some (.string part)/\w'.cell? ⟨gx,2,none⟩=some (.slice Ag rows.length cg)/\w'.cell? ⟨a,8,none⟩=some (.int .i64 C.piece)/\w'.cell? ⟨a,9,none⟩=some (.int .i64 C.tries)/\w'.cell? ⟨a,10,none⟩=some (.int .i64 C.wait)) (fun i=>decide (35<=i)) rfl (HK14.out w13.drew (Ch.refl _ w13).drew) (fun hS0=>?_)
     try simp only[Act.put,aA,au,ay]
     refine z00 (i:=0) (oi:=_) (v:=?_) rfl (fun _ _ _ h=>h) (Or.inl ⟨by rfl,?_⟩) ?_;rotate_left
     ·(intro w hSw;(try dsimp only at hSw);go_split_ands;go_simp;try with_reducible rfl)
     try simp only[Act.put,aA,au,ay]
     refine z00 (i:=1) (oi:=_) (v:=?_) rfl (fun _ _ _ h=>h) (Or.inl ⟨by rfl,?_⟩) ?_;rotate_left
     ·(intro w hSw;(try dsimp only at hSw);go_split_ands;go_simp;try with_reducible rfl)
     try simp only[Act.put,aA,au,ay]
     refine z00 (i:=2) (oi:=_) (v:=?_) rfl (fun _ _ _ h=>h) (Or.inl ⟨by rfl,?_⟩) ?_;rotate_left
     ·(intro w hSw;(try dsimp only at hSw);go_split_ands;go_simp;try with_reducible rfl)
     try simp only[Act.put,aA,au,ay]
     refine z00 (i:=3) (oi:=_) (v:=?_) rfl (fun _ _ _ h=>h) (Or.inl ⟨by rfl,?_⟩) ?_;rotate_left
     ·(intro w hSw;(try dsimp only at hSw);go_split_ands;go_simp;try with_reducible rfl)
     try simp only[Act.put,aA,au,ay]
     refine z00 (i:=4) (oi:=_) (v:=?_) rfl (fun _ _ _ h=>h) (Or.inl ⟨by rfl,?_⟩) ?_;rotate_left
     ·(intro w hSw;(try dsimp only at hSw);go_split_ands;go_simp;try with_reducible rfl)
     try simp only[Act.put,aA,au,ay]
     refine z00 (i:=5) (oi:=_) (v:=?_) rfl (fun _ _ _ h=>h) (Or.inl ⟨by rfl,?_⟩) ?_;rotate_left
     ·(intro w hSw;(try dsimp only at hSw);go_split_ands;go_simp;try with_reducible rfl)
     try simp only[Act.put,aA,au,ay]
     refine z00 (i:=6) (oi:=_) (v:=?_) rfl (fun _ _ _ h=>h) (Or.inl ⟨by rfl,?_⟩) ?_;rotate_left
     ·(intro w hSw;(try dsimp only at hSw);go_split_ands;go_simp;try with_reducible rfl)
     try simp only[Act.put,aA,au,ay]
     refine z00 (i:=7) (oi:=_) (v:=?_) rfl (fun _ _ _ h=>h) (Or.inl ⟨by rfl,?_⟩) ?_;rotate_left
     ·(intro w hSw;(try dsimp only at hSw);go_split_ands;go_simp;try with_reducible rfl)
     try simp only[Act.put,aA,au,ay]
     refine z00 (i:=8) (oi:=_) (v:=?_) rfl (fun _ _ _ h=>h) (Or.inl ⟨by rfl,?_⟩) ?_;rotate_left
     ·(intro w hSw;(try dsimp only at hSw);go_split_ands;go_simp;try with_reducible rfl)
     try simp only[Act.put,aA,au,ay]
     refine z00 (i:=9) (oi:=_) (v:=?_) rfl (fun _ _ _ h=>h) (Or.inl ⟨by rfl,?_⟩) ?_;rotate_left
     ·(intro w hSw;(try dsimp only at hSw);go_split_ands;go_simp;try with_reducible rfl)
     try simp only[Act.put,aA,au,ay]
     refine z00 (i:=10) (oi:=_) (v:=?_) rfl (fun _ _ _ h=>h) (Or.inl ⟨by rfl,?_⟩) ?_;rotate_left
     ·(intro w hSw;(try dsimp only at hSw);go_split_ands;go_simp;try with_reducible rfl)
     try simp only[Act.put,aA,au,ay]
     refine z00 (i:=11) (oi:=_) (v:=?_) rfl (fun _ _ _ h=>h) (Or.inl ⟨by rfl,?_⟩) ?_;rotate_left
     ·(intro w hSw;(try dsimp only at hSw);go_split_ands;go_simp;try with_reducible rfl)
     try simp only[Act.put,aA,au,ay]
     refine z00 (i:=12) (oi:=_) (v:=?_) rfl (fun _ _ _ h=>h) (Or.inl ⟨by rfl,?_⟩) ?_;rotate_left
     ·(intro w hSw;(try dsimp only at hSw);go_split_ands;go_simp;try with_reducible rfl)
     try simp only[Act.put,aA,au,ay]
     refine z00 (i:=14) (oi:=_) (v:=?_) rfl (fun _ _ _ h=>h) (Or.inl ⟨by rfl,?_⟩) ?_;rotate_left
     ·(intro w hSw;(try dsimp only at hSw);go_split_ands;go_simp;try with_reducible rfl)
     try simp only[Act.put,aA,au,ay]
     refine z00 (i:=15) (oi:=_) (v:=?_) rfl (fun _ _ _ h=>h) (Or.inl ⟨by rfl,?_⟩) ?_;rotate_left
     ·(intro w hSw;(try dsimp only at hSw);go_split_ands;go_simp;try with_reducible rfl)
     try simp only[Act.put,aA,au,ay]
     refine z00 (i:=16) (oi:=_) (v:=?_) rfl (fun _ _ _ h=>h) (Or.inl ⟨by rfl,?_⟩) ?_;rotate_left
     ·(intro w hSw;(try dsimp only at hSw);go_split_ands;go_simp;try with_reducible rfl)
     try simp only[Act.put,aA,au,ay]
     refine z00 (i:=17) (oi:=_) (v:=?_) rfl (fun _ _ _ h=>h) (Or.inl ⟨by rfl,?_⟩) ?_;rotate_left
     ·(intro w hSw;(try dsimp only at hSw);go_split_ands;go_simp;try with_reducible rfl)
     try simp only[Act.put,aA,au,ay]
     refine z00 (i:=18) (oi:=_) (v:=?_) rfl (fun _ _ _ h=>h) (Or.inl ⟨by rfl,?_⟩) ?_;rotate_left
     ·(intro w hSw;(try dsimp only at hSw);go_split_ands;go_simp;try with_reducible rfl)
     try simp only[Act.put,aA,au,ay]
     refine z00 (i:=19) (oi:=_) (v:=?_) rfl (fun _ _ _ h=>h) (Or.inl ⟨by rfl,?_⟩) ?_;rotate_left
     ·(intro w hSw;(try dsimp only at hSw);go_split_ands;go_simp;try with_reducible rfl)
     try simp only[Act.put,aA,au,ay]
     refine z00 (i:=20) (oi:=_) (v:=?_) rfl (fun _ _ _ h=>h) (Or.inl ⟨by rfl,?_⟩) ?_;rotate_left
     ·(intro w hSw;(try dsimp only at hSw);go_split_ands;go_simp;try with_reducible rfl)
     try simp only[Act.put,aA,au,ay]
     refine z00 (i:=21) (oi:=_) (v:=?_) rfl (fun _ _ _ h=>h) (Or.inl ⟨by rfl,?_⟩) ?_;rotate_left
     ·(intro w hSw;(try dsimp only at hSw);go_split_ands;go_simp;try with_reducible rfl)
     try simp only[Act.put,aA,au,ay]
     refine z00 (i:=22) (oi:=_) (v:=?_) rfl (fun _ _ _ h=>h) (Or.inl ⟨by rfl,?_⟩) ?_;rotate_left
     ·(intro w hSw;(try dsimp only at hSw);go_split_ands;go_simp;try with_reducible rfl)
     try simp only[Act.put,aA,au,ay]
     refine z00 (i:=23) (oi:=_) (v:=?_) rfl (fun _ _ _ h=>h) (Or.inl ⟨by rfl,?_⟩) ?_;rotate_left
     ·(intro w hSw;(try dsimp only at hSw);go_split_ands;go_simp;try with_reducible rfl)
     try simp only[Act.put,aA,au,ay]
     refine z00 (i:=24) (oi:=_) (v:=?_) rfl (fun _ _ _ h=>h) (Or.inl ⟨by rfl,?_⟩) ?_;rotate_left
     ·(intro w hSw;(try dsimp only at hSw);go_split_ands;go_simp;try with_reducible rfl)
     try simp only[Act.put,aA,au,ay]
     refine z00 (i:=25) (oi:=_) (v:=?_) rfl (fun _ _ _ h=>h) (Or.inl ⟨by rfl,?_⟩) ?_;rotate_left
     ·(intro w hSw;(try dsimp only at hSw);go_split_ands;go_simp;try with_reducible rfl)
     try simp only[Act.put,aA,au,ay]
     refine z00 (i:=26) (oi:=_) (v:=?_) rfl (fun _ _ _ h=>h) (Or.inl ⟨by rfl,?_⟩) ?_;rotate_left
     ·(intro w hSw;(try dsimp only at hSw);go_split_ands;go_simp;try with_reducible rfl)
     try simp only[Act.put,aA,au,ay]
     refine z00 (i:=27) (oi:=_) (v:=?_) rfl (fun _ _ _ h=>h) (Or.inl ⟨by rfl,?_⟩) ?_;rotate_left
     ·(intro w hSw;(try dsimp only at hSw);go_split_ands;go_simp;try with_reducible rfl)
     try simp only[Act.put,aA,au,ay]
     refine z00 (i:=28) (oi:=_) (v:=?_) rfl (fun _ _ _ h=>h) (Or.inl ⟨by rfl,?_⟩) ?_;rotate_left
     ·(intro w hSw;(try dsimp only at hSw);go_split_ands;go_simp;try with_reducible rfl)
     try simp only[Act.put,aA,au,ay]
     refine z00 (i:=29) (oi:=_) (v:=?_) rfl (fun _ _ _ h=>h) (Or.inl ⟨by rfl,?_⟩) ?_;rotate_left
     ·(intro w hSw;(try dsimp only at hSw);go_split_ands;go_simp;try with_reducible rfl)
     try simp only[Act.put,aA,au,ay]
     refine z00 (i:=30) (oi:=_) (v:=?_) rfl (fun _ _ _ h=>h) (Or.inl ⟨by rfl,?_⟩) ?_;rotate_left
     ·(intro w hSw;(try dsimp only at hSw);go_split_ands;go_simp;try with_reducible rfl)
     try simp only[Act.put,aA,au,ay]
     refine z02 (rs:=[13]) (by kernel_rfl) (by simp) (z01.cons (o:=_) rfl (fun K hK=>?_) z01.nil);go_simp;refine HEN.out.mono ?_;rintro e w14 ⟨k0,p0,x0,x1,x2,x3,x4,x6,x5,rfl,n0⟩;have N14:=ah ((Ch.refl (fun _=>False) w13).drew.tr n0);clear n0 HEN;go_wp2_with fail;refine hK.out _ _ (fun _=>HK14.out _ N14.out) (fun aj=>?_);have hHeld:=aj (by decide);clear hK K aj
     try simp only[Act.put,aA,au,ay]
     refine z02 (rs:=[31]) (by kernel_rfl) (by simp) (z01.cons (o:=_) rfl (fun K hK=>?_) z01.nil);go_simp;refine (Nc.out _ N14.out).mono ?_;rintro e w15 ⟨g,Ad,cd,rfl,hu1,hu2,n0,hu4,hu5,hu6⟩;have N15:=ah (N14.out.tr n0);have HUP:=ah hu1;have hs14:=N14.out.size;have hs15:=N15.out.size;clear n0 hu1 hu2 hu5 hu6 Nc;go_wp2_with fail;refine hK.out _ _ (fun _=>HK14.out _ N15.out) (fun aj=>?_);have hHeld:=aj (by decide);clear hK K aj
     try simp only[Act.put,aA,au,ay]
     refine z02 (rs:=[32]) (by kernel_rfl) (by simp) (z01.cons (o:=_) rfl (fun K hK=>?_) z01.nil);go_simp;refine hK.out _ _ (fun _=>HK14.out _ N15.out) (fun aj=>?_);have hHeld:=aj (by decide);clear hK K aj
     try simp only[Act.put,aA,au,ay]
     refine z02 (rs:=[33]) (by kernel_rfl) (by simp) (z01.cons (o:=_) rfl (fun K hK=>?_) z01.nil);go_simp;refine hK.out _ _ (fun _=>HK14.out _ (N15.out.alloc _)) (fun aj=>?_);have hHeld:=aj (by decide);clear hK K aj
     try simp only[Act.put,aA,au,ay]
     refine z02 (rs:=[34]) (by kernel_rfl) (by simp) (z01.cons (o:=_) rfl (fun K hK=>?_) z01.nil);have HL10:=ah (Rd.litP w15 ⟨k0,p0,x0,x1,x2,x3,x4,x5,x6,some ⟨g,0,none⟩⟩);have NW:=ah (N15.out.alloc (.cells #[.string k0,.int .i64 x0,.string p0,.int .i64 x1,.int .i64 x2,.int .i64 x3,.int .i64 x4,.int .u32 (x5:Int),.int .i64 x6,.pointer (some ⟨g,0,none⟩)] 145));have ZF:=ah (HA13.out.nx NW.out);have HOW:=ah (z06 HO13.out NW.out (fun _ _ hf=>hf));have BXW:=ah (B13.out.nx NW.out);have HUW:=ah (HUP.out.alloc (.cells #[.string k0,.int .i64 x0,.string p0,.int .i64 x1,.int .i64 x2,.int .i64 x3,.int .i64 x4,.int .u32 (x5:Int),.int .i64 x6,.pointer (some ⟨g,0,none⟩)] 145));have HFW:=ah (HF10.out.ch NW.out fun _ _ _ hf=>hf);have CWW:=ah (C13.out.tr NW.out);refine Ns _ rfl (.tmp 89) (.tmp 118) _ rfl w6.heap.size 145 i2 _ 10 96 Tryz.underlying80 hi2 hy0 hy1 hy2 rfl (by omega) (.slice Ap j cp) j (FW iK) rfl HOW.out _ (some ⟨w15.heap.size,0,none⟩) 1 1 _ rfl HL10.out (O_ _) (by simp only[maxLen];omega) (by omega) (by simp;omega) ?_;intro v9 w16 jq gr9 at9;obtain ⟨A9,c9,hv9, -, -⟩:=h_ jq;subst hv9;have bA:=ZF.out.blk.grown gr9 (fun e=>z07 HOW.out ZF.out.blk (by decide) e.symm);have bG:=BXW.out.grown gr9 (fun e=>z07 HOW.out BXW.out (by decide) e.symm);have bU:=HUW.out.grown gr9 (fun e=>z07 HOW.out HUW.out (by decide) e.symm);have C16:=ah ((Ch.refl (fun i=>(Value.slice Ap j cp).ownBlock=some i) (w15.alloc (.cells #[.string k0,.int .i64 x0,.string p0,.int .i64 x1,.int .i64 x2,.int .i64 x3,.int .i64 x4,.int .u32 (x5:Int),.int .i64 x6,.pointer (some ⟨g,0,none⟩)] 145))).grown gr9 fun k hk _=>hk);have CW16:=ah (CWW.out.grown gr9 fun k hk hkw=>by have:=(World.ownsRow.lt HOW.out k hk).1;omega);have BA:=ah bA;have BU:=ah bU;have O9:=ah jq;have r0:w16.cell? ⟨a,19,none⟩=some (.slice Ap j cp):=bA.cell 19;have r1:w16.cell? ⟨gx,0,none⟩=some (.int .i64 win):=bG.cell 0;have r2:w16.cell? ⟨gx,1,none⟩=some (.string part):=bG.cell 1;have r3:w16.cell? ⟨gx,2,none⟩=some (.slice Ag rows.length cg):=bG.cell 2;have r4:w16.cell? ⟨a,8,none⟩=some (.int .i64 C.piece):=bA.cell 8;have r5:w16.cell? ⟨a,9,none⟩=some (.int .i64 C.tries):=bA.cell 9;have r6:w16.cell? ⟨a,10,none⟩=some (.int .i64 C.wait):=bA.cell 10;have rf:=bA.frozen;have rc:=bA.cell;have ha16:a<w16.heap.size:=bA.lt;clear jq gr9 at9 bA bG bU;refine hK.out _ _ (fun _=>⟨r0,r1,r2,r3,r4,r5,r6⟩) (fun aj=>?_);have hHeld:=aj (by decide);clear hK K aj
     try simp only[Act.put,aA,au,ay]
     refine z02 (rs:=[35]) (by kernel_rfl) (by simp) (z01.cons (o:=_) rfl (fun K hK=>?_) z01.nil);go_simp;refine hK.out _ _ (fun h=>absurd h (by decide)) (fun aj=>?_);clear hK K aj
     try simp only[Act.put,aA,au,ay]
     refine z02 (rs:=[36]) (by kernel_rfl) (by simp) (z01.cons (o:=_) rfl (fun K hK=>?_) z01.nil);go_simp;refine hK.out _ _ (fun h=>absurd h (by decide)) (fun aj=>?_);clear hK K aj
     try simp only[Act.put,aA,au,ay]
     refine z02 (rs:=[37]) (by kernel_rfl) (by simp) (z01.cons (o:=_) rfl (fun K hK=>?_) z01.nil);go_simp;refine hK.out _ _ (fun h=>absurd h (by decide)) (fun aj=>?_);clear hK K aj
     try simp only[Act.put,aA,au,ay]
     refine kE (by kernel_rfl) ?_ _;have CF:=ah ((Ch.refl (· =a) w16).setCell (p:=⟨a,19,none⟩) (fun _=>rfl) (.slice A9 (j+1) c9));have BF:=ah (BA.out.aS 19 (.slice A9 (j+1) c9));have HAF:=ah ((ZF.out.Ib C16.out fun i _ hs=>by have:=(World.ownsRow.lt HOW.out i hs).1;omega).aS CF.out (wt':=wt) (wv':=.slice Av nv cv) (since':=since) (PZ:=fl) (pc':=.slice A9 (j+1) c9) (NH:=(j:Int)+1) BF.out);have WB:=ah (z06 O9.out CF.out fun k hk e=>by have e2:k=a:=e;have:=(World.ownsRow.lt O9.out k hk).1;omega);have CWF:=ah (CW16.out.trans CF.out fun _ _ h=>h)
     have HFF:=ah ((((HFW.out.ch C16.out fun g cs hb hs=>z07 HOW.out hb (by decide) hs).ch CF.out fun g cs hb e=>by
      have e2:g=a:=e;subst e2;have h2:=hb.symm.trans BA.out;injection h2 with h2;injection h2 with _ h2;revert h2
      decide)).add ⟨k0,p0,x0,x1,x2,x3,x4,x5,x6,some ⟨g,0,none⟩⟩ fun h0=>⟨g,_,_,_,rfl,BU.out.ch CF.out (by have:=HA13.out.blk.lt;show ¬g=a;omega),fun h1 h2=>Vq.out h1 h2 (by rw[←hpj,h0];rfl),by omega⟩)
     clear BF BA BU O9 CW16 C16 CWW HUW HOW ZF NW HL10 HFW BXW;go_wp2_with fail;go_roundw
     case rel=>exact ⟨j+1,.slice A9 (j+1) c9,iK++[⟨k0,p0,x0,x1,x2,x3,x4,x5,x6,some ⟨g,0,none⟩⟩],by omega,by rw[List.length_append,hpj];rfl,by go_num,HAF,ah (by rw[show FW (iK++[⟨k0,p0,x0,x1,x2,x3,x4,x5,x6,some ⟨g,0,none⟩⟩])=FW iK++FW [⟨k0,p0,x0,x1,x2,x3,x4,x5,x6,some ⟨g,0,none⟩⟩] by simp[FW]];exact WB.out),HFF,CWF⟩
     case measure=>simp[intOf];omega
    ·have XI:j=G:=by omega
     go_wp2_with fail;go_end0
     subst hpj;refine ⟨rfl,CW6.out.trans C7.out fun _ _ h=>h,.slice Ap iK.length cp,iK,HA7.out,su HO7.out hs6,fun h=>?_,fun h e=>?_,HF7.out⟩
     ·have h1:=HG0.out h
      have h2:=yS.out;rw[h1]at h2;exact List.eq_nil_of_length_eq_zero (by rw[XI];exact h2.symm)
     ·refine HG1.out h (List.eq_nil_of_length_eq_zero ?_)
      rw[yS.out,←XI,e];rfl
end
end Go.Proofs.YtdbfejfhpkakhaaGreat
